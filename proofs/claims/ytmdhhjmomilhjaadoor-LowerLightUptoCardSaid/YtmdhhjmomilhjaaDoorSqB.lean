/-
  Texts that the law rests on: Check1, Check2, Rowx. Conditions: those of each theorem.
-/
import Derived.Test.YtmdhhjmomilhjaaDoorSqA
import Derived.Test.YtmdhhjmomilhjaaDoorRows
namespace Go.Proofs.YtmdhhjmomilhjaaDoor
open Go.Proofs.Tryd
set_option linter.all false
set_option maxRecDepth 4000
open Go.RowKit
theorem mixed : Tryd.prog.follows .mixedOrders = true := by kernel_rfl
def MP.efB (B : Nat) : MP := MP.mem (fun y : (Ef × Option Addr × Nat) × Bool => .tuple #[.agg #[S y.1.1.name, .slice y.1.2.1 y.1.1.ops.length y.1.2.2], .bool y.2]) (fun y m => EfR m y.1.1 [S y.1.1.name, .slice y.1.2.1 y.1.1.ops.length y.1.2.2] ∧ y.1.1.ops.length ≤ B) fun hm h => ⟨h.1.mono hm, h.2⟩
def MP.daB : MP := MP.mem (fun y : (Da × Option Addr × Nat) × (Cs × Option Addr × Nat) × Bool => .tuple #[.agg #[S y.1.1.name, .slice y.1.2.1 y.1.1.cons.length y.1.2.2], .agg #[S y.2.1.1.name, .slice y.2.1.2.1 y.2.1.1.fields.length y.2.1.2.2], .bool y.2.2])
 (fun y m => DaR m y.1.1 [S y.1.1.name, .slice y.1.2.1 y.1.1.cons.length y.1.2.2] ∧ CsR m y.2.1.1 [S y.2.1.1.name, .slice y.2.1.2.1 y.2.1.1.fields.length y.2.1.2.2]) fun hm h => ⟨h.1.mono hm, h.2.mono hm⟩
abbrev Sl3 : Type := Option Addr × Nat × Nat
abbrev slW (z : Sl3) : Value := .slice z.1 z.2.1 z.2.2
abbrev Ty1 : Type := Int × Str × Int × Sl3 × Sl3 × Int
abbrev tyW (z : Ty1) : List Value := [.int .i64 z.1, S z.2.1, .int .i64 z.2.2.1, slW z.2.2.2.1, slW z.2.2.2.2.1, .int .i64 z.2.2.2.2.2]
def MP.aaB : MP := MP.mem (fun y : (Str × Sl3) × (Str × Ty1 × Ty1) × Bool => .tuple #[.agg #[S y.1.1, slW y.1.2], .agg (S y.2.1.1 :: (tyW y.2.1.2.1 ++ tyW y.2.1.2.2)).toArray, .bool y.2.2]) (fun y _ => True) fun _ h => h
def zDp (p : Pg) (t : Ty) : Bool :=
 if t.var ≠ 0 ∨ t.args ≠ [] ∨ t.labels ≠ [] ∨ t.rv ≠ 0 then false else if t.kind = 1 ∨ t.kind = 2 ∨ t.kind = 3 then decide (t.name = []) else p.datas.any fun d => decide (t.kind = 4) && decide (d.name = t.name)
def zBA (l : List Ef) : Nat := (l.map fun e => e.ops.length).sum
def consN (l : List Da) : Nat := (l.map fun e => e.cons.length).sum
theorem opsN_snoc (l : List Ef) (x : Ef) : zBA (l ++ [x]) = zBA l + x.ops.length := by simp [zBA]
theorem zDc (l : List Da) (x : Da) : consN (l ++ [x]) = consN l + x.cons.length := by simp [consN]
theorem opsN_mem {l : List Ef} {x : Ef} (h : x ∈ l) : x.ops.length ≤ zBA l := by
 unfold zBA
 induction l with
 | nil => cases h
 | cons y l ih =>
  simp only [List.map_cons, List.sum_cons]
  rcases List.mem_cons.1 h with rfl | h
  ·omega
  ·have := ih h; omega
theorem opsN_take (l : List Ef) (k : Nat) : zBA (l.take k) ≤ zBA l := by
 unfold zBA
 induction l generalizing k with
 | nil => simp
 | cons x xs ih => cases k with
  | zero => simp
  | succ k => simp only [List.take_succ_cons, List.map_cons, List.sum_cons]; have := ih k; omega
theorem consN_take (l : List Da) (k : Nat) : consN (l.take k) ≤ consN l := by
 unfold consN
 induction l generalizing k with
 | nil => simp
 | cons x xs ih => cases k with
  | zero => simp
  | succ k => simp only [List.take_succ_cons, List.map_cons, List.sum_cons]; have := ih k; omega
def Z9 (k : Int) : Int := if k = 1 ∨ k = 2 ∨ k = 3 ∨ k = 4 then 0 else if k = 5 ∨ k = 12 ∨ k = 13 ∨ k = 14 then 1 else if k = 6 ∨ k = 7 ∨ k = 8 then 2 else if k = 9 then 3 else if k = 10 ∨ k = 11 then -1 else -2
def z1 (k : Int) (s p : Str) (i : Nat) : List Str := if k = 5 then [s] else if k = 7 then (if i = 1 then [s] else []) else if k = 8 then (if i = 0 then [s, p] else [s]) else []
theorem lenPos {α : Type} {l : List α} : (0 < (l.length : Int)) ↔ l ≠ [] := by
 rw [← List.length_pos_iff]; omega
def zCy (t : Tm) : Prop := (Z9 t.kind = (t.kids.length : Int) ∨ Z9 t.kind = -1) ∧ (t.kind ≠ 12 → t.kind ≠ 14 → t.arms = [])
inductive RtT : Tm → Prop where
 | mk {t : Tm} (h : zCy t) (hk : ∀ u ∈ t.kids, RtT u) (ha : ∀ a ∈ t.arms, RtT a.body) : RtT t
theorem RtT.here {t : Tm} (h : RtT t) : zCy t := by cases h; assumption
theorem RtT.kid {t u : Tm} (h : RtT t) (hu : u ∈ t.kids) : RtT u := by cases h with | mk _ hk _ => exact hk u hu
theorem RtT.arm {t : Tm} {a : Ar} (h : RtT t) (ha : a ∈ t.arms) : RtT a.body := by cases h with | mk _ _ hh => exact hh a ha
mutual
/-- How much there is in a term: parts, and all letters. -/
def zt : Tm → Nat
 | ⟨_, _, s, p, _, ks, az, _⟩ => 3 + s.length + p.length + zAG ks + Zy az
def zAG : List Tm → Nat
 | [] => 0
 | t :: ts => zt t + zAG ts
def Zy : List Ar → Nat
 | [] => 0
 | ⟨s, l, b⟩ :: ts => s.length + (l.map fun x => x.length + 2).sum + zt b + Zy ts
end
theorem Zi (t : Tm) : zt t = 3 + t.name.length + t.param.length + zAG t.kids + Zy t.arms := by obtain ⟨k, a, s, p, n, ks, az, r⟩ := t; rw [zt]; rfl
theorem Zc : ∀ {l : List Tm} {u : Tm}, u ∈ l → zt u ≤ zAG l
 | t :: ts, u, h => by
  rw [zAG]
  rcases List.mem_cons.1 h with rfl | h
  ·omega
  ·have := Zc h; omega
theorem sum_len (l : List Str) : l.length ≤ (l.map fun x => x.length + 2).sum := by
 induction l with
 | nil => simp
 | cons x l ih => simp only [List.length_cons, List.map_cons, List.sum_cons]; omega
theorem zBT : ∀ {l : List Ar} {a : Ar}, a ∈ l → a.name.length + (a.vars.map fun x => x.length + 2).sum + zt a.body ≤ Zy l
 | ⟨s, v, b⟩ :: ts, a, h => by
  rw [Zy]
  rcases List.mem_cons.1 h with rfl | h
  ·simp only [Ar.name, Ar.vars, Ar.body]; omega
  ·have := zBT h; omega
theorem bulk_kid {t u : Tm} (h : u ∈ t.kids) : zt u + 3 ≤ zt t := by rw [Zi t]; have := Zc h; omega
theorem bulk_arm {t : Tm} {a : Ar} (h : a ∈ t.arms) : a.vars.length + zt a.body + 3 ≤ zt t := by rw [Zi t]; have := zBT h; have := sum_len a.vars; omega
mutual
def zP : Tm → Nat
 | ⟨_, _, _, _, _, ks, az, _⟩ => 1 + zR ks + zo az
def zR : List Tm → Nat
 | [] => 0
 | t :: ts => zP t + zR ts
def zo : List Ar → Nat
 | [] => 0
 | ⟨_, _, b⟩ :: ts => zP b + zo ts
end
theorem zr (t : Tm) : zP t = 1 + zR t.kids + zo t.arms := by obtain ⟨k, a, s, p, n, ks, az, r⟩ := t; rw [zP]; rfl
theorem Z1 : ∀ l : List Tm, l.length ≤ zR l
 | [] => Nat.zero_le _
 | t :: ts => by rw [zR, List.length_cons, zr]; have := Z1 ts; omega
theorem ZD (a : Ar) (ts : List Ar) : zo (a :: ts) = zP a.body + zo ts := by obtain ⟨s, l, b⟩ := a; rw [zo]; rfl
theorem zAH : ∀ l : List Ar, l.length ≤ zo l
 | [] => Nat.zero_le _
 | t :: ts => by rw [ZD, List.length_cons, zr]; have := zAH ts; omega
set_option maxHeartbeats 400000 in
theorem in_c {w : World} {m : Mem} {o_l : Option Addr} {c_l : Nat} {l : List Str} {s : Str} (hA : Agree w m) (h_l : Strs m o_l l.length c_l l) : FnV Tryd.prog 61 #[.slice o_l l.length c_l, S s] w m (fun _ _ v => v = .bool (decide (s ∈ l))) := by
 have hb_l := h_l.big; have hc_l := h_l.cap
 refine zX (vs := [_, _]) func61 rfl rfl rfl fun a0 hfr0 => ?_
 have hst0 := zW hA (zf [] _ w m)
 have hM : MLe m m := MLe.refl m
 refine zB fun _ hK1 => ?_
 refine rp0 hst0 hfr0 (.cons rfl (zC rfl) <| .nil) fun a1 w1 m1 hst1 hle1 hk1 => ?_
 have hfr1 := hk1.fr (.o 0 <| .o 1 <| .nil)
 replace h_l := h_l.mono hle1
 clear hst0 hfr0 hk1
 refine hK1 _ _ ?_
 refine zB fun _ hK2 => ?_
 refine zB fun _ hK3 => ?_
 refine rp0 hst1 hfr1 (.cons rfl (zC rfl) <| .nil) fun a2 w2 m2 hst2 hle2 hk2 => ?_
 have hfr2 := hk2.fr (.o 0 <| .o 1 <| .n 5 <| .nil)
 replace h_l := h_l.mono hle2
 clear hst1 hfr1 hk2
 refine hK3 _ _ ?_
 refine zN ?_
 refine ze (T := [(0, _), (1, _)]) (fun (y : Nat) => ([(5, .int .i64 (y : Int))] : List (Nat × Value))) (fun _ => _) (fun (y : Nat) m => (y ≤ l.length) ∧ ((s ∈ l) = (s ∈ l.drop y))) (fun y => l.length - y) (0) ⟨hst2, MLe.refl _, hfr2.sub (.c <| .c <| .c <| .nil), ⟨Nat.zero_le _, rfl⟩⟩ fun y a3 w3 m3 hh3 => ?_
 have hst3 := hh3.st; have hle3 := hh3.le; have hfr3 := hh3.fr; have hrel := hh3.rel; clear hh3
 replace h_l := h_l.mono hle3
 clear hst2 hfr2
 obtain ⟨hyn, hrem⟩ := hrel
 have hlh3 := hle3
 refine zB fun _ hK5 => ?_
 refine zB fun _ hK6 => ?_
 refine rp0 hst3 hfr3 (.cons rfl (zD rfl) <| .cons rfl (zD rfl) <| .cons rfl (zY rfl underlying27) <| .cons rfl (z7 rfl rfl) <| .nil) fun a4 w4 m4 hst4 hle4 hk4 => ?_
 have hfr4 := hk4.fr (.o 5 <| .o 0 <| .o 1 <| .n 9 <| .nil)
 replace h_l := h_l.mono hle4
 have hlh4 := hlh3.trans hle4
 clear hst3 hfr3 hk4
 refine hK6 _ _ ?_
 refine zG hfr4 rfl rfl (fun hb9 => ?_) (fun hb9 => ?_)
 ·try simp only [nqs] at hb9
  refine zJ ?_
  refine hK5 _ _ ?_
  refine zB fun _ hK7 => ?_
  refine zN ?_
  refine zB fun _ hK8 => ?_
  obtain ⟨p9, vs9, x9, ho9, hd9, hm_x9, ht9, hcv9, hl9, hv9⟩ := h_l.nth (k := y) (by omega)
  cases ho9
  subst hv9
  try rw [hd9] at hrem
  try simp only [List.mem_cons] at hrem
  refine rp0 hst4 hfr4 (.cons rfl (zD rfl) <| .cons rfl (zD rfl) <| .cons rfl (zH (k := y) rfl rfl underlying27 sizeOf9 rfl (by omega)) <| .cons rfl (ZN rfl hcv9 isAgg9 rfl) <| .cons rfl (zD rfl) <| .cons rfl (z6 rfl rfl) <| .nil) fun a5 w5 m5 hst5 hle5 hk5 => ?_
  have hfr5 := hk5.fr (.o 5 <| .o 0 <| .o 1 <| .n 17 <| .nil)
  clear hst4 hfr4 hk5
  refine hK8 _ _ ?_
  refine zG hfr5 rfl rfl (fun hb17 => ?_) (fun hb17 => ?_)
  ·try simp only [nqs] at hb17
   have hr : decide (s ∈ l) = true := decide_eq_true (by rw [hrem]; exact .inl hb17.symm)
   refine zB fun _ hK10 => ?_
   refine rp0 hst5 hfr5 (.cons rfl (zC rfl) <| .nil) fun a6 w6 m6 hst6 hle6 hk6 => ?_
   have hfr6 := hk6.fr (.o 5 <| .n 4 <| .nil)
   clear hst5 hfr5 hk6
   refine hK10 _ _ ?_
   refine zK ?_
   repeat (with_reducible first | refine zI ?_ | refine zF ?_)
   exact zL hst6 hfr6 rfl (.tmp rfl <| .nil) (by rw [hr]; rfl)
  ·try simp only [nqs] at hb17
   refine zJ ?_
   refine hK7 _ _ ?_
   refine rp0 hst5 hfr5 (.cons rfl (zD rfl) <| .cons rfl (zk rfl rfl ⟨by omega, by omega⟩) <| .cons rfl (zC rfl) <| .nil) fun a6 w6 m6 hst6 hle6 hk6 => ?_
   have hfr6 := hk6.fr (.o 0 <| .o 1 <| .n 5 <| .nil)
   clear hst5 hfr5 hk6
   have zq1 := hle5.trans hle6
   have hlh6 := hlh4.trans zq1
   exact ⟨y + 1, m6, by show l.length - (y + 1) < l.length - y; omega, ⟨hst6, hlh6, hfr6.sub (.c <| .c <| .c <| .nil), ⟨by show y + 1 ≤ l.length; omega, by rw [hrem]; simp only [eq_iff_iff]; exact ⟨fun h => h.resolve_left (Ne.symm hb17), .inr⟩⟩⟩⟩
 ·try simp only [nqs] at hb9
  have hge : y = l.length := by omega
  rw [List.drop_of_length_le (by omega)] at hrem
  refine zg ?_
  refine hK2 _ _ ?_
  refine zB fun _ hK12 => ?_
  refine rp0 hst4 hfr4 (.cons rfl (zC rfl) <| .nil) fun a5 w5 m5 hst5 hle5 hk5 => ?_
  have hfr5 := hk5.fr (.o 5 <| .n 4 <| .nil)
  clear hst4 hfr4 hk5
  refine hK12 _ _ ?_
  refine zK ?_
  repeat (with_reducible first | refine zI ?_ | refine zF ?_)
  exact zL hst5 hfr5 rfl (.tmp rfl <| .nil) (by rw [decide_eq_false (by rw [hrem]; simp)]; rfl)
set_option maxHeartbeats 400000 in
theorem prims_c {w : World} {m : Mem} {s : Str} (hA : Agree w m)  : FnV Tryd.prog 76 #[S s] w m (fun _ m v => MP.anyIB.p m v) := by
 refine zX (vs := [_]) func76 rfl rfl rfl fun a0 hfr0 => ?_
 have hst0 := zW hA (zf [] _ w m)
 have hM : MLe m m := MLe.refl m
 refine zB fun _ hK1 => ?_
 refine rp0 hst0 hfr0 (.cons rfl (zC rfl) <| .cons rfl (zC rfl) <| .nil) fun a1 w1 m1 hst1 hle1 hk1 => ?_
 have hfr1 := hk1.fr (.o 0 <| .nil)
 clear hst0 hfr0 hk1
 refine hK1 _ _ ?_
 refine zB fun _ hK2 => ?_
 refine zB fun _ hK3 => ?_
 refine rp0 hst1 hfr1 (.cons rfl (zD rfl) <| .nil) fun a2 w2 m2 hst2 hle2 hk2 => ?_
 have hfr2 := hk2.fr (.n 4 <| .nil)
 clear hst1 hfr1 hk2
 refine hK3 _ _ ?_
 refine zN ?_
 refine zB fun _ hK4 => ?_
 refine zB fun _ hK5 => ?_
 refine rp0 hst2 hfr2 (.cons rfl (z6 rfl rfl) <| .cons rfl (zC rfl) <| .nil) fun a3 w3 m3 hst3 hle3 hk3 => ?_
 have hfr3 := hk3.fr (.o 4 <| .n 5 <| .nil)
 clear hst2 hfr2 hk3
 refine hK5 _ _ ?_
 refine zG hfr3 rfl rfl (fun hb5 => ?_) (fun hb5 => ?_)
 ·try simp only [nqs] at hb5
  refine zJ ?_
  refine hK4 _ _ ?_
  refine zG hfr3 rfl rfl (fun hb5x => ?_) (fun hb5x => ?_)
  ·try simp only [nqs] at hb5x
   refine zB fun _ hK6 => ?_
   refine rp0 hst3 hfr3 (.cons rfl (zC rfl) <| .cons rfl (zC rfl) <| .nil) fun a4 w4 m4 hst4 hle4 hk4 => ?_
   have hfr4 := hk4.fr (.n 2 <| .n 3 <| .nil)
   clear hst3 hfr3 hk4
   refine hK6 _ _ ?_
   refine zK ?_
   repeat (with_reducible first | refine zI ?_ | refine zF ?_)
   exact zL hst4 hfr4 rfl (.tmp rfl <| .tmp rfl <| .nil) (⟨(_, _), rfl, trivial⟩)
  ·exfalso; try simp only [nqs] at hb5x
   first | exact absurd hb5x hb5 | exact absurd hb5 hb5x | simp_all
 ·try simp only [nqs] at hb5
  refine zB fun _ hK8 => ?_
  refine rp0 hst3 hfr3 (.cons rfl (z6 rfl rfl) <| .cons rfl (zC rfl) <| .nil) fun a4 w4 m4 hst4 hle4 hk4 => ?_
  have hfr4 := hk4.fr (.o 4 <| .n 5 <| .nil)
  clear hst3 hfr3 hk4
  refine hK8 _ _ ?_
  refine zG hfr4 rfl rfl (fun hb5 => ?_) (fun hb5 => ?_)
  ·try simp only [nqs] at hb5
   refine zJ ?_
   refine hK4 _ _ ?_
   refine zG hfr4 rfl rfl (fun hb5x => ?_) (fun hb5x => ?_)
   ·try simp only [nqs] at hb5x
    refine zB fun _ hK9 => ?_
    refine rp0 hst4 hfr4 (.cons rfl (zC rfl) <| .cons rfl (zC rfl) <| .nil) fun a5 w5 m5 hst5 hle5 hk5 => ?_
    have hfr5 := hk5.fr (.n 2 <| .n 3 <| .nil)
    clear hst4 hfr4 hk5
    refine hK9 _ _ ?_
    refine zK ?_
    repeat (with_reducible first | refine zI ?_ | refine zF ?_)
    exact zL hst5 hfr5 rfl (.tmp rfl <| .tmp rfl <| .nil) (⟨(_, _), rfl, trivial⟩)
   ·exfalso; try simp only [nqs] at hb5x
    first | exact absurd hb5x hb5 | exact absurd hb5 hb5x | simp_all
  ·try simp only [nqs] at hb5
   refine zB fun _ hK11 => ?_
   refine rp0 hst4 hfr4 (.cons rfl (z6 rfl rfl) <| .cons rfl (zC rfl) <| .nil) fun a5 w5 m5 hst5 hle5 hk5 => ?_
   have hfr5 := hk5.fr (.o 4 <| .n 5 <| .nil)
   clear hst4 hfr4 hk5
   refine hK11 _ _ ?_
   refine zG hfr5 rfl rfl (fun hb5 => ?_) (fun hb5 => ?_)
   ·try simp only [nqs] at hb5
    refine zJ ?_
    refine hK4 _ _ ?_
    refine zG hfr5 rfl rfl (fun hb5x => ?_) (fun hb5x => ?_)
    ·try simp only [nqs] at hb5x
     refine zB fun _ hK12 => ?_
     refine rp0 hst5 hfr5 (.cons rfl (zC rfl) <| .cons rfl (zC rfl) <| .nil) fun a6 w6 m6 hst6 hle6 hk6 => ?_
     have hfr6 := hk6.fr (.n 2 <| .n 3 <| .nil)
     clear hst5 hfr5 hk6
     refine hK12 _ _ ?_
     refine zK ?_
     repeat (with_reducible first | refine zI ?_ | refine zF ?_)
     exact zL hst6 hfr6 rfl (.tmp rfl <| .tmp rfl <| .nil) (⟨(_, _), rfl, trivial⟩)
    ·exfalso; try simp only [nqs] at hb5x
     first | exact absurd hb5x hb5 | exact absurd hb5 hb5x | simp_all
   ·try simp only [nqs] at hb5
    refine zB fun _ hK14 => ?_
    refine rp0 hst5 hfr5 (.cons rfl (z6 rfl rfl) <| .cons rfl (zC rfl) <| .nil) fun a6 w6 m6 hst6 hle6 hk6 => ?_
    have hfr6 := hk6.fr (.o 4 <| .n 5 <| .nil)
    clear hst5 hfr5 hk6
    refine hK14 _ _ ?_
    refine zG hfr6 rfl rfl (fun hb5 => ?_) (fun hb5 => ?_)
    ·try simp only [nqs] at hb5
     refine zJ ?_
     refine hK4 _ _ ?_
     refine zG hfr6 rfl rfl (fun hb5x => ?_) (fun hb5x => ?_)
     ·try simp only [nqs] at hb5x
      refine zB fun _ hK15 => ?_
      refine rp0 hst6 hfr6 (.cons rfl (zC rfl) <| .cons rfl (zC rfl) <| .nil) fun a7 w7 m7 hst7 hle7 hk7 => ?_
      have hfr7 := hk7.fr (.n 2 <| .n 3 <| .nil)
      clear hst6 hfr6 hk7
      refine hK15 _ _ ?_
      refine zK ?_
      repeat (with_reducible first | refine zI ?_ | refine zF ?_)
      exact zL hst7 hfr7 rfl (.tmp rfl <| .tmp rfl <| .nil) (⟨(_, _), rfl, trivial⟩)
     ·exfalso; try simp only [nqs] at hb5x
      first | exact absurd hb5x hb5 | exact absurd hb5 hb5x | simp_all
    ·try simp only [nqs] at hb5
     refine zB fun _ hK17 => ?_
     refine rp0 hst6 hfr6 (.cons rfl (z6 rfl rfl) <| .cons rfl (zC rfl) <| .nil) fun a7 w7 m7 hst7 hle7 hk7 => ?_
     have hfr7 := hk7.fr (.o 4 <| .n 5 <| .nil)
     clear hst6 hfr6 hk7
     refine hK17 _ _ ?_
     refine zG hfr7 rfl rfl (fun hb5 => ?_) (fun hb5 => ?_)
     ·try simp only [nqs] at hb5
      refine zJ ?_
      refine hK4 _ _ ?_
      refine zG hfr7 rfl rfl (fun hb5x => ?_) (fun hb5x => ?_)
      ·try simp only [nqs] at hb5x
       refine zB fun _ hK18 => ?_
       refine rp0 hst7 hfr7 (.cons rfl (zC rfl) <| .cons rfl (zC rfl) <| .nil) fun a8 w8 m8 hst8 hle8 hk8 => ?_
       have hfr8 := hk8.fr (.n 2 <| .n 3 <| .nil)
       clear hst7 hfr7 hk8
       refine hK18 _ _ ?_
       refine zK ?_
       repeat (with_reducible first | refine zI ?_ | refine zF ?_)
       exact zL hst8 hfr8 rfl (.tmp rfl <| .tmp rfl <| .nil) (⟨(_, _), rfl, trivial⟩)
      ·exfalso; try simp only [nqs] at hb5x
       first | exact absurd hb5x hb5 | exact absurd hb5 hb5x | simp_all
     ·try simp only [nqs] at hb5
      refine zB fun _ hK20 => ?_
      refine rp0 hst7 hfr7 (.cons rfl (z6 rfl rfl) <| .cons rfl (zC rfl) <| .nil) fun a8 w8 m8 hst8 hle8 hk8 => ?_
      have hfr8 := hk8.fr (.o 4 <| .n 5 <| .nil)
      clear hst7 hfr7 hk8
      refine hK20 _ _ ?_
      refine zG hfr8 rfl rfl (fun hb5 => ?_) (fun hb5 => ?_)
      ·try simp only [nqs] at hb5
       refine zJ ?_
       refine hK4 _ _ ?_
       refine zG hfr8 rfl rfl (fun hb5x => ?_) (fun hb5x => ?_)
       ·try simp only [nqs] at hb5x
        refine zB fun _ hK21 => ?_
        refine rp0 hst8 hfr8 (.cons rfl (zC rfl) <| .cons rfl (zC rfl) <| .nil) fun a9 w9 m9 hst9 hle9 hk9 => ?_
        have hfr9 := hk9.fr (.n 2 <| .n 3 <| .nil)
        clear hst8 hfr8 hk9
        refine hK21 _ _ ?_
        refine zK ?_
        repeat (with_reducible first | refine zI ?_ | refine zF ?_)
        exact zL hst9 hfr9 rfl (.tmp rfl <| .tmp rfl <| .nil) (⟨(_, _), rfl, trivial⟩)
       ·exfalso; try simp only [nqs] at hb5x
        first | exact absurd hb5x hb5 | exact absurd hb5 hb5x | simp_all
      ·try simp only [nqs] at hb5
       refine rp0 hst8 hfr8 (.cons rfl (z6 rfl rfl) <| .cons rfl (zC rfl) <| .nil) fun a9 w9 m9 hst9 hle9 hk9 => ?_
       have hfr9 := hk9.fr (.o 4 <| .n 5 <| .nil)
       clear hst8 hfr8 hk9
       refine hK4 _ _ ?_
       refine zG hfr9 rfl rfl (fun hb5 => ?_) (fun hb5 => ?_)
       ·try simp only [nqs] at hb5
        refine zB fun _ hK23 => ?_
        refine rp0 hst9 hfr9 (.cons rfl (zC rfl) <| .cons rfl (zC rfl) <| .nil) fun a10 w10 m10 hst10 hle10 hk10 => ?_
        have hfr10 := hk10.fr (.n 2 <| .n 3 <| .nil)
        clear hst9 hfr9 hk10
        refine hK23 _ _ ?_
        refine zK ?_
        repeat (with_reducible first | refine zI ?_ | refine zF ?_)
        exact zL hst10 hfr10 rfl (.tmp rfl <| .tmp rfl <| .nil) (⟨(_, _), rfl, trivial⟩)
       ·try simp only [nqs] at hb5
        refine zB fun _ hK25 => ?_
        refine zB fun _ hK26 => ?_
        refine rp0 hst9 hfr9 (.cons rfl (z6 rfl rfl) <| .cons rfl (zC rfl) <| .nil) fun a10 w10 m10 hst10 hle10 hk10 => ?_
        have hfr10 := hk10.fr (.o 4 <| .n 13 <| .nil)
        clear hst9 hfr9 hk10
        refine hK26 _ _ ?_
        refine zG hfr10 rfl rfl (fun hb13 => ?_) (fun hb13 => ?_)
        ·try simp only [nqs] at hb13
         refine zJ ?_
         refine hK25 _ _ ?_
         refine zG hfr10 rfl rfl (fun hb13x => ?_) (fun hb13x => ?_)
         ·try simp only [nqs] at hb13x
          refine zB fun _ hK27 => ?_
          refine rp0 hst10 hfr10 (.cons rfl (zC rfl) <| .cons rfl (zC rfl) <| .nil) fun a11 w11 m11 hst11 hle11 hk11 => ?_
          have hfr11 := hk11.fr (.n 2 <| .n 3 <| .nil)
          clear hst10 hfr10 hk11
          refine hK27 _ _ ?_
          refine zK ?_
          repeat (with_reducible first | refine zI ?_ | refine zF ?_)
          exact zL hst11 hfr11 rfl (.tmp rfl <| .tmp rfl <| .nil) (⟨(_, _), rfl, trivial⟩)
         ·exfalso; try simp only [nqs] at hb13x
          first | exact absurd hb13x hb13 | exact absurd hb13 hb13x | simp_all
        ·try simp only [nqs] at hb13
         refine zB fun _ hK29 => ?_
         refine rp0 hst10 hfr10 (.cons rfl (z6 rfl rfl) <| .cons rfl (zC rfl) <| .nil) fun a11 w11 m11 hst11 hle11 hk11 => ?_
         have hfr11 := hk11.fr (.o 4 <| .n 13 <| .nil)
         clear hst10 hfr10 hk11
         refine hK29 _ _ ?_
         refine zG hfr11 rfl rfl (fun hb13 => ?_) (fun hb13 => ?_)
         ·try simp only [nqs] at hb13
          refine zJ ?_
          refine hK25 _ _ ?_
          refine zG hfr11 rfl rfl (fun hb13x => ?_) (fun hb13x => ?_)
          ·try simp only [nqs] at hb13x
           refine zB fun _ hK30 => ?_
           refine rp0 hst11 hfr11 (.cons rfl (zC rfl) <| .cons rfl (zC rfl) <| .nil) fun a12 w12 m12 hst12 hle12 hk12 => ?_
           have hfr12 := hk12.fr (.n 2 <| .n 3 <| .nil)
           clear hst11 hfr11 hk12
           refine hK30 _ _ ?_
           refine zK ?_
           repeat (with_reducible first | refine zI ?_ | refine zF ?_)
           exact zL hst12 hfr12 rfl (.tmp rfl <| .tmp rfl <| .nil) (⟨(_, _), rfl, trivial⟩)
          ·exfalso; try simp only [nqs] at hb13x
           first | exact absurd hb13x hb13 | exact absurd hb13 hb13x | simp_all
         ·try simp only [nqs] at hb13
          refine rp0 hst11 hfr11 (.cons rfl (z6 rfl rfl) <| .cons rfl (zC rfl) <| .nil) fun a12 w12 m12 hst12 hle12 hk12 => ?_
          have hfr12 := hk12.fr (.o 4 <| .n 13 <| .nil)
          clear hst11 hfr11 hk12
          refine hK25 _ _ ?_
          refine zG hfr12 rfl rfl (fun hb13 => ?_) (fun hb13 => ?_)
          ·try simp only [nqs] at hb13
           refine zB fun _ hK32 => ?_
           refine rp0 hst12 hfr12 (.cons rfl (zC rfl) <| .cons rfl (zC rfl) <| .nil) fun a13 w13 m13 hst13 hle13 hk13 => ?_
           have hfr13 := hk13.fr (.n 2 <| .n 3 <| .nil)
           clear hst12 hfr12 hk13
           refine hK32 _ _ ?_
           refine zK ?_
           repeat (with_reducible first | refine zI ?_ | refine zF ?_)
           exact zL hst13 hfr13 rfl (.tmp rfl <| .tmp rfl <| .nil) (⟨(_, _), rfl, trivial⟩)
          ·try simp only [nqs] at hb13
           refine zB fun _ hK34 => ?_
           refine rp0 hst12 hfr12 (.cons rfl (z6 rfl rfl) <| .cons rfl (zC rfl) <| .nil) fun a13 w13 m13 hst13 hle13 hk13 => ?_
           have hfr13 := hk13.fr (.n 17 <| .nil)
           clear hst12 hfr12 hk13
           refine hK34 _ _ ?_
           refine zG hfr13 rfl rfl (fun hb17 => ?_) (fun hb17 => ?_)
           ·try simp only [nqs] at hb17
            refine zB fun _ hK35 => ?_
            refine rp0 hst13 hfr13 (.cons rfl (zC rfl) <| .cons rfl (zC rfl) <| .nil) fun a14 w14 m14 hst14 hle14 hk14 => ?_
            have hfr14 := hk14.fr (.n 2 <| .n 3 <| .nil)
            clear hst13 hfr13 hk14
            refine hK35 _ _ ?_
            refine zK ?_
            repeat (with_reducible first | refine zI ?_ | refine zF ?_)
            exact zL hst14 hfr14 rfl (.tmp rfl <| .tmp rfl <| .nil) (⟨(_, _), rfl, trivial⟩)
           ·try simp only [nqs] at hb17
            refine zJ ?_
            refine hK2 _ _ ?_
            refine zB fun _ hK37 => ?_
            refine rp0 hst13 hfr13 (.cons rfl (zC rfl) <| .cons rfl (zC rfl) <| .nil) fun a14 w14 m14 hst14 hle14 hk14 => ?_
            have hfr14 := hk14.fr (.n 2 <| .n 3 <| .nil)
            clear hst13 hfr13 hk14
            refine hK37 _ _ ?_
            refine zK ?_
            repeat (with_reducible first | refine zI ?_ | refine zF ?_)
            exact zL hst14 hfr14 rfl (.tmp rfl <| .tmp rfl <| .nil) (⟨(_, _), rfl, trivial⟩)
set_option maxHeartbeats 400000 in
theorem handled_c {w : World} {m : Mem} {p : Pg} {vs_p : List Value} {s : Str} (hA : Agree w m) (h_p : PgR m p vs_p) : FnV Tryd.prog 85 #[.agg vs_p.toArray, S s] w m (fun _ m v => (MP.efB (zBA p.effects)).p m v) := by
 obtain ⟨oE_p, cE_p, oD_p, cD_p, bs_p, rfl, hef_p, hda_p, hpb_p⟩ := id h_p
 have hbe_p := hef_p.big; have hce_p := hef_p.cap; have hbda_p := hda_p.big; have hcd_p := hda_p.cap
 obtain ⟨⟨oK_pb, cK_pb, oA_pb, cA_pb, oR_pb, cR_pb, t0_pb, t1_pb, t2_pb, t3_pb, t4_pb, t5_pb, u0_pb, u1_pb, u2_pb, u3_pb, u4_pb, u5_pb⟩, rfl, hon_pb, hkk_pb, haa_pb, hrr_pb⟩ := hpb_p.open_
 dsimp only at hkk_pb haa_pb hrr_pb
 have hbg_pb := hkk_pb.big; have hcp_pb := hkk_pb.cap; have hbh_pb := haa_pb.big; have hcq_pb := haa_pb.cap
 refine zX (vs := [_, _]) func85 rfl rfl rfl fun a0 hfr0 => ?_
 have hst0 := zW hA (zf [] _ w m)
 have hM : MLe m m := MLe.refl m
 refine zB fun _ hK1 => ?_
 replace hst0 := hst0.more (r := .free) trivial List.nodup_nil (by simp [Res.blocks])
 refine ra0 (tch := [(1, 0, (fun v => .blk v _))]) hst0 hfr0 (.cons rfl (zv rfl rfl) <| .consT rfl rfl (fun _ => rfl) rfl (zQ zeroValue115 rfl) <| .cons rfl (zC rfl) <| .nil) fun a1 w1 m1 hst1 hle1 hk1 => ?_
 have hfr1 := hk1.fr (.o 1 <| .nil)
 obtain ⟨g2, e2, hc2⟩ := hk1.ex 2 rfl
 replace hfr1 := hfr1.cons e2
 obtain ⟨g3, e3, _⟩ := hk1.ex 4 rfl
 replace hfr1 := hfr1.cons e3
 replace hst1 := hst1.fin (L' := [_]) (.cons e3 <| .nil)
 replace hef_p := hef_p.mono hle1
 clear hst0 hfr0 hk1
 refine hK1 _ _ ?_
 refine zB fun _ hK4 => ?_
 refine zB fun _ hK5 => ?_
 refine rp0 hst1 hfr1 (.cons rfl (zC rfl) <| .nil) fun a2 w2 m2 hst2 hle2 hk2 => ?_
 have hfr2 := hk2.fr (.o 1 <| .o 2 <| .o 4 <| .n 6 <| .nil)
 replace hef_p := hef_p.mono hle2
 replace hc2 := hc2.mono hle2
 clear hst1 hfr1 hk2
 refine hK5 _ _ ?_
 refine zN ?_
 refine ze (T := [(1, _), (2, _), (4, _)]) (fun (y : Nat) => ([(6, .int .i64 (y : Int))] : List (Nat × Value))) (fun _ => _) (fun (y : Nat) m => (y ≤ p.effects.length)) (fun y => p.effects.length - y) (0) ⟨hst2, MLe.refl _, hfr2.sub (.c <| .c <| .c <| .c <| .nil), Nat.zero_le _⟩ fun y a3 w3 m3 hh3 => ?_
 have hst3 := hh3.st; have hle3 := hh3.le; have hfr3 := hh3.fr; have hrel := hh3.rel; clear hh3
 replace hef_p := hef_p.mono hle3
 replace hc2 := hc2.mono hle3
 clear hst2 hfr2
 have hyn := hrel
 have hlh3 := hle3
 refine zB fun _ hK7 => ?_
 refine zB fun _ hK8 => ?_
 refine rp0 hst3 hfr3 (.cons rfl (zD rfl) <| .cons rfl (zA (off := 0) rfl underlying35 rfl rfl sizeOf22 rfl) <| .cons rfl (zE rfl hc2 isAgg22 rfl) <| .cons rfl (zY rfl underlying22) <| .cons rfl (z7 rfl rfl) <| .nil) fun a4 w4 m4 hst4 hle4 hk4 => ?_
 have hfr4 := hk4.fr (.o 6 <| .o 1 <| .o 2 <| .o 4 <| .n 11 <| .nil)
 replace hef_p := hef_p.mono hle4
 replace hc2 := hc2.mono hle4
 have hlh4 := hlh3.trans hle4
 clear hst3 hfr3 hk4
 refine hK8 _ _ ?_
 refine zG hfr4 rfl rfl (fun hb11 => ?_) (fun hb11 => ?_)
 ·try simp only [nqs] at hb11
  refine zJ ?_
  refine hK7 _ _ ?_
  refine zB fun _ hK9 => ?_
  refine zN ?_
  refine zB fun _ hK10 => ?_
  obtain ⟨p11, vs11, x11, ho11, hd11, hm_x11, ht11, hcv11, hl11, hv11⟩ := hef_p.nth (k := y) (by omega)
  cases ho11
  obtain ⟨oF11, cF11, rfl, hfl11⟩ := id hv11
  have hbf11 := hfl11.big; have hcf11 := hfl11.cap
  refine rp0 hst4 hfr4 (.cons rfl (zA (off := 0) rfl underlying35 rfl rfl sizeOf22 rfl) <| .cons rfl (zE rfl hc2 isAgg22 rfl) <| .cons rfl (zD rfl) <| .cons rfl (zH (k := y) rfl rfl underlying22 sizeOf115 rfl (by omega)) <| .cons rfl (zA (off := 0) rfl underlying115 rfl rfl sizeOf9 rfl) <| .cons rfl (zE rfl hcv11 isAgg9 rfl) <| .cons rfl (zD rfl) <| .cons rfl (z6 rfl rfl) <| .nil) fun a5 w5 m5 hst5 hle5 hk5 => ?_
  have hfr5 := hk5.fr (.o 6 <| .o 1 <| .o 2 <| .o 4 <| .n 21 <| .nil)
  clear hst4 hfr4 hk5
  refine hK10 _ _ ?_
  refine zG hfr5 rfl rfl (fun hb21 => ?_) (fun hb21 => ?_)
  ·try simp only [nqs] at hb21
   refine zB fun _ hK12 => ?_
   replace hc2 := hc2.mono hle5
   replace hcv11 := hcv11.mono hle5
   refine ra0 (tch := [(5, 0, (fun _ => .blk _ _))]) hst5 hfr5 (.cons rfl (zA (off := 0) rfl underlying35 rfl rfl sizeOf22 rfl) <| .cons rfl (zE rfl hc2 isAgg22 rfl) <| .cons rfl (zD rfl) <| .cons rfl (zH (k := y) rfl rfl underlying22 sizeOf115 rfl (by omega)) <| .cons rfl (zO rfl hcv11 isAgg115 sizeOf115 rfl rfl) <| .consT rfl rfl (fun _ => rfl) rfl (za rfl rfl rfl sizeOf115 rfl rfl rfl) <| .cons rfl (zC rfl) <| .nil) fun a6 w6 m6 hst6 hle6 hk6 => ?_
   have hfr6 := hk6.fr (.o 6 <| .o 4 <| .n 5 <| .nil)
   replace hst6 := hst6.fin (L' := [_]) (.cons rfl <| .nil)
   clear hst5 hfr5 hk6
   refine hK12 _ _ ?_
   refine zK ?_
   repeat (with_reducible first | refine zI ?_ | refine zF ?_)
   have zq1 := hle5.trans hle6
   replace hfl11 := hfl11.mono zq1
   exact zL hst6 hfr6 rfl (.cell rfl (zn (zl (hst6.loc.at_ (k := 0) rfl)) isAgg115 sizeOf115) <| .tmp rfl <| .nil) (⟨((x11, (oF11, cF11)), true), rfl, ⟨_, _, rfl, hfl11⟩, opsN_mem hm_x11⟩)
  ·try simp only [nqs] at hb21
   refine zJ ?_
   refine hK9 _ _ ?_
   refine rp0 hst5 hfr5 (.cons rfl (zD rfl) <| .cons rfl (zk rfl rfl ⟨by omega, by omega⟩) <| .cons rfl (zC rfl) <| .nil) fun a6 w6 m6 hst6 hle6 hk6 => ?_
   have hfr6 := hk6.fr (.o 1 <| .o 2 <| .o 4 <| .n 6 <| .nil)
   clear hst5 hfr5 hk6
   have zq2 := hle5.trans hle6
   have hlh6 := hlh4.trans zq2
   exact ⟨y + 1, m6, by show p.effects.length - (y + 1) < p.effects.length - y; omega, ⟨hst6, hlh6, hfr6.sub (.c <| .c <| .c <| .c <| .nil), by show y + 1 ≤ p.effects.length; omega⟩⟩
 ·try simp only [nqs] at hb11
  have hge : y = p.effects.length := by omega
  refine zg ?_
  refine hK4 _ _ ?_
  refine zB fun _ hK14 => ?_
  refine ra0 (tch := [(1, 0, (fun _ => .blk _ _))]) hst4 hfr4 (.cons rfl (zq (.nil) underlying115 zeroValue115 (.cons sizeOf9 <| .cons sizeOf113 <| .nil) rfl) <| .consT rfl rfl (fun _ => rfl) rfl (za rfl rfl rfl sizeOf115 rfl rfl rfl) <| .cons rfl (zC rfl) <| .nil) fun a5 w5 m5 hst5 hle5 hk5 => ?_
  have hfr5 := hk5.fr (.o 6 <| .o 4 <| .n 5 <| .nil)
  replace hst5 := hst5.fin (L' := [_]) (.cons rfl <| .nil)
  clear hst4 hfr4 hk5
  refine hK14 _ _ ?_
  refine zK ?_
  repeat (with_reducible first | refine zI ?_ | refine zF ?_)
  exact zL hst5 hfr5 rfl (.cell rfl (zn (zl (hst5.loc.at_ (k := 0) rfl)) isAgg115 sizeOf115) <| .tmp rfl <| .nil) (⟨((⟨[], []⟩, (none, 0)), false), rfl, ⟨_, _, rfl, Sl.empty⟩, Nat.zero_le _⟩)
set_option maxHeartbeats 400000 in
theorem con_c {w : World} {m : Mem} {p : Pg} {vs_p : List Value} {s : Str} (hA : Agree w m) (h_p : PgR m p vs_p) : FnV Tryd.prog 77 #[.agg vs_p.toArray, S s] w m (fun _ m v => MP.daB.p m v) := by
 obtain ⟨oE_p, cE_p, oD_p, cD_p, bs_p, rfl, hef_p, hda_p, hpb_p⟩ := id h_p
 have hbe_p := hef_p.big; have hce_p := hef_p.cap; have hbda_p := hda_p.big; have hcd_p := hda_p.cap
 obtain ⟨⟨oK_pb, cK_pb, oA_pb, cA_pb, oR_pb, cR_pb, t0_pb, t1_pb, t2_pb, t3_pb, t4_pb, t5_pb, u0_pb, u1_pb, u2_pb, u3_pb, u4_pb, u5_pb⟩, rfl, hon_pb, hkk_pb, haa_pb, hrr_pb⟩ := hpb_p.open_
 dsimp only at hkk_pb haa_pb hrr_pb
 have hbg_pb := hkk_pb.big; have hcp_pb := hkk_pb.cap; have hbh_pb := haa_pb.big; have hcq_pb := haa_pb.cap
 refine zX (vs := [_, _]) func77 rfl rfl rfl fun a0 hfr0 => ?_
 have hst0 := zW hA (zf [] _ w m)
 have hM : MLe m m := MLe.refl m
 refine zB fun _ hK1 => ?_
 replace hst0 := hst0.more (r := .free) trivial List.nodup_nil (by simp [Res.blocks])
 replace hst0 := hst0.more (r := .free) trivial List.nodup_nil (by simp [Res.blocks])
 refine ra0 (tch := [(1, 0, (fun v => .blk v _)), (2, 1, (fun v => .blk v _))]) hst0 hfr0 (.cons rfl (zv rfl rfl) <| .consT rfl rfl (fun _ => rfl) rfl (zQ zeroValue122 rfl) <| .consT rfl rfl (fun _ => rfl) rfl (zQ zeroValue124 rfl) <| .cons rfl (zC rfl) <| .nil) fun a1 w1 m1 hst1 hle1 hk1 => ?_
 have hfr1 := hk1.fr (.o 1 <| .nil)
 obtain ⟨g2, e2, hc2⟩ := hk1.ex 2 rfl
 replace hfr1 := hfr1.cons e2
 obtain ⟨g3, e3, _⟩ := hk1.ex 4 rfl
 replace hfr1 := hfr1.cons e3
 obtain ⟨g4, e4, _⟩ := hk1.ex 5 rfl
 replace hfr1 := hfr1.cons e4
 replace hst1 := hst1.fin (L' := [_, _]) (.cons e3 <| .cons e4 <| .nil)
 replace hda_p := hda_p.mono hle1
 clear hst0 hfr0 hk1
 refine hK1 _ _ ?_
 refine zB fun _ hK5 => ?_
 refine zB fun _ hK6 => ?_
 refine rp0 hst1 hfr1 (.cons rfl (zC rfl) <| .nil) fun a2 w2 m2 hst2 hle2 hk2 => ?_
 have hfr2 := hk2.fr (.o 1 <| .o 2 <| .o 4 <| .o 5 <| .n 7 <| .nil)
 replace hda_p := hda_p.mono hle2
 replace hc2 := hc2.mono hle2
 clear hst1 hfr1 hk2
 refine hK6 _ _ ?_
 refine zN ?_
 refine ze (T := [(1, _), (2, _), (4, _), (5, _)]) (fun (y : Nat) => ([(7, .int .i64 (y : Int))] : List (Nat × Value))) (fun _ => _) (fun (y : Nat) m => (y ≤ p.datas.length)) (fun y => p.datas.length - y) (0) ⟨hst2, MLe.refl _, hfr2.sub (.c <| .c <| .c <| .c <| .c <| .nil), Nat.zero_le _⟩ fun y a3 w3 m3 hh3 => ?_
 have hst3 := hh3.st; have hle3 := hh3.le; have hfr3 := hh3.fr; have hrel := hh3.rel; clear hh3
 replace hda_p := hda_p.mono hle3
 replace hc2 := hc2.mono hle3
 clear hst2 hfr2
 have hyn := hrel
 have hlh3 := hle3
 refine zB fun _ hK8 => ?_
 refine zB fun _ hK9 => ?_
 refine rp0 hst3 hfr3 (.cons rfl (zD rfl) <| .cons rfl (zA (off := 1) rfl underlying35 rfl rfl sizeOf23 rfl) <| .cons rfl (zE rfl hc2 isAgg23 rfl) <| .cons rfl (zY rfl underlying23) <| .cons rfl (z7 rfl rfl) <| .nil) fun a4 w4 m4 hst4 hle4 hk4 => ?_
 have hfr4 := hk4.fr (.o 7 <| .o 1 <| .o 2 <| .o 4 <| .o 5 <| .n 13 <| .nil)
 replace hda_p := hda_p.mono hle4
 replace hc2 := hc2.mono hle4
 have hlh4 := hlh3.trans hle4
 clear hst3 hfr3 hk4
 refine hK9 _ _ ?_
 refine zG hfr4 rfl rfl (fun hb13 => ?_) (fun hb13 => ?_)
 ·try simp only [nqs] at hb13
  refine zJ ?_
  refine hK8 _ _ ?_
  refine zB fun _ hK10 => ?_
  refine zN ?_
  refine zB fun _ hK11 => ?_
  refine rp0 hst4 hfr4 (.cons rfl (zC rfl) <| .nil) fun a5 w5 m5 hst5 hle5 hk5 => ?_
  have hfr5 := hk5.fr (.o 7 <| .o 1 <| .o 2 <| .o 4 <| .o 5 <| .n 8 <| .nil)
  clear hst4 hfr4 hk5
  replace hda_p := hda_p.mono hle5
  obtain ⟨p12, vs12, x12, ho12, hd12, hm_x12, ht12, hcv12, hl12, hv12⟩ := hda_p.nth (k := y) (by omega)
  cases ho12
  obtain ⟨oF12, cF12, rfl, hfl12⟩ := id hv12
  have hbf12 := hfl12.big; have hcf12 := hfl12.cap
  refine hK11 _ _ ?_
  refine zN ?_
  have hlh5 := hlh4.trans hle5
  have hlq13 := hlh5
  refine ze (T := [(7, _), (1, _), (2, _), (4, _), (5, _)]) (fun (k : Nat) => ([(8, .int .i64 (k : Int))] : List (Nat × Value))) (fun _ => _) (fun (k : Nat) m => (k ≤ x12.cons.length)) (fun k => x12.cons.length - k) (0) ⟨hst5, MLe.refl _, hfr5.sub (.c <| .c <| .c <| .c <| .c <| .c <| .nil), Nat.zero_le _⟩ fun k a6 w6 m6 hh6 => ?_
  have hst6 := hh6.st; have hle6 := hh6.le; have hfr6 := hh6.fr; have hrel := hh6.rel; clear hh6
  clear hst5 hfr5
  have hkn := hrel
  have hlh6 := hle6
  refine zB fun _ hK14 => ?_
  refine zB fun _ hK15 => ?_
  have zq1 := hle5.trans hle6
  replace hc2 := hc2.mono zq1
  replace hcv12 := hcv12.mono hle6
  refine rp0 hst6 hfr6 (.cons rfl (zD rfl) <| .cons rfl (zA (off := 1) rfl underlying35 rfl rfl sizeOf23 rfl) <| .cons rfl (zE rfl hc2 isAgg23 rfl) <| .cons rfl (zD rfl) <| .cons rfl (zH (k := y) rfl rfl underlying23 sizeOf122 rfl (by omega)) <| .cons rfl (zA (off := 1) rfl underlying122 rfl rfl sizeOf120 rfl) <| .cons rfl (zE rfl hcv12 isAgg120 rfl) <| .cons rfl (zY rfl underlying120) <| .cons rfl (z7 rfl rfl) <| .nil) fun a7 w7 m7 hst7 hle7 hk7 => ?_
  have hfr7 := hk7.fr (.o 8 <| .o 7 <| .o 1 <| .o 2 <| .o 4 <| .o 5 <| .n 24 <| .nil)
  clear hst6 hfr6 hk7
  refine hK15 _ _ ?_
  refine zG hfr7 rfl rfl (fun hb24 => ?_) (fun hb24 => ?_)
  ·try simp only [nqs] at hb24
   refine zJ ?_
   refine hK14 _ _ ?_
   refine zB fun _ hK16 => ?_
   refine zN ?_
   refine zB fun _ hK17 => ?_
   have zq2 := hle6.trans hle7
   replace hfl12 := hfl12.mono zq2
   obtain ⟨p18, vs18, x18, ho18, hd18, hm_x18, ht18, hcv18, hl18, hv18⟩ := hfl12.nth (k := k) (by omega)
   cases ho18
   obtain ⟨oF18, cF18, rfl, hfl18⟩ := id hv18
   have hbf18 := hfl18.big; have hcf18 := hfl18.cap
   replace hc2 := hc2.mono hle7
   replace hcv12 := hcv12.mono hle7
   refine rp0 hst7 hfr7 (.cons rfl (zA (off := 1) rfl underlying35 rfl rfl sizeOf23 rfl) <| .cons rfl (zE rfl hc2 isAgg23 rfl) <| .cons rfl (zD rfl) <| .cons rfl (zH (k := y) rfl rfl underlying23 sizeOf122 rfl (by omega)) <| .cons rfl (zA (off := 1) rfl underlying122 rfl rfl sizeOf120 rfl) <| .cons rfl (zE rfl hcv12 isAgg120 rfl) <| .cons rfl (zD rfl) <| .cons rfl (zH (k := k) rfl rfl underlying120 sizeOf124 rfl (by omega)) <| .cons rfl (zA (off := 0) rfl underlying124 rfl rfl sizeOf9 rfl) <| .cons rfl (zE rfl hcv18 isAgg9 rfl) <| .cons rfl (zD rfl) <| .cons rfl (z6 rfl rfl) <| .nil) fun a8 w8 m8 hst8 hle8 hk8 => ?_
   have hfr8 := hk8.fr (.o 8 <| .o 7 <| .o 1 <| .o 2 <| .o 4 <| .o 5 <| .n 38 <| .nil)
   clear hst7 hfr7 hk8
   refine hK17 _ _ ?_
   refine zG hfr8 rfl rfl (fun hb38 => ?_) (fun hb38 => ?_)
   ·try simp only [nqs] at hb38
    refine zB fun _ hK19 => ?_
    replace hc2 := hc2.mono hle8
    replace hcv12 := hcv12.mono hle8
    replace hcv18 := hcv18.mono hle8
    refine zz (tch := [(14, 0, (fun _ => .blk _ _)), (15, 1, (fun _ => .blk _ _))]) (fun _ => mixed) hst8 hfr8 (by kernel_rfl) (by kernel_rfl) (by kernel_rfl) (.cons rfl (zA (off := 1) rfl underlying35 rfl rfl sizeOf23 rfl) <| .cons rfl (zE rfl hc2 isAgg23 rfl) <| .cons rfl (zD rfl) <| .cons rfl (zH (k := y) rfl rfl underlying23 sizeOf122 rfl (by omega)) <| .cons rfl (zO rfl hcv12 isAgg122 sizeOf122 rfl rfl) <| .cons rfl (zA (off := 1) rfl underlying35 rfl rfl sizeOf23 rfl) <| .cons rfl (zE rfl hc2 isAgg23 rfl) <| .cons rfl (zD rfl) <| .cons rfl (zH (k := y) rfl rfl underlying23 sizeOf122 rfl (by omega)) <| .cons rfl (zA (off := 1) rfl underlying122 rfl rfl sizeOf120 rfl) <| .cons rfl (zE rfl hcv12 isAgg120 rfl) <| .cons rfl (zD rfl) <| .cons rfl (zH (k := k) rfl rfl underlying120 sizeOf124 rfl (by omega)) <| .cons rfl (zO rfl hcv18 isAgg124 sizeOf124 rfl rfl) <| .consT rfl rfl (fun _ => rfl) rfl (za rfl rfl rfl sizeOf122 rfl rfl rfl) <| .consT rfl rfl (fun _ => rfl) rfl (za rfl rfl rfl sizeOf124 rfl rfl rfl) <| .cons rfl (zC rfl) <| .nil) fun a9 w9 m9 hst9 hle9 hk9 => ?_
    have hfr9 := hk9.fr (.o 8 <| .o 7 <| .o 4 <| .o 5 <| .n 6 <| .nil)
    replace hst9 := hst9.fin (L' := [_, _]) (.cons rfl <| .cons rfl <| .nil)
    clear hst8 hfr8 hk9
    refine hK19 _ _ ?_
    refine zK ?_
    repeat (with_reducible first | refine zI ?_ | refine zF ?_)
    have zq3 := hle8.trans hle9
    replace hfl12 := hfl12.mono zq3
    replace hfl18 := hfl18.mono zq3
    exact zL hst9 hfr9 rfl (.cell rfl (zn (zl (hst9.loc.at_ (k := 0) rfl)) isAgg122 sizeOf122) <| .cell rfl (zn (zl (hst9.loc.at_ (k := 1) rfl)) isAgg124 sizeOf124) <| .tmp rfl <| .nil) (⟨((x12, (_, _)), (x18, (_, _)), true), rfl, ⟨_, _, rfl, hfl12⟩, ⟨_, _, rfl, hfl18⟩⟩)
   ·try simp only [nqs] at hb38
    refine zJ ?_
    refine hK16 _ _ ?_
    refine rp0 hst8 hfr8 (.cons rfl (zD rfl) <| .cons rfl (zk rfl rfl ⟨by omega, by omega⟩) <| .cons rfl (zC rfl) <| .nil) fun a9 w9 m9 hst9 hle9 hk9 => ?_
    have hfr9 := hk9.fr (.o 7 <| .o 1 <| .o 2 <| .o 4 <| .o 5 <| .n 8 <| .nil)
    clear hst8 hfr8 hk9
    have zq4 := hle8.trans hle9
    have zq5 := hle7.trans zq4
    have hlh9 := hlh6.trans zq5
    exact ⟨k + 1, m9, by show x12.cons.length - (k + 1) < x12.cons.length - k; omega, ⟨hst9, hlh9, hfr9.sub (.c <| .c <| .c <| .c <| .c <| .c <| .nil), by show k + 1 ≤ x12.cons.length; omega⟩⟩
  ·try simp only [nqs] at hb24
   have hgek : k = x12.cons.length := by omega
   refine zg ?_
   refine hK10 _ _ ?_
   refine rp0 hst7 hfr7 (.cons rfl (zD rfl) <| .cons rfl (zk rfl rfl ⟨by omega, by omega⟩) <| .cons rfl (zC rfl) <| .nil) fun a8 w8 m8 hst8 hle8 hk8 => ?_
   have hfr8 := hk8.fr (.o 8 <| .o 1 <| .o 2 <| .o 4 <| .o 5 <| .n 7 <| .nil)
   clear hst7 hfr7 hk8
   have zq6 := hle7.trans hle8
   have zq7 := hle6.trans zq6
   replace hlq13 := hlq13.trans zq7
   exact ⟨y + 1, m8, by show p.datas.length - (y + 1) < p.datas.length - y; omega, ⟨hst8, hlq13, hfr8.sub (.c <| .c <| .c <| .c <| .c <| .nil), by show y + 1 ≤ p.datas.length; omega⟩⟩
 ·try simp only [nqs] at hb13
  have hge : y = p.datas.length := by omega
  refine zg ?_
  refine hK5 _ _ ?_
  refine zB fun _ hK21 => ?_
  refine ra0 (tch := [(2, 0, (fun _ => .blk _ _)), (3, 1, (fun _ => .blk _ _))]) hst4 hfr4 (.cons rfl (zq (.nil) underlying122 zeroValue122 (.cons sizeOf9 <| .cons sizeOf120 <| .nil) rfl) <| .cons rfl (zq (.nil) underlying124 zeroValue124 (.cons sizeOf9 <| .cons sizeOf26 <| .nil) rfl) <| .consT rfl rfl (fun _ => rfl) rfl (za rfl rfl rfl sizeOf122 rfl rfl rfl) <| .consT rfl rfl (fun _ => rfl) rfl (za rfl rfl rfl sizeOf124 rfl rfl rfl) <| .cons rfl (zC rfl) <| .nil) fun a5 w5 m5 hst5 hle5 hk5 => ?_
  have hfr5 := hk5.fr (.o 7 <| .o 4 <| .o 5 <| .n 6 <| .nil)
  replace hst5 := hst5.fin (L' := [_, _]) (.cons rfl <| .cons rfl <| .nil)
  clear hst4 hfr4 hk5
  refine hK21 _ _ ?_
  refine zK ?_
  repeat (with_reducible first | refine zI ?_ | refine zF ?_)
  exact zL hst5 hfr5 rfl (.cell rfl (zn (zl (hst5.loc.at_ (k := 0) rfl)) isAgg122 sizeOf122) <| .cell rfl (zn (zl (hst5.loc.at_ (k := 1) rfl)) isAgg124 sizeOf124) <| .tmp rfl <| .nil) (⟨((⟨[], []⟩, (none, 0)), (⟨[], []⟩, (none, 0)), false), rfl, ⟨_, _, rfl, Sl.empty⟩, ⟨_, _, rfl, Sl.empty⟩⟩)
set_option maxHeartbeats 400000 in
theorem effect_c {w : World} {m : Mem} {p : Pg} {vs_p : List Value} {s : Str} (hA : Agree w m) (h_p : PgR m p vs_p) : FnV Tryd.prog 78 #[.agg vs_p.toArray, S s] w m (fun _ m v => MP.aaB.p m v) := by
 obtain ⟨oE_p, cE_p, oD_p, cD_p, bs_p, rfl, hef_p, hda_p, hpb_p⟩ := id h_p
 have hbe_p := hef_p.big; have hce_p := hef_p.cap; have hbda_p := hda_p.big; have hcd_p := hda_p.cap
 obtain ⟨⟨oK_pb, cK_pb, oA_pb, cA_pb, oR_pb, cR_pb, t0_pb, t1_pb, t2_pb, t3_pb, t4_pb, t5_pb, u0_pb, u1_pb, u2_pb, u3_pb, u4_pb, u5_pb⟩, rfl, hon_pb, hkk_pb, haa_pb, hrr_pb⟩ := hpb_p.open_
 dsimp only at hkk_pb haa_pb hrr_pb
 have hbg_pb := hkk_pb.big; have hcp_pb := hkk_pb.cap; have hbh_pb := haa_pb.big; have hcq_pb := haa_pb.cap
 refine zX (vs := [_, _]) func78 rfl rfl rfl fun a0 hfr0 => ?_
 have hst0 := zW hA (zf [] _ w m)
 have hM : MLe m m := MLe.refl m
 refine zB fun _ hK1 => ?_
 replace hst0 := hst0.more (r := .free) trivial List.nodup_nil (by simp [Res.blocks])
 replace hst0 := hst0.more (r := .free) trivial List.nodup_nil (by simp [Res.blocks])
 refine ra0 (tch := [(1, 0, (fun v => .blk v _)), (2, 1, (fun v => .blk v _))]) hst0 hfr0 (.cons rfl (zv rfl rfl) <| .consT rfl rfl (fun _ => rfl) rfl (zQ zeroValue115 rfl) <| .consT rfl rfl (fun _ => rfl) rfl (zQ zeroValue118 rfl) <| .cons rfl (zC rfl) <| .nil) fun a1 w1 m1 hst1 hle1 hk1 => ?_
 have hfr1 := hk1.fr (.o 1 <| .nil)
 obtain ⟨g2, e2, hc2⟩ := hk1.ex 2 rfl
 replace hfr1 := hfr1.cons e2
 obtain ⟨g3, e3, _⟩ := hk1.ex 4 rfl
 replace hfr1 := hfr1.cons e3
 obtain ⟨g4, e4, _⟩ := hk1.ex 5 rfl
 replace hfr1 := hfr1.cons e4
 replace hst1 := hst1.fin (L' := [_, _]) (.cons e3 <| .cons e4 <| .nil)
 replace hef_p := hef_p.mono hle1
 clear hst0 hfr0 hk1
 refine hK1 _ _ ?_
 refine zB fun _ hK5 => ?_
 refine zB fun _ hK6 => ?_
 refine rp0 hst1 hfr1 (.cons rfl (zC rfl) <| .nil) fun a2 w2 m2 hst2 hle2 hk2 => ?_
 have hfr2 := hk2.fr (.o 1 <| .o 2 <| .o 4 <| .o 5 <| .n 7 <| .nil)
 replace hef_p := hef_p.mono hle2
 replace hc2 := hc2.mono hle2
 clear hst1 hfr1 hk2
 refine hK6 _ _ ?_
 refine zN ?_
 refine ze (T := [(1, _), (2, _), (4, _), (5, _)]) (fun (y : Nat) => ([(7, .int .i64 (y : Int))] : List (Nat × Value))) (fun _ => _) (fun (y : Nat) m => (y ≤ p.effects.length)) (fun y => p.effects.length - y) (0) ⟨hst2, MLe.refl _, hfr2.sub (.c <| .c <| .c <| .c <| .c <| .nil), Nat.zero_le _⟩ fun y a3 w3 m3 hh3 => ?_
 have hst3 := hh3.st; have hle3 := hh3.le; have hfr3 := hh3.fr; have hrel := hh3.rel; clear hh3
 replace hef_p := hef_p.mono hle3
 replace hc2 := hc2.mono hle3
 clear hst2 hfr2
 have hyn := hrel
 have hlh3 := hle3
 refine zB fun _ hK8 => ?_
 refine zB fun _ hK9 => ?_
 refine rp0 hst3 hfr3 (.cons rfl (zD rfl) <| .cons rfl (zA (off := 0) rfl underlying35 rfl rfl sizeOf22 rfl) <| .cons rfl (zE rfl hc2 isAgg22 rfl) <| .cons rfl (zY rfl underlying22) <| .cons rfl (z7 rfl rfl) <| .nil) fun a4 w4 m4 hst4 hle4 hk4 => ?_
 have hfr4 := hk4.fr (.o 7 <| .o 1 <| .o 2 <| .o 4 <| .o 5 <| .n 13 <| .nil)
 replace hef_p := hef_p.mono hle4
 replace hc2 := hc2.mono hle4
 have hlh4 := hlh3.trans hle4
 clear hst3 hfr3 hk4
 refine hK9 _ _ ?_
 refine zG hfr4 rfl rfl (fun hb13 => ?_) (fun hb13 => ?_)
 ·try simp only [nqs] at hb13
  refine zJ ?_
  refine hK8 _ _ ?_
  refine zB fun _ hK10 => ?_
  refine zN ?_
  refine zB fun _ hK11 => ?_
  refine rp0 hst4 hfr4 (.cons rfl (zC rfl) <| .nil) fun a5 w5 m5 hst5 hle5 hk5 => ?_
  have hfr5 := hk5.fr (.o 7 <| .o 1 <| .o 2 <| .o 4 <| .o 5 <| .n 8 <| .nil)
  clear hst4 hfr4 hk5
  replace hef_p := hef_p.mono hle5
  obtain ⟨p12, vs12, x12, ho12, hd12, hm_x12, ht12, hcv12, hl12, hv12⟩ := hef_p.nth (k := y) (by omega)
  cases ho12
  obtain ⟨oF12, cF12, rfl, hfl12⟩ := id hv12
  have hbf12 := hfl12.big; have hcf12 := hfl12.cap
  refine hK11 _ _ ?_
  refine zN ?_
  have hlh5 := hlh4.trans hle5
  have hlq13 := hlh5
  refine ze (T := [(7, _), (1, _), (2, _), (4, _), (5, _)]) (fun (k : Nat) => ([(8, .int .i64 (k : Int))] : List (Nat × Value))) (fun _ => _) (fun (k : Nat) m => (k ≤ x12.ops.length)) (fun k => x12.ops.length - k) (0) ⟨hst5, MLe.refl _, hfr5.sub (.c <| .c <| .c <| .c <| .c <| .c <| .nil), Nat.zero_le _⟩ fun k a6 w6 m6 hh6 => ?_
  have hst6 := hh6.st; have hle6 := hh6.le; have hfr6 := hh6.fr; have hrel := hh6.rel; clear hh6
  clear hst5 hfr5
  have hkn := hrel
  have hlh6 := hle6
  refine zB fun _ hK14 => ?_
  refine zB fun _ hK15 => ?_
  have zq1 := hle5.trans hle6
  replace hc2 := hc2.mono zq1
  replace hcv12 := hcv12.mono hle6
  refine rp0 hst6 hfr6 (.cons rfl (zD rfl) <| .cons rfl (zA (off := 0) rfl underlying35 rfl rfl sizeOf22 rfl) <| .cons rfl (zE rfl hc2 isAgg22 rfl) <| .cons rfl (zD rfl) <| .cons rfl (zH (k := y) rfl rfl underlying22 sizeOf115 rfl (by omega)) <| .cons rfl (zA (off := 1) rfl underlying115 rfl rfl sizeOf113 rfl) <| .cons rfl (zE rfl hcv12 isAgg113 rfl) <| .cons rfl (zY rfl underlying113) <| .cons rfl (z7 rfl rfl) <| .nil) fun a7 w7 m7 hst7 hle7 hk7 => ?_
  have hfr7 := hk7.fr (.o 8 <| .o 7 <| .o 1 <| .o 2 <| .o 4 <| .o 5 <| .n 24 <| .nil)
  clear hst6 hfr6 hk7
  refine hK15 _ _ ?_
  refine zG hfr7 rfl rfl (fun hb24 => ?_) (fun hb24 => ?_)
  ·try simp only [nqs] at hb24
   refine zJ ?_
   refine hK14 _ _ ?_
   refine zB fun _ hK16 => ?_
   refine zN ?_
   refine zB fun _ hK17 => ?_
   have zq2 := hle6.trans hle7
   replace hfl12 := hfl12.mono zq2
   obtain ⟨p18, vs18, x18, ho18, hd18, hm_x18, ht18, hcv18, hl18, hv18⟩ := hfl12.nth (k := k) (by omega)
   cases ho18
   obtain ⟨as18, rs18, rfl, hoa18, hob18⟩ := id hv18
   obtain ⟨o18a, c18a, oL18a, cL18a, rfl, hkd18a, hs18a, hi18a, hj18a, hr18a⟩ := hoa18.open_
   have hbg18a := hkd18a.big; have hcp18a := hkd18a.cap; have hbs18a := hs18a.big; have hcs18a := hs18a.cap
   have hrw18a : RwR _ ⟨x18.arg.labels, x18.arg.rv⟩ _ := ⟨_, _, rfl, hs18a, hr18a⟩
   obtain ⟨o18r, c18r, oL18r, cL18r, rfl, hkd18r, hs18r, hi18r, hj18r, hr18r⟩ := hob18.open_
   have hbg18r := hkd18r.big; have hcp18r := hkd18r.cap; have hbs18r := hs18r.big; have hcs18r := hs18r.cap
   have hrw18r : RwR _ ⟨x18.res.labels, x18.res.rv⟩ _ := ⟨_, _, rfl, hs18r, hr18r⟩
   replace hc2 := hc2.mono hle7
   replace hcv12 := hcv12.mono hle7
   refine rp0 hst7 hfr7 (.cons rfl (zA (off := 0) rfl underlying35 rfl rfl sizeOf22 rfl) <| .cons rfl (zE rfl hc2 isAgg22 rfl) <| .cons rfl (zD rfl) <| .cons rfl (zH (k := y) rfl rfl underlying22 sizeOf115 rfl (by omega)) <| .cons rfl (zA (off := 1) rfl underlying115 rfl rfl sizeOf113 rfl) <| .cons rfl (zE rfl hcv12 isAgg113 rfl) <| .cons rfl (zD rfl) <| .cons rfl (zH (k := k) rfl rfl underlying113 sizeOf118 rfl (by omega)) <| .cons rfl (zA (off := 0) rfl underlying118 rfl rfl sizeOf9 rfl) <| .cons rfl (zE rfl hcv18 isAgg9 rfl) <| .cons rfl (zD rfl) <| .cons rfl (z6 rfl rfl) <| .nil) fun a8 w8 m8 hst8 hle8 hk8 => ?_
   have hfr8 := hk8.fr (.o 8 <| .o 7 <| .o 1 <| .o 2 <| .o 4 <| .o 5 <| .n 38 <| .nil)
   clear hst7 hfr7 hk8
   refine hK17 _ _ ?_
   refine zG hfr8 rfl rfl (fun hb38 => ?_) (fun hb38 => ?_)
   ·try simp only [nqs] at hb38
    refine zB fun _ hK19 => ?_
    replace hc2 := hc2.mono hle8
    replace hcv12 := hcv12.mono hle8
    replace hcv18 := hcv18.mono hle8
    refine zz (tch := [(14, 0, (fun _ => .blk _ _)), (15, 1, (fun _ => .blk _ _))]) (fun _ => mixed) hst8 hfr8 (by kernel_rfl) (by kernel_rfl) (by kernel_rfl) (.cons rfl (zA (off := 0) rfl underlying35 rfl rfl sizeOf22 rfl) <| .cons rfl (zE rfl hc2 isAgg22 rfl) <| .cons rfl (zD rfl) <| .cons rfl (zH (k := y) rfl rfl underlying22 sizeOf115 rfl (by omega)) <| .cons rfl (zO rfl hcv12 isAgg115 sizeOf115 rfl rfl) <| .cons rfl (zA (off := 0) rfl underlying35 rfl rfl sizeOf22 rfl) <| .cons rfl (zE rfl hc2 isAgg22 rfl) <| .cons rfl (zD rfl) <| .cons rfl (zH (k := y) rfl rfl underlying22 sizeOf115 rfl (by omega)) <| .cons rfl (zA (off := 1) rfl underlying115 rfl rfl sizeOf113 rfl) <| .cons rfl (zE rfl hcv12 isAgg113 rfl) <| .cons rfl (zD rfl) <| .cons rfl (zH (k := k) rfl rfl underlying113 sizeOf118 rfl (by omega)) <| .cons rfl (zO rfl hcv18 isAgg118 sizeOf118 rfl rfl) <| .consT rfl rfl (fun _ => rfl) rfl (za rfl rfl rfl sizeOf115 rfl rfl rfl) <| .consT rfl rfl (fun _ => rfl) rfl (za rfl rfl rfl sizeOf118 rfl rfl rfl) <| .cons rfl (zC rfl) <| .nil) fun a9 w9 m9 hst9 hle9 hk9 => ?_
    have hfr9 := hk9.fr (.o 8 <| .o 7 <| .o 4 <| .o 5 <| .n 6 <| .nil)
    replace hst9 := hst9.fin (L' := [_, _]) (.cons rfl <| .cons rfl <| .nil)
    clear hst8 hfr8 hk9
    refine hK19 _ _ ?_
    refine zK ?_
    repeat (with_reducible first | refine zI ?_ | refine zF ?_)
    exact zL hst9 hfr9 rfl (.cell rfl (zn (zl (hst9.loc.at_ (k := 0) rfl)) isAgg115 sizeOf115) <| .cell rfl (zn (zl (hst9.loc.at_ (k := 1) rfl)) isAgg118 sizeOf118) <| .tmp rfl <| .nil) (⟨((_, (_, _, _)), (_, (_, _, _, (_, _, _), (_, _, _), _), (_, _, _, (_, _, _), (_, _, _), _)), true), rfl, trivial⟩)
   ·try simp only [nqs] at hb38
    refine zJ ?_
    refine hK16 _ _ ?_
    refine rp0 hst8 hfr8 (.cons rfl (zD rfl) <| .cons rfl (zk rfl rfl ⟨by omega, by omega⟩) <| .cons rfl (zC rfl) <| .nil) fun a9 w9 m9 hst9 hle9 hk9 => ?_
    have hfr9 := hk9.fr (.o 7 <| .o 1 <| .o 2 <| .o 4 <| .o 5 <| .n 8 <| .nil)
    clear hst8 hfr8 hk9
    have zq3 := hle8.trans hle9
    have zq4 := hle7.trans zq3
    have hlh9 := hlh6.trans zq4
    exact ⟨k + 1, m9, by show x12.ops.length - (k + 1) < x12.ops.length - k; omega, ⟨hst9, hlh9, hfr9.sub (.c <| .c <| .c <| .c <| .c <| .c <| .nil), by show k + 1 ≤ x12.ops.length; omega⟩⟩
  ·try simp only [nqs] at hb24
   have hgek : k = x12.ops.length := by omega
   refine zg ?_
   refine hK10 _ _ ?_
   refine rp0 hst7 hfr7 (.cons rfl (zD rfl) <| .cons rfl (zk rfl rfl ⟨by omega, by omega⟩) <| .cons rfl (zC rfl) <| .nil) fun a8 w8 m8 hst8 hle8 hk8 => ?_
   have hfr8 := hk8.fr (.o 8 <| .o 1 <| .o 2 <| .o 4 <| .o 5 <| .n 7 <| .nil)
   clear hst7 hfr7 hk8
   have zq5 := hle7.trans hle8
   have zq6 := hle6.trans zq5
   replace hlq13 := hlq13.trans zq6
   exact ⟨y + 1, m8, by show p.effects.length - (y + 1) < p.effects.length - y; omega, ⟨hst8, hlq13, hfr8.sub (.c <| .c <| .c <| .c <| .c <| .nil), by show y + 1 ≤ p.effects.length; omega⟩⟩
 ·try simp only [nqs] at hb13
  have hge : y = p.effects.length := by omega
  refine zg ?_
  refine hK5 _ _ ?_
  refine zB fun _ hK21 => ?_
  refine ra0 (tch := [(2, 0, (fun _ => .blk _ _)), (3, 1, (fun _ => .blk _ _))]) hst4 hfr4 (.cons rfl (zq (.nil) underlying115 zeroValue115 (.cons sizeOf9 <| .cons sizeOf113 <| .nil) rfl) <| .cons rfl (zq (.nil) underlying118 zeroValue118 (.cons sizeOf9 <| .cons sizeOf31 <| .cons sizeOf31 <| .nil) rfl) <| .consT rfl rfl (fun _ => rfl) rfl (za rfl rfl rfl sizeOf115 rfl rfl rfl) <| .consT rfl rfl (fun _ => rfl) rfl (za rfl rfl rfl sizeOf118 rfl rfl rfl) <| .cons rfl (zC rfl) <| .nil) fun a5 w5 m5 hst5 hle5 hk5 => ?_
  have hfr5 := hk5.fr (.o 7 <| .o 4 <| .o 5 <| .n 6 <| .nil)
  replace hst5 := hst5.fin (L' := [_, _]) (.cons rfl <| .cons rfl <| .nil)
  clear hst4 hfr4 hk5
  refine hK21 _ _ ?_
  refine zK ?_
  repeat (with_reducible first | refine zI ?_ | refine zF ?_)
  exact zL hst5 hfr5 rfl (.cell rfl (zn (zl (hst5.loc.at_ (k := 0) rfl)) isAgg115 sizeOf115) <| .cell rfl (zn (zl (hst5.loc.at_ (k := 1) rfl)) isAgg118 sizeOf118) <| .tmp rfl <| .nil) (⟨((_, (_, _, _)), (_, (_, _, _, (_, _, _), (_, _, _), _), (_, _, _, (_, _, _), (_, _, _), _)), false), rfl, trivial⟩)
set_option maxHeartbeats 400000 in
theorem first_c {w : World} {m : Mem} {p : Pg} {vs_p : List Value} {t : Ty} {vs_t : List Value} (hA : Agree w m) (h_p : PgR m p vs_p) (h_t : TyR m t vs_t) : FnV Tryd.prog 62 #[.agg vs_p.toArray, .agg vs_t.toArray] w m (fun _ _ v => v = .bool (zDp p t)) := by
 obtain ⟨oE_p, cE_p, oD_p, cD_p, bs_p, rfl, hef_p, hda_p, hpb_p⟩ := id h_p
 have hbe_p := hef_p.big; have hce_p := hef_p.cap; have hbda_p := hda_p.big; have hcd_p := hda_p.cap
 obtain ⟨⟨oK_pb, cK_pb, oA_pb, cA_pb, oR_pb, cR_pb, t0_pb, t1_pb, t2_pb, t3_pb, t4_pb, t5_pb, u0_pb, u1_pb, u2_pb, u3_pb, u4_pb, u5_pb⟩, rfl, hon_pb, hkk_pb, haa_pb, hrr_pb⟩ := hpb_p.open_
 dsimp only at hkk_pb haa_pb hrr_pb
 have hbg_pb := hkk_pb.big; have hcp_pb := hkk_pb.cap; have hbh_pb := haa_pb.big; have hcq_pb := haa_pb.cap
 obtain ⟨o_t, c_t, oL_t, cL_t, rfl, hk_t, hs_t, hi_t, hj_t, hr_t⟩ := h_t.open_
 have hbg_t := hk_t.big; have hcp_t := hk_t.cap; have hbs_t := hs_t.big; have hcs_t := hs_t.cap
 have hrw_t : RwR _ ⟨t.labels, t.rv⟩ _ := ⟨_, _, rfl, hs_t, hr_t⟩
 refine zX (vs := [_, _]) func62 rfl rfl rfl fun a0 hfr0 => ?_
 have hst0 := zW hA (zf [] _ w m)
 have hM : MLe m m := MLe.refl m
 refine zB fun _ hK1 => ?_
 refine rp0 hst0 hfr0 (.cons rfl (zv rfl rfl) <| .cons rfl (zv rfl rfl) <| .cons rfl (zC rfl) <| .nil) fun a1 w1 m1 hst1 hle1 hk1 => ?_
 have hfr1 := hk1.fr (.nil)
 obtain ⟨g2, e2, hc2⟩ := hk1.ex 2 rfl
 replace hfr1 := hfr1.cons e2
 obtain ⟨g3, e3, hc3⟩ := hk1.ex 3 rfl
 replace hfr1 := hfr1.cons e3
 replace hda_p := hda_p.mono hle1
 clear hst0 hfr0 hk1
 refine hK1 _ _ ?_
 refine zB fun _ hK4 => ?_
 refine zB fun _ hK5 => ?_
 refine rp0 hst1 hfr1 (.cons rfl (zA (off := 2) rfl underlying31 rfl rfl sizeOf3 rfl) <| .cons rfl (zE rfl hc3 isAgg3 rfl) <| .cons rfl (ZP rfl rfl) <| .cons rfl (zD rfl) <| .cons rfl (zA (off := 3) rfl underlying31 rfl rfl sizeOf26 rfl) <| .cons rfl (zE rfl hc3 isAgg26 rfl) <| .cons rfl (zY rfl underlying26) <| .cons rfl (zAw rfl rfl) <| .cons rfl (zx rfl rfl rfl) <| .cons rfl (zD rfl) <| .cons rfl (zA (off := 4) rfl underlying31 rfl rfl sizeOf29 rfl) <| .cons rfl (zA (off := 0) rfl underlying29 rfl rfl sizeOf27 rfl) <| .cons rfl (zE rfl (hc3.drop 4) isAgg27 rfl) <| .cons rfl (zY rfl underlying27) <| .cons rfl (zAw rfl rfl) <| .cons rfl (zx rfl rfl rfl) <| .cons rfl (zD rfl) <| .cons rfl (zA (off := 4) rfl underlying31 rfl rfl sizeOf29 rfl) <| .cons rfl (zA (off := 1) rfl underlying29 rfl rfl sizeOf3 rfl) <| .cons rfl (zE rfl (hc3.drop 4) isAgg3 rfl) <| .cons rfl (ZP rfl rfl) <| .cons rfl (zx rfl rfl rfl) <| .nil) fun a2 w2 m2 hst2 hle2 hk2 => ?_
 have hfr2 := hk2.fr (.o 2 <| .o 3 <| .n 27 <| .nil)
 replace hda_p := hda_p.mono hle2
 replace hc2 := hc2.mono hle2
 replace hc3 := hc3.mono hle2
 clear hst1 hfr1 hk2
 refine hK5 _ _ ?_
 refine zG hfr2 rfl rfl (fun hb27 => ?_) (fun hb27 => ?_)
 ·try simp only [nqs] at hb27
  have hc : t.var ≠ 0 ∨ t.args ≠ [] ∨ t.labels ≠ [] ∨ t.rv ≠ 0 := by rw [← lenPos (l := t.args), ← lenPos (l := t.labels)]; omega
  refine zB fun _ hK6 => ?_
  refine rp0 hst2 hfr2 (.cons rfl (zC rfl) <| .nil) fun a3 w3 m3 hst3 hle3 hk3 => ?_
  have hfr3 := hk3.fr (.n 4 <| .nil)
  clear hst2 hfr2 hk3
  refine hK6 _ _ ?_
  refine zK ?_
  repeat (with_reducible first | refine zI ?_ | refine zF ?_)
  exact zL hst3 hfr3 rfl (.tmp rfl <| .nil) (by refine congrArg Value.bool ?_; unfold zDp; rw [if_pos hc])
 ·try simp only [nqs] at hb27
  have hc : ¬ (t.var ≠ 0 ∨ t.args ≠ [] ∨ t.labels ≠ [] ∨ t.rv ≠ 0) := by rw [← lenPos (l := t.args), ← lenPos (l := t.labels)]; omega
  refine zJ ?_
  refine hK4 _ _ ?_
  refine zB fun _ hK8 => ?_
  refine zB fun _ hK9 => ?_
  refine rp0 hst2 hfr2 (.cons rfl (zA (off := 0) rfl underlying31 rfl rfl sizeOf3 rfl) <| .cons rfl (zE rfl hc3 isAgg3 rfl) <| .cons rfl (zV rfl rfl) <| .cons rfl (zD rfl) <| .cons rfl (zA (off := 0) rfl underlying31 rfl rfl sizeOf3 rfl) <| .cons rfl (zE rfl hc3 isAgg3 rfl) <| .cons rfl (zV rfl rfl) <| .cons rfl (zx rfl rfl rfl) <| .cons rfl (zD rfl) <| .cons rfl (zA (off := 0) rfl underlying31 rfl rfl sizeOf3 rfl) <| .cons rfl (zE rfl hc3 isAgg3 rfl) <| .cons rfl (zV rfl rfl) <| .cons rfl (zx rfl rfl rfl) <| .nil) fun a3 w3 m3 hst3 hle3 hk3 => ?_
  have hfr3 := hk3.fr (.o 2 <| .o 3 <| .n 40 <| .nil)
  clear hst2 hfr2 hk3
  refine hK9 _ _ ?_
  refine zG hfr3 rfl rfl (fun hb40 => ?_) (fun hb40 => ?_)
  ·try simp only [nqs] at hb40
   have hd : t.kind = 1 ∨ t.kind = 2 ∨ t.kind = 3 := by omega
   refine zB fun _ hK10 => ?_
   replace hc3 := hc3.mono hle3
   refine rp0 hst3 hfr3 (.cons rfl (zA (off := 1) rfl underlying31 rfl rfl sizeOf9 rfl) <| .cons rfl (zE rfl hc3 isAgg9 rfl) <| .cons rfl (z6 rfl rfl) <| .cons rfl (zC rfl) <| .nil) fun a4 w4 m4 hst4 hle4 hk4 => ?_
   have hfr4 := hk4.fr (.n 4 <| .nil)
   clear hst3 hfr3 hk4
   refine hK10 _ _ ?_
   refine zK ?_
   repeat (with_reducible first | refine zI ?_ | refine zF ?_)
   exact zL hst4 hfr4 rfl (.tmp rfl <| .nil) (by refine congrArg Value.bool ?_; unfold zDp; rw [if_neg hc, if_pos hd])
  ·try simp only [nqs] at hb40
   have hd : ¬ (t.kind = 1 ∨ t.kind = 2 ∨ t.kind = 3) := by omega
   refine zJ ?_
   refine hK8 _ _ ?_
   refine zB fun _ hK12 => ?_
   refine zB fun _ hK13 => ?_
   refine rp0 hst3 hfr3 (.cons rfl (zC rfl) <| .nil) fun a4 w4 m4 hst4 hle4 hk4 => ?_
   have hfr4 := hk4.fr (.o 2 <| .o 3 <| .n 5 <| .nil)
   clear hst3 hfr3 hk4
   refine hK13 _ _ ?_
   refine zN ?_
   refine ze (T := [(2, _), (3, _)]) (fun (y : Nat) => ([(5, .int .i64 (y : Int))] : List (Nat × Value))) (fun _ => _) (fun (y : Nat) m => (y ≤ p.datas.length) ∧ (p.datas.any (fun d => decide (t.kind = 4) && decide (d.name = t.name)) = (p.datas.drop y).any (fun d => decide (t.kind = 4) && decide (d.name = t.name)))) (fun y => p.datas.length - y) (0) ⟨hst4, MLe.refl _, hfr4.sub (.c <| .c <| .c <| .nil), ⟨Nat.zero_le _, rfl⟩⟩ fun y a5 w5 m5 hh5 => ?_
   have hst5 := hh5.st; have hle5 := hh5.le; have hfr5 := hh5.fr; have hrel := hh5.rel; clear hh5
   clear hst4 hfr4
   obtain ⟨hyn, hrem⟩ := hrel
   have hlh5 := hle5
   refine zB fun _ hK15 => ?_
   refine zB fun _ hK16 => ?_
   have zq1 := hle4.trans hle5
   have zq2 := hle3.trans zq1
   replace hc2 := hc2.mono zq2
   refine rp0 hst5 hfr5 (.cons rfl (zD rfl) <| .cons rfl (zA (off := 1) rfl underlying35 rfl rfl sizeOf23 rfl) <| .cons rfl (zE rfl hc2 isAgg23 rfl) <| .cons rfl (zY rfl underlying23) <| .cons rfl (z7 rfl rfl) <| .nil) fun a6 w6 m6 hst6 hle6 hk6 => ?_
   have hfr6 := hk6.fr (.o 5 <| .o 2 <| .o 3 <| .n 48 <| .nil)
   clear hst5 hfr5 hk6
   refine hK16 _ _ ?_
   refine zG hfr6 rfl rfl (fun hb48 => ?_) (fun hb48 => ?_)
   ·try simp only [nqs] at hb48
    refine zJ ?_
    refine hK15 _ _ ?_
    refine zB fun _ hK17 => ?_
    refine zN ?_
    refine zB fun _ hK18 => ?_
    have zq3 := zq2.trans hle6
    replace hda_p := hda_p.mono zq3
    obtain ⟨p19, vs19, x19, ho19, hd19, hm_x19, ht19, hcv19, hl19, hv19⟩ := hda_p.nth (k := y) (by omega)
    cases ho19
    obtain ⟨oF19, cF19, rfl, hfl19⟩ := id hv19
    have hbf19 := hfl19.big; have hcf19 := hfl19.cap
    try rw [hd19] at hrem
    try simp only [List.any_cons, List.any_nil] at hrem
    replace hc3 := hc3.mono zq3
    replace hc2 := hc2.mono hle6
    refine ZC (fun _ => mixed) hst6 hfr6 (by kernel_rfl) (by kernel_rfl) (.cons rfl (zA (off := 0) rfl underlying31 rfl rfl sizeOf3 rfl) <| .cons rfl (zE rfl hc3 isAgg3 rfl) <| .cons rfl (zV rfl rfl) <| .cons rfl (zD rfl) <| .cons rfl (zA (off := 1) rfl underlying35 rfl rfl sizeOf23 rfl) <| .cons rfl (zE rfl hc2 isAgg23 rfl) <| .cons rfl (zD rfl) <| .cons rfl (zH (k := y) rfl rfl underlying23 sizeOf122 rfl (by omega)) <| .cons rfl (zA (off := 0) rfl underlying122 rfl rfl sizeOf9 rfl) <| .cons rfl (zE rfl hcv19 isAgg9 rfl) <| .cons rfl (zA (off := 1) rfl underlying31 rfl rfl sizeOf9 rfl) <| .cons rfl (zE rfl hc3 isAgg9 rfl) <| .cons rfl (z6 rfl rfl) <| .cons rfl (ZI rfl rfl rfl) <| .nil) fun a7 w7 m7 hst7 hle7 hk7 => ?_
    have hfr7 := hk7.fr (.o 5 <| .o 2 <| .o 3 <| .n 64 <| .nil)
    clear hst6 hfr6 hk7
    refine hK18 _ _ ?_
    refine zG hfr7 rfl rfl (fun hb64 => ?_) (fun hb64 => ?_)
    ·try simp only [nqs] at hb64
     refine zB fun _ hK20 => ?_
     refine rp0 hst7 hfr7 (.cons rfl (zC rfl) <| .nil) fun a8 w8 m8 hst8 hle8 hk8 => ?_
     have hfr8 := hk8.fr (.o 5 <| .n 4 <| .nil)
     clear hst7 hfr7 hk8
     refine hK20 _ _ ?_
     refine zK ?_
     repeat (with_reducible first | refine zI ?_ | refine zF ?_)
     exact zL hst8 hfr8 rfl (.tmp rfl <| .nil) (by refine congrArg Value.bool ?_; unfold zDp; rw [if_neg hc, if_neg hd, hrem]; simp_all)
    ·try simp only [nqs] at hb64
     refine zJ ?_
     refine hK17 _ _ ?_
     refine rp0 hst7 hfr7 (.cons rfl (zD rfl) <| .cons rfl (zk rfl rfl ⟨by omega, by omega⟩) <| .cons rfl (zC rfl) <| .nil) fun a8 w8 m8 hst8 hle8 hk8 => ?_
     have hfr8 := hk8.fr (.o 2 <| .o 3 <| .n 5 <| .nil)
     clear hst7 hfr7 hk8
     have zq4 := hle7.trans hle8
     have zq5 := hle6.trans zq4
     have hlh8 := hlh5.trans zq5
     exact ⟨y + 1, m8, by show p.datas.length - (y + 1) < p.datas.length - y; omega, ⟨hst8, hlh8, hfr8.sub (.c <| .c <| .c <| .nil), ⟨by show y + 1 ≤ p.datas.length; omega, by rw [hrem, show (decide (t.kind = 4) && decide (x19.name = t.name)) = false from by rcases hb64 with h | h <;> simp [h]]; rfl⟩⟩⟩
   ·try simp only [nqs] at hb48
    have hge : y = p.datas.length := by omega
    rw [List.drop_of_length_le (by omega)] at hrem
    simp only [List.any_cons, List.any_nil] at hrem
    refine zg ?_
    refine hK12 _ _ ?_
    refine zB fun _ hK22 => ?_
    refine rp0 hst6 hfr6 (.cons rfl (zC rfl) <| .nil) fun a7 w7 m7 hst7 hle7 hk7 => ?_
    have hfr7 := hk7.fr (.o 5 <| .n 4 <| .nil)
    clear hst6 hfr6 hk7
    refine hK22 _ _ ?_
    refine zK ?_
    repeat (with_reducible first | refine zI ?_ | refine zF ?_)
    exact zL hst7 hfr7 rfl (.tmp rfl <| .nil) (by refine congrArg Value.bool ?_; unfold zDp; rw [if_neg hc, if_neg hd, hrem])
set_option maxHeartbeats 1600000 in
theorem declared_c {w : World} {m : Mem} {p : Pg} {vs_p : List Value} (hA : Agree w m) (h_p : PgR m p vs_p) (hbo : zBA p.effects ≤ 1000000000) (hbc : consN p.datas ≤ 1000000000) (hbd : p.datas.length ≤ 1000000000) : FnV Tryd.prog 50 #[.agg vs_p.toArray] w m (fun _ m v => MP.anyI.p m v) := by
 obtain ⟨oE_p, cE_p, oD_p, cD_p, bs_p, rfl, hef_p, hda_p, hpb_p⟩ := id h_p
 have hbe_p := hef_p.big; have hce_p := hef_p.cap; have hbda_p := hda_p.big; have hcd_p := hda_p.cap
 obtain ⟨⟨oK_pb, cK_pb, oA_pb, cA_pb, oR_pb, cR_pb, t0_pb, t1_pb, t2_pb, t3_pb, t4_pb, t5_pb, u0_pb, u1_pb, u2_pb, u3_pb, u4_pb, u5_pb⟩, rfl, hon_pb, hkk_pb, haa_pb, hrr_pb⟩ := hpb_p.open_
 dsimp only at hkk_pb haa_pb hrr_pb
 have hbg_pb := hkk_pb.big; have hcp_pb := hkk_pb.cap; have hbh_pb := haa_pb.big; have hcq_pb := haa_pb.cap
 refine zX (vs := [_]) func50 rfl rfl rfl fun a0 hfr0 => ?_
 have hst0 := zW hA (zf [] _ w m)
 have hM : MLe m m := MLe.refl m
 refine zB fun _ hK1 => ?_
 refine rp0 hst0 hfr0 (.cons rfl (zv rfl rfl) <| .cons rfl (zC rfl) <| .nil) fun a1 w1 m1 hst1 hle1 hk1 => ?_
 have hfr1 := hk1.fr (.nil)
 obtain ⟨g2, e2, hc1⟩ := hk1.ex 1 rfl
 replace hfr1 := hfr1.cons e2
 replace h_p := h_p.mono hle1
 replace hef_p := hef_p.mono hle1
 replace hda_p := hda_p.mono hle1
 replace hpb_p := hpb_p.mono hle1
 replace hkk_pb := hkk_pb.mono hle1
 replace haa_pb := haa_pb.mono hle1
 replace hrr_pb := hrr_pb.mono hle1
 clear hst0 hfr0 hk1
 refine hK1 _ _ ?_
 refine zB fun _ hK3 => ?_
 refine zB fun _ hK4 => ?_
 refine rp0 hst1 hfr1 (.cons rfl (zA (off := 0) rfl underlying35 rfl rfl sizeOf22 rfl) <| .cons rfl (zE rfl hc1 isAgg22 rfl) <| .cons rfl (zY rfl underlying22) <| .cons rfl (zAw rfl rfl) <| .nil) fun a2 w2 m2 hst2 hle2 hk2 => ?_
 have hfr2 := hk2.fr (.o 1 <| .n 16 <| .nil)
 replace h_p := h_p.mono hle2
 replace hef_p := hef_p.mono hle2
 replace hda_p := hda_p.mono hle2
 replace hpb_p := hpb_p.mono hle2
 replace hkk_pb := hkk_pb.mono hle2
 replace haa_pb := haa_pb.mono hle2
 replace hrr_pb := hrr_pb.mono hle2
 replace hc1 := hc1.mono hle2
 clear hst1 hfr1 hk2
 refine hK4 _ _ ?_
 refine zG hfr2 rfl rfl (fun hb16 => ?_) (fun hb16 => ?_)
 ·try simp only [nqs] at hb16
  refine zB fun _ hK5 => ?_
  refine rp0 hst2 hfr2 (.cons rfl (zC rfl) <| .nil) fun a3 w3 m3 hst3 hle3 hk3 => ?_
  have hfr3 := hk3.fr (.n 2 <| .nil)
  clear hst2 hfr2 hk3
  refine hK5 _ _ ?_
  refine zK ?_
  repeat (with_reducible first | refine zI ?_ | refine zF ?_)
  exact zL hst3 hfr3 rfl (.tmp rfl <| .nil) (⟨_, rfl, trivial⟩)
 ·try simp only [nqs] at hb16
  refine zJ ?_
  refine hK3 _ _ ?_
  refine zB fun _ hK7 => ?_
  refine rp0 hst2 hfr2 (.cons rfl (zC rfl) <| .nil) fun a3 w3 m3 hst3 hle3 hk3 => ?_
  have hfr3 := hk3.fr (.o 1 <| .n 3 <| .nil)
  clear hst2 hfr2 hk3
  have hst3 := hst3.more (r := .row (.slice none 0 0) 0 1 9 []) ⟨rfl, .inl ⟨rfl, rfl⟩⟩ List.nodup_nil (by simp [Res.blocks, zy])
  have hrow_nm : RowAt m3 none (([] : List Str).map (fun x => S x)) := .inl rfl; have hcap_nm : ([] : List Str).length ≤ 0 := Nat.le_refl _
  refine hK7 _ _ ?_
  refine zB fun _ hK8 => ?_
  refine rp0 hst3 hfr3 (.cons rfl (zC rfl) <| .nil) fun a4 w4 m4 hst4 hle4 hk4 => ?_
  have hfr4 := hk4.fr (.o 1 <| .o 3 <| .n 4 <| .nil)
  clear hst3 hfr3 hk4
  have hst4 := hst4.more (r := .row (.slice none 0 0) 0 1 9 []) ⟨rfl, .inl ⟨rfl, rfl⟩⟩ List.nodup_nil (by simp [Res.blocks, zy])
  have hrow_op : RowAt m4 none (([] : List Str).map (fun x => S x)) := .inl rfl; have hcap_op : ([] : List Str).length ≤ 0 := Nat.le_refl _
  refine hK8 _ _ ?_
  refine zB fun _ hK9 => ?_
  refine zB fun _ hK10 => ?_
  refine rp0 hst4 hfr4 (.cons rfl (zC rfl) <| .nil) fun a5 w5 m5 hst5 hle5 hk5 => ?_
  have hfr5 := hk5.fr (.o 1 <| .o 3 <| .o 4 <| .n 5 <| .nil)
  clear hst4 hfr4 hk5
  refine hK10 _ _ ?_
  refine zN ?_
  have zq1 := hle4.trans hle5
  replace hrow_nm := hrow_nm.mono zq1
  replace hrow_op := hrow_op.mono hle5
  refine ze (T := [(1, _)]) (fun (y : Nat × Option Addr × Nat × List Str × Option Addr × Nat × List Str) => ([(3, .slice y.2.1 y.2.2.2.1.length y.2.2.1), (4, .slice y.2.2.2.2.1 y.2.2.2.2.2.2.length y.2.2.2.2.2.1), (5, .int .i64 (y.1 : Int))] : List (Nat × Value))) (fun y => [.row (.slice y.2.1 y.2.2.2.1.length y.2.2.1) y.2.2.2.1.length 1 9 (y.2.2.2.1.map (fun x => S x)), .row (.slice y.2.2.2.2.1 y.2.2.2.2.2.2.length y.2.2.2.2.2.1) y.2.2.2.2.2.2.length 1 9 (y.2.2.2.2.2.2.map (fun x => S x))]) (fun (y : Nat × Option Addr × Nat × List Str × Option Addr × Nat × List Str) m => (fun (y : Nat) (nmo : Option Addr) (nmp : Nat) (nm : List Str) (opo : Option Addr) (opp : Nat) (op : List Str) => (y ≤ p.effects.length) ∧ (RowAt m nmo (nm.map (fun x => S x))) ∧ (nm.length ≤ nmp) ∧ (nm.length ≤ y) ∧ (RowAt m opo (op.map (fun x => S x))) ∧ (op.length ≤ opp) ∧ (op.length ≤ zBA (p.effects.take y))) y.1 y.2.1 y.2.2.1 y.2.2.2.1 y.2.2.2.2.1 y.2.2.2.2.2.1 y.2.2.2.2.2.2) (fun y => p.effects.length - y.1) ((0, none, 0, ([] : List Str), none, 0, ([] : List Str))) ⟨hst5, MLe.refl _, hfr5.sub (.c <| .c <| .c <| .c <| .nil), ⟨Nat.zero_le _, hrow_nm, hcap_nm, Nat.le_refl _, hrow_op, hcap_op, Nat.zero_le _⟩⟩ fun y a6 w6 m6 hh6 => ?_
  have hst6 := hh6.st; have hle6 := hh6.le; have hfr6 := hh6.fr; have hrel := hh6.rel; clear hh6
  clear hst5 hfr5
  obtain ⟨y, nmo, nmp, nm, opo, opp, op⟩ := y
  dsimp only at hrel hfr6 hst6
  replace hrow_nm := hrow_nm.mono hle6
  replace hrow_op := hrow_op.mono hle6
  obtain ⟨hyn, hrow_nm, hcap_nm, hlen_nm, hrow_op, hcap_op, hlen_op⟩ := hrel
  have hlh6 := hle6
  refine zB fun _ hK12 => ?_
  refine zB fun _ hK13 => ?_
  have zq2 := zq1.trans hle6
  have zq3 := hle3.trans zq2
  replace hc1 := hc1.mono zq3
  refine rp0 hst6 hfr6 (.cons rfl (zD rfl) <| .cons rfl (zA (off := 0) rfl underlying35 rfl rfl sizeOf22 rfl) <| .cons rfl (zE rfl hc1 isAgg22 rfl) <| .cons rfl (zY rfl underlying22) <| .cons rfl (z7 rfl rfl) <| .nil) fun a7 w7 m7 hst7 hle7 hk7 => ?_
  have hfr7 := hk7.fr (.o 3 <| .o 4 <| .o 5 <| .o 1 <| .n 21 <| .nil)
  clear hst6 hfr6 hk7
  refine hK13 _ _ ?_
  refine zG hfr7 rfl rfl (fun hb21 => ?_) (fun hb21 => ?_)
  ·try simp only [nqs] at hb21
   refine zJ ?_
   refine hK12 _ _ ?_
   refine zB fun _ hK14 => ?_
   refine zN ?_
   refine zB fun _ hK15 => ?_
   have zq4 := zq3.trans hle7
   replace hef_p := hef_p.mono zq4
   obtain ⟨p16, vs16, x16, ho16, hd16, hm_x16, ht16, hcv16, hl16, hv16⟩ := hef_p.nth (k := y) (by omega)
   cases ho16
   obtain ⟨oF16, cF16, rfl, hfl16⟩ := id hv16
   have hbf16 := hfl16.big; have hcf16 := hfl16.cap
   replace hst7 := hst7.more (r := .free) trivial List.nodup_nil (by simp [Res.blocks])
   replace hc1 := hc1.mono hle7
   refine ra0 (tch := [(5, 2, (fun v => .blk v _)), (6, 2, (fun v => .blk v _))]) hst7 hfr7 (.cons rfl (zA (off := 0) rfl underlying35 rfl rfl sizeOf22 rfl) <| .cons rfl (zE rfl hc1 isAgg22 rfl) <| .cons rfl (zD rfl) <| .cons rfl (zH (k := y) rfl rfl underlying22 sizeOf115 rfl (by omega)) <| .cons rfl (zO rfl hcv16 isAgg115 sizeOf115 rfl rfl) <| .consT rfl rfl (fun _ => rfl) rfl (zQ zeroValue115 rfl) <| .consT rfl rfl (fun _ => rfl) rfl (zU 6 rfl rfl rfl fun y6 => zb rfl rfl rfl rfl rfl sizeOf115 rfl rfl rfl) <| .nil) fun a8 w8 m8 hst8 hle8 hk8 => ?_
   have hfr8 := hk8.fr (.o 3 <| .o 4 <| .o 5 <| .o 1 <| .nil)
   obtain ⟨g17, e17, _⟩ := hk8.ex 6 rfl
   replace hfr8 := hfr8.cons e17
   replace hst8 := hst8.fin (L' := [_, _, _]) (.cons e17 <| .cons e17 <| .nil)
   clear hst7 hfr7 hk8
   have ho1 := opsN_take p.effects (y + 1)
   rw [ht16, opsN_snoc] at ho1
   refine hK15 _ _ ?_
   refine zB fun _ hK18 => ?_
   refine zB fun _ hK19 => ?_
   have zq5 := hle7.trans hle8
   replace hrow_nm := hrow_nm.mono zq5
   have hs_nm : Strs m8 nmo (nm).length nmp nm := Strs.of_row (by simpa using hrow_nm) rfl hcap_nm (by omega)
   refine rp0 hst8 hfr8 (.cons rfl (zA (off := 0) rfl underlying115 rfl rfl sizeOf9 rfl) <| .cons rfl (zM (j := 2) rfl rfl isAgg9 rfl) <| .cons rfl (z6 rfl rfl) <| .cons rfl (zD rfl) <| .cons rfl (zA (off := 0) rfl underlying115 rfl rfl sizeOf9 rfl) <| .cons rfl (zM (j := 2) rfl rfl isAgg9 rfl) <| .cons rfl (z6 rfl rfl) <| .cons rfl (zx rfl rfl rfl) <| .cons rfl (zD rfl) <| .cons rfl (zD rfl) <| .cons rfl (zA (off := 0) rfl underlying115 rfl rfl sizeOf9 rfl) <| .cons rfl (zM (j := 2) rfl rfl isAgg9 rfl) <| .cons rfl (zc rfl (.cons rfl <| .cons rfl <| .nil) call61 (fun w m hK => by have hle_ := KC.le hK; have hA := KC.agree hK; have hs_nm := hs_nm.mono hle_; exact in_c hA hs_nm)) <| .cons rfl (zx rfl rfl rfl) <| .nil) fun a9 w9 m9 hst9 hle9 hk9 => ?_
   have hfr9 := hk9.fr (.o 3 <| .o 4 <| .o 5 <| .o 1 <| .o 6 <| .n 42 <| .nil)
   clear hst8 hfr8 hk9
   refine hK19 _ _ ?_
   refine zG hfr9 rfl rfl (fun hb42 => ?_) (fun hb42 => ?_)
   ·try simp only [nqs] at hb42
    refine zB fun _ hK20 => ?_
    refine rp0 hst9 hfr9 (.cons rfl (zC rfl) <| .nil) fun a10 w10 m10 hst10 hle10 hk10 => ?_
    have hfr10 := hk10.fr (.o 3 <| .o 4 <| .o 5 <| .n 2 <| .nil)
    clear hst9 hfr9 hk10
    refine hK20 _ _ ?_
    refine zK ?_
    repeat (with_reducible first | refine zI ?_ | refine zF ?_)
    exact zL hst10 hfr10 rfl (.tmp rfl <| .nil) (⟨_, rfl, trivial⟩)
   ·try simp only [nqs] at hb42
    refine zJ ?_
    refine hK18 _ _ ?_
    refine zB fun _ hK22 => ?_
    refine ra0 (tch := [(4, 0, (fun v => .row v _ _ _ _))]) hst9 hfr9 (.cons rfl (zD rfl) <| .cons rfl (zA (off := 0) rfl underlying115 rfl rfl sizeOf9 rfl) <| .cons rfl (zM (j := 2) rfl rfl isAgg9 rfl) <| .cons rfl (ZB (.cons rfl <| .nil) underlying27 sizeOf9 zeroValue9 rfl rfl rfl rfl) <| .consT rfl rfl (fun _ => rfl) rfl (zU 46 rfl rfl rfl fun y46 => zBy (size := 1) (bytes := 16) rfl rfl underlying27 type9 rfl rfl rfl rfl (fun w m hK => .inr ⟨_, rfl, hK.2⟩) rfl (by decide) rfl (by simp only [maxLen]; omega) (by omega)) <| .consA 47 rfl rfl <| .nil) fun a10 w10 m10 hst10 hle10 hk10 => ?_
    have hfr10 := hk10.fr (.o 4 <| .o 5 <| .o 1 <| .o 6 <| .nil)
    obtain ⟨⟨nm_23o, nm_23p⟩, e24, hrow_nm_23, hcap_nm_23⟩ := hk10.ex 47 rfl
    replace e24 : zZ a10 47 = .slice nm_23o (nm ++ [x16.name]).length nm_23p := by rw [e24]; refine congrArg (fun q => Value.slice _ q _) ?_; simp only [List.length_append, List.length_cons, List.length_nil]
    replace hfr10 := hfr10.cons (hk10.same 3 rfl e24)
    replace hst10 := hst10.fin (L' := [_, _, _]) (.cons e24 <| .nil)
    have en_nm_23 : (nm).length + 1 = ((nm ++ [x16.name])).length := by simp only [List.length_append, List.length_cons, List.length_nil]
    have em_nm_23 : (nm).map (fun x => S x) ++ [S x16.name] = ((nm ++ [x16.name])).map (fun x => S x) := by simp only [List.map_append, List.map_cons, List.map_nil]
    replace hst10 := hst10.row_eq (k := 0) rfl en_nm_23 em_nm_23
    simp only [List.set_cons_succ, List.set_cons_zero] at hst10
    change RowAt m10 nm_23o ((nm).map (fun x => S x) ++ [S x16.name]) at hrow_nm_23; rw [em_nm_23] at hrow_nm_23; change (nm).length + 1 ≤ nm_23p at hcap_nm_23; rw [en_nm_23] at hcap_nm_23
    clear hst9 hfr9 hk10
    refine hK22 _ _ ?_
    refine zB fun _ hK25 => ?_
    refine rp0 hst10 hfr10 (.cons rfl (zC rfl) <| .nil) fun a11 w11 m11 hst11 hle11 hk11 => ?_
    have hfr11 := hk11.fr (.o 4 <| .o 5 <| .o 1 <| .o 6 <| .o 3 <| .n 7 <| .nil)
    clear hst10 hfr10 hk11
    refine hK25 _ _ ?_
    refine zN ?_
    have zq6 := hle10.trans hle11
    have zq7 := hle9.trans zq6
    have zq8 := zq5.trans zq7
    have hlh11 := hlh6.trans zq8
    have hlq26 := hlh11
    replace hrow_op := hrow_op.mono zq8
    refine ze (T := [(5, _), (1, _), (6, _), (3, _)]) (fun (k : Nat × Option Addr × Nat × List Str) => ([(4, .slice k.2.1 k.2.2.2.length k.2.2.1), (7, .int .i64 (k.1 : Int))] : List (Nat × Value))) (fun k => [_, .row (.slice k.2.1 k.2.2.2.length k.2.2.1) k.2.2.2.length 1 9 (k.2.2.2.map (fun x => S x)), _]) (fun (k : Nat × Option Addr × Nat × List Str) m => (fun (k : Nat) (oqo : Option Addr) (oqp : Nat) (oq : List Str) => (k ≤ x16.ops.length) ∧ (RowAt m oqo (oq.map (fun x => S x))) ∧ (oq.length ≤ oqp) ∧ (oq.length ≤ zBA (p.effects.take y) + k)) k.1 k.2.1 k.2.2.1 k.2.2.2) (fun k => x16.ops.length - k.1) ((0, opo, opp, op)) ⟨hst11, MLe.refl _, hfr11.sub (.c <| .c <| .c <| .c <| .c <| .c <| .nil), ⟨Nat.zero_le _, hrow_op, hcap_op, hlen_op⟩⟩ fun k a12 w12 m12 hh12 => ?_
    have hst12 := hh12.st; have hle12 := hh12.le; have hfr12 := hh12.fr; have hrel := hh12.rel; clear hh12
    clear hst11 hfr11
    obtain ⟨k, oqo, oqp, oq⟩ := k
    dsimp only at hrel hfr12 hst12
    obtain ⟨hkn, hrow_oq, hcap_oq, hlen_oq⟩ := hrel
    have hlh12 := hle12
    refine zB fun _ hK27 => ?_
    refine zB fun _ hK28 => ?_
    refine rp0 hst12 hfr12 (.cons rfl (zD rfl) <| .cons rfl (zA (off := 1) rfl underlying115 rfl rfl sizeOf113 rfl) <| .cons rfl (zM (j := 2) rfl rfl isAgg113 rfl) <| .cons rfl (zY rfl underlying113) <| .cons rfl (z7 rfl rfl) <| .nil) fun a13 w13 m13 hst13 hle13 hk13 => ?_
    have hfr13 := hk13.fr (.o 4 <| .o 7 <| .o 5 <| .o 1 <| .o 6 <| .o 3 <| .n 52 <| .nil)
    clear hst12 hfr12 hk13
    refine hK28 _ _ ?_
    refine zG hfr13 rfl rfl (fun hb52 => ?_) (fun hb52 => ?_)
    ·try simp only [nqs] at hb52
     refine zJ ?_
     refine hK27 _ _ ?_
     refine zB fun _ hK29 => ?_
     refine zN ?_
     refine zB fun _ hK30 => ?_
     refine zB fun _ hK31 => ?_
     replace hrow_oq := hrow_oq.mono hle13
     have hs_op : Strs m13 oqo (oq).length oqp oq := Strs.of_row (by simpa using hrow_oq) rfl hcap_oq (by omega)
     have zq9 := hle12.trans hle13
     have zq10 := zq7.trans zq9
     have zq11 := hle8.trans zq10
     replace hfl16 := hfl16.mono zq11
     obtain ⟨p32, vs32, x32, ho32, hd32, hm_x32, ht32, hcv32, hl32, hv32⟩ := hfl16.nth (k := k) (by omega)
     cases ho32
     obtain ⟨as32, rs32, rfl, hoa32, hob32⟩ := id hv32
     obtain ⟨o32a, c32a, oL32a, cL32a, rfl, hkd32a, hs32a, hi32a, hj32a, hr32a⟩ := hoa32.open_
     have hbg32a := hkd32a.big; have hcp32a := hkd32a.cap; have hbs32a := hs32a.big; have hcs32a := hs32a.cap
     have hrw32a : RwR _ ⟨x32.arg.labels, x32.arg.rv⟩ _ := ⟨_, _, rfl, hs32a, hr32a⟩
     obtain ⟨o32r, c32r, oL32r, cL32r, rfl, hkd32r, hs32r, hi32r, hj32r, hr32r⟩ := hob32.open_
     have hbg32r := hkd32r.big; have hcp32r := hkd32r.cap; have hbs32r := hs32r.big; have hcs32r := hs32r.cap
     have hrw32r : RwR _ ⟨x32.res.labels, x32.res.rv⟩ _ := ⟨_, _, rfl, hs32r, hr32r⟩
     have zq12 := zq4.trans zq11
     replace h_p := h_p.mono zq12
     replace hc1 := hc1.mono zq11
     refine ZC (fun _ => mixed) hst13 hfr13 (by kernel_rfl) (by kernel_rfl) (.cons rfl (zA (off := 1) rfl underlying115 rfl rfl sizeOf113 rfl) <| .cons rfl (zM (j := 2) rfl rfl isAgg113 rfl) <| .cons rfl (zD rfl) <| .cons rfl (zH (k := k) rfl rfl underlying113 sizeOf118 rfl (by omega)) <| .cons rfl (zA (off := 0) rfl underlying118 rfl rfl sizeOf9 rfl) <| .cons rfl (zE rfl hcv32 isAgg9 rfl) <| .cons rfl (z6 rfl rfl) <| .cons rfl (zD rfl) <| .cons rfl (zD rfl) <| .cons rfl (zA (off := 1) rfl underlying115 rfl rfl sizeOf113 rfl) <| .cons rfl (zM (j := 2) rfl rfl isAgg113 rfl) <| .cons rfl (zD rfl) <| .cons rfl (zH (k := k) rfl rfl underlying113 sizeOf118 rfl (by omega)) <| .cons rfl (zA (off := 0) rfl underlying118 rfl rfl sizeOf9 rfl) <| .cons rfl (zE rfl hcv32 isAgg9 rfl) <| .cons rfl (zc rfl (.cons rfl <| .cons rfl <| .nil) call61 (fun w m hK => by have hle_ := KC.le hK; have hA := KC.agree hK; have hs_op := hs_op.mono hle_; exact in_c hA hs_op)) <| .cons rfl (zx rfl rfl rfl) <| .cons rfl (zD rfl) <| .cons rfl (zO rfl hc1 isAgg35 sizeOf35 rfl rfl) <| .cons rfl (zA (off := 1) rfl underlying115 rfl rfl sizeOf113 rfl) <| .cons rfl (zM (j := 2) rfl rfl isAgg113 rfl) <| .cons rfl (zD rfl) <| .cons rfl (zH (k := k) rfl rfl underlying113 sizeOf118 rfl (by omega)) <| .cons rfl (zA (off := 1) rfl underlying118 rfl rfl sizeOf31 rfl) <| .cons rfl (Zt rfl hcv32 isAgg31 sizeOf31 rfl rfl) <| .cons rfl (zc rfl (.cons rfl <| .cons rfl <| .nil) call62 (fun w m hK => by have hle_ := KC.le hK; have hA := KC.agree hK; have h_p := h_p.mono hle_; have hoa32 := hoa32.mono hle_; exact first_c hA h_p hoa32)) <| .cons rfl (Zn rfl) <| .cons rfl (zx rfl rfl rfl) <| .cons rfl (zD rfl) <| .cons rfl (zO rfl hc1 isAgg35 sizeOf35 rfl rfl) <| .cons rfl (zA (off := 1) rfl underlying115 rfl rfl sizeOf113 rfl) <| .cons rfl (zM (j := 2) rfl rfl isAgg113 rfl) <| .cons rfl (zD rfl) <| .cons rfl (zH (k := k) rfl rfl underlying113 sizeOf118 rfl (by omega)) <| .cons rfl (zA (off := 7) rfl underlying118 rfl rfl sizeOf31 rfl) <| .cons rfl (Zt rfl hcv32 isAgg31 sizeOf31 rfl rfl) <| .cons rfl (zc rfl (.cons rfl <| .cons rfl <| .nil) call62 (fun w m hK => by have hle_ := KC.le hK; have hA := KC.agree hK; have h_p := h_p.mono hle_; have hob32 := hob32.mono hle_; exact first_c hA h_p hob32)) <| .cons rfl (Zn rfl) <| .cons rfl (zx rfl rfl rfl) <| .nil) fun a14 w14 m14 hst14 hle14 hk14 => ?_
     have hfr14 := hk14.fr (.o 4 <| .o 7 <| .o 5 <| .o 1 <| .o 6 <| .o 3 <| .n 93 <| .nil)
     clear hst13 hfr13 hk14
     refine hK31 _ _ ?_
     refine zG hfr14 rfl rfl (fun hb93 => ?_) (fun hb93 => ?_)
     ·try simp only [nqs] at hb93
      refine zB fun _ hK33 => ?_
      refine rp0 hst14 hfr14 (.cons rfl (zC rfl) <| .nil) fun a15 w15 m15 hst15 hle15 hk15 => ?_
      have hfr15 := hk15.fr (.o 4 <| .o 7 <| .o 5 <| .o 3 <| .n 2 <| .nil)
      clear hst14 hfr14 hk15
      refine hK33 _ _ ?_
      refine zK ?_
      repeat (with_reducible first | refine zI ?_ | refine zF ?_)
      exact zL hst15 hfr15 rfl (.tmp rfl <| .nil) (⟨_, rfl, trivial⟩)
     ·try simp only [nqs] at hb93
      refine zJ ?_
      refine hK30 _ _ ?_
      replace hcv32 := hcv32.mono hle14
      refine ra0 (tch := [(8, 1, (fun v => .row v _ _ _ _))]) hst14 hfr14 (.cons rfl (zD rfl) <| .cons rfl (zA (off := 1) rfl underlying115 rfl rfl sizeOf113 rfl) <| .cons rfl (zM (j := 2) rfl rfl isAgg113 rfl) <| .cons rfl (zD rfl) <| .cons rfl (zH (k := k) rfl rfl underlying113 sizeOf118 rfl (by omega)) <| .cons rfl (zA (off := 0) rfl underlying118 rfl rfl sizeOf9 rfl) <| .cons rfl (zE rfl hcv32 isAgg9 rfl) <| .cons rfl (ZB (.cons rfl <| .nil) underlying27 sizeOf9 zeroValue9 rfl rfl rfl rfl) <| .consT rfl rfl (fun _ => rfl) rfl (zU 101 rfl rfl rfl fun y101 => zBy (size := 1) (bytes := 16) rfl rfl underlying27 type9 rfl rfl rfl rfl (fun w m hK => .inr ⟨_, rfl, hK.2⟩) rfl (by decide) rfl (by simp only [maxLen]; omega) (by omega)) <| .consA 102 rfl rfl <| .nil) fun a15 w15 m15 hst15 hle15 hk15 => ?_
      have hfr15 := hk15.fr (.o 7 <| .o 5 <| .o 1 <| .o 6 <| .o 3 <| .nil)
      obtain ⟨⟨op_35o, op_35p⟩, e36, hrow_op_35, hcap_op_35⟩ := hk15.ex 102 rfl
      replace e36 : zZ a15 102 = .slice op_35o (oq ++ [x32.name]).length op_35p := by rw [e36]; refine congrArg (fun q => Value.slice _ q _) ?_; simp only [List.length_append, List.length_cons, List.length_nil]
      replace hfr15 := hfr15.cons (hk15.same 4 rfl e36)
      replace hst15 := hst15.fin (L' := [_, _, _]) (.cons e36 <| .nil)
      have en_op_35 : (oq).length + 1 = ((oq ++ [x32.name])).length := by simp only [List.length_append, List.length_cons, List.length_nil]
      have em_op_35 : (oq).map (fun x => S x) ++ [S x32.name] = ((oq ++ [x32.name])).map (fun x => S x) := by simp only [List.map_append, List.map_cons, List.map_nil]
      replace hst15 := hst15.row_eq (k := 1) rfl en_op_35 em_op_35
      simp only [List.set_cons_succ, List.set_cons_zero] at hst15
      change RowAt m15 op_35o ((oq).map (fun x => S x) ++ [S x32.name]) at hrow_op_35; rw [em_op_35] at hrow_op_35; change (oq).length + 1 ≤ op_35p at hcap_op_35; rw [en_op_35] at hcap_op_35
      clear hst14 hfr14 hk15
      refine hK29 _ _ ?_
      refine rp0 hst15 hfr15 (.cons rfl (zD rfl) <| .cons rfl (zk rfl rfl ⟨by omega, by omega⟩) <| .cons rfl (zC rfl) <| .nil) fun a16 w16 m16 hst16 hle16 hk16 => ?_
      have hfr16 := hk16.fr (.o 5 <| .o 1 <| .o 6 <| .o 3 <| .o 4 <| .n 7 <| .nil)
      clear hst15 hfr15 hk16
      replace hrow_op_35 := hrow_op_35.mono hle16
      have zq13 := hle15.trans hle16
      have zq14 := hle14.trans zq13
      have zq15 := hle13.trans zq14
      have hlh16 := hlh12.trans zq15
      exact ⟨(k + 1, op_35o, op_35p, (oq ++ [x32.name])), m16, by show x16.ops.length - (k + 1) < x16.ops.length - k; omega, ⟨hst16, hlh16, hfr16.sub (.c <| .c <| .c <| .c <| .c <| .c <| .nil), ⟨by show k + 1 ≤ x16.ops.length; omega, hrow_op_35, hcap_op_35, by simp only [List.length_append, List.length_cons, List.length_nil]; omega⟩⟩⟩
    ·try simp only [nqs] at hb52
     have hgek : k = x16.ops.length := by omega
     refine zg ?_
     refine hK14 _ _ ?_
     refine rp0 hst13 hfr13 (.cons rfl (zD rfl) <| .cons rfl (zk rfl rfl ⟨by omega, by omega⟩) <| .cons rfl (zC rfl) <| .nil) fun a14 w14 m14 hst14 hle14 hk14 => ?_
     have hfr14 := hk14.fr (.o 4 <| .o 7 <| .o 1 <| .o 3 <| .n 5 <| .nil)
     clear hst13 hfr13 hk14
     have hst14 := hst14.take 2
     have zq16 := hle13.trans hle14
     have zq17 := hle12.trans zq16
     have zq18 := hle11.trans zq17
     replace hrow_nm_23 := hrow_nm_23.mono zq18
     replace hlq26 := hlq26.trans zq17
     replace hrow_oq := hrow_oq.mono zq16
     exact ⟨(y + 1, nm_23o, nm_23p, (nm ++ [x16.name]), oqo, oqp, oq), m14, by show p.effects.length - (y + 1) < p.effects.length - y; omega, ⟨hst14, hlq26, hfr14.sub (.c <| .c <| .c <| .c <| .nil), ⟨by show y + 1 ≤ p.effects.length; omega, hrow_nm_23, hcap_nm_23, by simp only [List.length_append, List.length_cons, List.length_nil]; omega, hrow_oq, hcap_oq, by show (oq).length ≤ zBA (p.effects.take (y + 1)); rw [ht16, opsN_snoc]; omega⟩⟩⟩
  ·try simp only [nqs] at hb21
   have hge : y = p.effects.length := by omega
   refine zg ?_
   refine hK9 _ _ ?_
   refine zB fun _ hK37 => ?_
   refine rp0 hst7 hfr7 (.cons rfl (zC rfl) <| .nil) fun a8 w8 m8 hst8 hle8 hk8 => ?_
   have hfr8 := hk8.fr (.o 4 <| .o 5 <| .o 1 <| .n 3 <| .nil)
   clear hst7 hfr7 hk8
   have hst8 := hst8.more (r := .row (.slice none 0 0) 0 1 9 []) ⟨rfl, .inl ⟨rfl, rfl⟩⟩ List.nodup_nil (by simp [Res.blocks, zy])
   have hrow_nn : RowAt m8 none (([] : List Str).map (fun x => S x)) := .inl rfl; have hcap_nn : ([] : List Str).length ≤ 0 := Nat.le_refl _
   refine hK37 _ _ ?_
   refine zB fun _ hK38 => ?_
   refine rp0 hst8 hfr8 (.cons rfl (zC rfl) <| .nil) fun a9 w9 m9 hst9 hle9 hk9 => ?_
   have hfr9 := hk9.fr (.o 4 <| .o 5 <| .o 1 <| .o 3 <| .n 8 <| .nil)
   clear hst8 hfr8 hk9
   have hst9 := hst9.more (r := .row (.slice none 0 0) 0 1 9 []) ⟨rfl, .inl ⟨rfl, rfl⟩⟩ List.nodup_nil (by simp [Res.blocks, zy])
   have hrow_cn : RowAt m9 none (([] : List Str).map (fun x => S x)) := .inl rfl; have hcap_cn : ([] : List Str).length ≤ 0 := Nat.le_refl _
   refine hK38 _ _ ?_
   refine zB fun _ hK39 => ?_
   refine zB fun _ hK40 => ?_
   refine rp0 hst9 hfr9 (.cons rfl (zC rfl) <| .nil) fun a10 w10 m10 hst10 hle10 hk10 => ?_
   have hfr10 := hk10.fr (.o 4 <| .o 5 <| .o 1 <| .o 3 <| .o 8 <| .n 9 <| .nil)
   clear hst9 hfr9 hk10
   refine hK40 _ _ ?_
   refine zN ?_
   have zq19 := hle9.trans hle10
   have zq20 := hle8.trans zq19
   have zq21 := hle7.trans zq20
   have hlh10 := hlh6.trans zq21
   have hlq41 := hlh10
   replace hrow_nn := hrow_nn.mono zq19
   replace hrow_cn := hrow_cn.mono hle10
   refine ze (T := [(4, _), (5, _), (1, _)]) (fun (y : Nat × Option Addr × Nat × List Str × Option Addr × Nat × List Str) => ([(3, .slice y.2.1 y.2.2.2.1.length y.2.2.1), (8, .slice y.2.2.2.2.1 y.2.2.2.2.2.2.length y.2.2.2.2.2.1), (9, .int .i64 (y.1 : Int))] : List (Nat × Value))) (fun y => [_, _, .row (.slice y.2.1 y.2.2.2.1.length y.2.2.1) y.2.2.2.1.length 1 9 (y.2.2.2.1.map (fun x => S x)), .row (.slice y.2.2.2.2.1 y.2.2.2.2.2.2.length y.2.2.2.2.2.1) y.2.2.2.2.2.2.length 1 9 (y.2.2.2.2.2.2.map (fun x => S x))]) (fun (y : Nat × Option Addr × Nat × List Str × Option Addr × Nat × List Str) m => (fun (y : Nat) (nno : Option Addr) (nnp : Nat) (nn : List Str) (cno : Option Addr) (cnp : Nat) (cn : List Str) => (y ≤ p.datas.length) ∧ (RowAt m nno (nn.map (fun x => S x))) ∧ (nn.length ≤ nnp) ∧ (nn.length ≤ y) ∧ (RowAt m cno (cn.map (fun x => S x))) ∧ (cn.length ≤ cnp) ∧ (cn.length ≤ consN (p.datas.take y))) y.1 y.2.1 y.2.2.1 y.2.2.2.1 y.2.2.2.2.1 y.2.2.2.2.2.1 y.2.2.2.2.2.2) (fun y => p.datas.length - y.1) ((0, none, 0, ([] : List Str), none, 0, ([] : List Str))) ⟨hst10, MLe.refl _, hfr10.sub (.c <| .c <| .c <| .c <| .c <| .c <| .nil), ⟨Nat.zero_le _, hrow_nn, hcap_nn, Nat.le_refl _, hrow_cn, hcap_cn, Nat.zero_le _⟩⟩ fun y a11 w11 m11 hh11 => ?_
   have hst11 := hh11.st; have hle11 := hh11.le; have hfr11 := hh11.fr; have hrel := hh11.rel; clear hh11
   clear hst10 hfr10
   obtain ⟨y, nno, nnp, nn, cno, cnp, cn⟩ := y
   dsimp only at hrel hfr11 hst11
   replace hrow_nn := hrow_nn.mono hle11
   replace hrow_cn := hrow_cn.mono hle11
   obtain ⟨hyn, hrow_nn, hcap_nn, hlen_nn, hrow_cn, hcap_cn, hlen_cn⟩ := hrel
   have hlh11 := hle11
   refine zB fun _ hK42 => ?_
   refine zB fun _ hK43 => ?_
   have zq22 := zq21.trans hle11
   replace hc1 := hc1.mono zq22
   refine rp0 hst11 hfr11 (.cons rfl (zD rfl) <| .cons rfl (zA (off := 1) rfl underlying35 rfl rfl sizeOf23 rfl) <| .cons rfl (zE rfl hc1 isAgg23 rfl) <| .cons rfl (zY rfl underlying23) <| .cons rfl (z7 rfl rfl) <| .nil) fun a12 w12 m12 hst12 hle12 hk12 => ?_
   have hfr12 := hk12.fr (.o 3 <| .o 8 <| .o 9 <| .o 4 <| .o 5 <| .o 1 <| .n 107 <| .nil)
   clear hst11 hfr11 hk12
   refine hK43 _ _ ?_
   refine zG hfr12 rfl rfl (fun hb107 => ?_) (fun hb107 => ?_)
   ·try simp only [nqs] at hb107
    refine zJ ?_
    refine hK42 _ _ ?_
    refine zB fun _ hK44 => ?_
    refine zN ?_
    refine zB fun _ hK45 => ?_
    have zq23 := zq22.trans hle12
    have zq24 := zq3.trans zq23
    replace hda_p := hda_p.mono zq24
    obtain ⟨p46, vs46, x46, ho46, hd46, hm_x46, ht46, hcv46, hl46, hv46⟩ := hda_p.nth (k := y) (by omega)
    cases ho46
    obtain ⟨oF46, cF46, rfl, hfl46⟩ := id hv46
    have hbf46 := hfl46.big; have hcf46 := hfl46.cap
    replace hst12 := hst12.more (r := .free) trivial List.nodup_nil (by simp [Res.blocks])
    replace hc1 := hc1.mono hle12
    refine ra0 (tch := [(5, 4, (fun v => .blk v _)), (6, 4, (fun v => .blk v _))]) hst12 hfr12 (.cons rfl (zA (off := 1) rfl underlying35 rfl rfl sizeOf23 rfl) <| .cons rfl (zE rfl hc1 isAgg23 rfl) <| .cons rfl (zD rfl) <| .cons rfl (zH (k := y) rfl rfl underlying23 sizeOf122 rfl (by omega)) <| .cons rfl (zO rfl hcv46 isAgg122 sizeOf122 rfl rfl) <| .consT rfl rfl (fun _ => rfl) rfl (zQ zeroValue122 rfl) <| .consT rfl rfl (fun _ => rfl) rfl (zU 10 rfl rfl rfl fun y10 => zb rfl rfl rfl rfl rfl sizeOf122 rfl rfl rfl) <| .nil) fun a13 w13 m13 hst13 hle13 hk13 => ?_
    have hfr13 := hk13.fr (.o 3 <| .o 8 <| .o 9 <| .o 4 <| .o 5 <| .o 1 <| .nil)
    obtain ⟨g47, e47, _⟩ := hk13.ex 10 rfl
    replace hfr13 := hfr13.cons e47
    replace hst13 := hst13.fin (L' := [_, _, _, _, _]) (.cons e47 <| .cons e47 <| .nil)
    clear hst12 hfr12 hk13
    have ho1 := consN_take p.datas (y + 1)
    rw [ht46, zDc] at ho1
    refine hK45 _ _ ?_
    refine zB fun _ hK48 => ?_
    refine zB fun _ hK49 => ?_
    have zq25 := hle12.trans hle13
    replace hrow_nn := hrow_nn.mono zq25
    have hs_nn : Strs m13 nno (nn).length nnp nn := Strs.of_row (by simpa using hrow_nn) rfl hcap_nn (by omega)
    refine rp0 hst13 hfr13 (.cons rfl (zA (off := 0) rfl underlying122 rfl rfl sizeOf9 rfl) <| .cons rfl (zM (j := 4) rfl rfl isAgg9 rfl) <| .cons rfl (z6 rfl rfl) <| .cons rfl (zD rfl) <| .cons rfl (zA (off := 0) rfl underlying122 rfl rfl sizeOf9 rfl) <| .cons rfl (zM (j := 4) rfl rfl isAgg9 rfl) <| .cons rfl (z6 rfl rfl) <| .cons rfl (zx rfl rfl rfl) <| .cons rfl (zD rfl) <| .cons rfl (zD rfl) <| .cons rfl (zA (off := 0) rfl underlying122 rfl rfl sizeOf9 rfl) <| .cons rfl (zM (j := 4) rfl rfl isAgg9 rfl) <| .cons rfl (zc rfl (.cons rfl <| .cons rfl <| .nil) call61 (fun w m hK => by have hle_ := KC.le hK; have hA := KC.agree hK; have hs_nn := hs_nn.mono hle_; exact in_c hA hs_nn)) <| .cons rfl (zx rfl rfl rfl) <| .nil) fun a14 w14 m14 hst14 hle14 hk14 => ?_
    have hfr14 := hk14.fr (.o 3 <| .o 8 <| .o 9 <| .o 4 <| .o 5 <| .o 1 <| .o 10 <| .n 128 <| .nil)
    clear hst13 hfr13 hk14
    refine hK49 _ _ ?_
    refine zG hfr14 rfl rfl (fun hb128 => ?_) (fun hb128 => ?_)
    ·try simp only [nqs] at hb128
     refine zB fun _ hK50 => ?_
     refine rp0 hst14 hfr14 (.cons rfl (zC rfl) <| .nil) fun a15 w15 m15 hst15 hle15 hk15 => ?_
     have hfr15 := hk15.fr (.o 3 <| .o 8 <| .o 9 <| .o 4 <| .o 5 <| .n 2 <| .nil)
     clear hst14 hfr14 hk15
     refine hK50 _ _ ?_
     refine zK ?_
     repeat (with_reducible first | refine zI ?_ | refine zF ?_)
     exact zL hst15 hfr15 rfl (.tmp rfl <| .nil) (⟨_, rfl, trivial⟩)
    ·try simp only [nqs] at hb128
     refine zJ ?_
     refine hK48 _ _ ?_
     refine zB fun _ hK52 => ?_
     refine ra0 (tch := [(4, 2, (fun v => .row v _ _ _ _))]) hst14 hfr14 (.cons rfl (zD rfl) <| .cons rfl (zA (off := 0) rfl underlying122 rfl rfl sizeOf9 rfl) <| .cons rfl (zM (j := 4) rfl rfl isAgg9 rfl) <| .cons rfl (ZB (.cons rfl <| .nil) underlying27 sizeOf9 zeroValue9 rfl rfl rfl rfl) <| .consT rfl rfl (fun _ => rfl) rfl (zU 132 rfl rfl rfl fun y132 => zBy (size := 1) (bytes := 16) rfl rfl underlying27 type9 rfl rfl rfl rfl (fun w m hK => .inr ⟨_, rfl, hK.2⟩) rfl (by decide) rfl (by simp only [maxLen]; omega) (by omega)) <| .consA 133 rfl rfl <| .nil) fun a15 w15 m15 hst15 hle15 hk15 => ?_
     have hfr15 := hk15.fr (.o 8 <| .o 9 <| .o 4 <| .o 5 <| .o 1 <| .o 10 <| .nil)
     obtain ⟨⟨nn_53o, nn_53p⟩, e54, hrow_nn_53, hcap_nn_53⟩ := hk15.ex 133 rfl
     replace e54 : zZ a15 133 = .slice nn_53o (nn ++ [x46.name]).length nn_53p := by rw [e54]; refine congrArg (fun q => Value.slice _ q _) ?_; simp only [List.length_append, List.length_cons, List.length_nil]
     replace hfr15 := hfr15.cons (hk15.same 3 rfl e54)
     replace hst15 := hst15.fin (L' := [_, _, _, _, _]) (.cons e54 <| .nil)
     have en_nn_53 : (nn).length + 1 = ((nn ++ [x46.name])).length := by simp only [List.length_append, List.length_cons, List.length_nil]
     have em_nn_53 : (nn).map (fun x => S x) ++ [S x46.name] = ((nn ++ [x46.name])).map (fun x => S x) := by simp only [List.map_append, List.map_cons, List.map_nil]
     replace hst15 := hst15.row_eq (k := 2) rfl en_nn_53 em_nn_53
     simp only [List.set_cons_succ, List.set_cons_zero] at hst15
     change RowAt m15 nn_53o ((nn).map (fun x => S x) ++ [S x46.name]) at hrow_nn_53; rw [em_nn_53] at hrow_nn_53; change (nn).length + 1 ≤ nn_53p at hcap_nn_53; rw [en_nn_53] at hcap_nn_53
     clear hst14 hfr14 hk15
     refine hK52 _ _ ?_
     refine zB fun _ hK55 => ?_
     refine rp0 hst15 hfr15 (.cons rfl (zC rfl) <| .nil) fun a16 w16 m16 hst16 hle16 hk16 => ?_
     have hfr16 := hk16.fr (.o 8 <| .o 9 <| .o 4 <| .o 5 <| .o 1 <| .o 10 <| .o 3 <| .n 11 <| .nil)
     clear hst15 hfr15 hk16
     refine hK55 _ _ ?_
     refine zN ?_
     have zq26 := hle15.trans hle16
     have zq27 := hle14.trans zq26
     have zq28 := zq25.trans zq27
     have hlh16 := hlh11.trans zq28
     have hlq56 := hlh16
     replace hrow_cn := hrow_cn.mono zq28
     refine ze (T := [(9, _), (4, _), (5, _), (1, _), (10, _), (3, _)]) (fun (k : Nat × Option Addr × Nat × List Str) => ([(8, .slice k.2.1 k.2.2.2.length k.2.2.1), (11, .int .i64 (k.1 : Int))] : List (Nat × Value))) (fun k => [_, _, _, .row (.slice k.2.1 k.2.2.2.length k.2.2.1) k.2.2.2.length 1 9 (k.2.2.2.map (fun x => S x)), _]) (fun (k : Nat × Option Addr × Nat × List Str) m => (fun (k : Nat) (cqo : Option Addr) (cqp : Nat) (cq : List Str) => (k ≤ x46.cons.length) ∧ (RowAt m cqo (cq.map (fun x => S x))) ∧ (cq.length ≤ cqp) ∧ (cq.length ≤ consN (p.datas.take y) + k)) k.1 k.2.1 k.2.2.1 k.2.2.2) (fun k => x46.cons.length - k.1) ((0, cno, cnp, cn)) ⟨hst16, MLe.refl _, hfr16.sub (.c <| .c <| .c <| .c <| .c <| .c <| .c <| .c <| .nil), ⟨Nat.zero_le _, hrow_cn, hcap_cn, hlen_cn⟩⟩ fun k a17 w17 m17 hh17 => ?_
     have hst17 := hh17.st; have hle17 := hh17.le; have hfr17 := hh17.fr; have hrel := hh17.rel; clear hh17
     clear hst16 hfr16
     obtain ⟨k, cqo, cqp, cq⟩ := k
     dsimp only at hrel hfr17 hst17
     obtain ⟨hkn, hrow_cq, hcap_cq, hlen_cq⟩ := hrel
     have hlh17 := hle17
     refine zB fun _ hK57 => ?_
     refine zB fun _ hK58 => ?_
     refine rp0 hst17 hfr17 (.cons rfl (zD rfl) <| .cons rfl (zA (off := 1) rfl underlying122 rfl rfl sizeOf120 rfl) <| .cons rfl (zM (j := 4) rfl rfl isAgg120 rfl) <| .cons rfl (zY rfl underlying120) <| .cons rfl (z7 rfl rfl) <| .nil) fun a18 w18 m18 hst18 hle18 hk18 => ?_
     have hfr18 := hk18.fr (.o 8 <| .o 11 <| .o 9 <| .o 4 <| .o 5 <| .o 1 <| .o 10 <| .o 3 <| .n 138 <| .nil)
     clear hst17 hfr17 hk18
     refine hK58 _ _ ?_
     refine zG hfr18 rfl rfl (fun hb138 => ?_) (fun hb138 => ?_)
     ·try simp only [nqs] at hb138
      refine zJ ?_
      refine hK57 _ _ ?_
      refine zB fun _ hK59 => ?_
      refine zN ?_
      refine zB fun _ hK60 => ?_
      refine zB fun _ hK61 => ?_
      replace hrow_cq := hrow_cq.mono hle18
      have hs_cn : Strs m18 cqo (cq).length cqp cq := Strs.of_row (by simpa using hrow_cq) rfl hcap_cq (by omega)
      have zq29 := hle17.trans hle18
      have zq30 := zq27.trans zq29
      have zq31 := hle13.trans zq30
      replace hfl46 := hfl46.mono zq31
      obtain ⟨p62, vs62, x62, ho62, hd62, hm_x62, ht62, hcv62, hl62, hv62⟩ := hfl46.nth (k := k) (by omega)
      cases ho62
      obtain ⟨oF62, cF62, rfl, hfl62⟩ := id hv62
      have hbf62 := hfl62.big; have hcf62 := hfl62.cap
      refine rp0 hst18 hfr18 (.cons rfl (zA (off := 1) rfl underlying122 rfl rfl sizeOf120 rfl) <| .cons rfl (zM (j := 4) rfl rfl isAgg120 rfl) <| .cons rfl (zD rfl) <| .cons rfl (zH (k := k) rfl rfl underlying120 sizeOf124 rfl (by omega)) <| .cons rfl (zA (off := 0) rfl underlying124 rfl rfl sizeOf9 rfl) <| .cons rfl (zE rfl hcv62 isAgg9 rfl) <| .cons rfl (z6 rfl rfl) <| .cons rfl (zD rfl) <| .cons rfl (zD rfl) <| .cons rfl (zA (off := 1) rfl underlying122 rfl rfl sizeOf120 rfl) <| .cons rfl (zM (j := 4) rfl rfl isAgg120 rfl) <| .cons rfl (zD rfl) <| .cons rfl (zH (k := k) rfl rfl underlying120 sizeOf124 rfl (by omega)) <| .cons rfl (zA (off := 0) rfl underlying124 rfl rfl sizeOf9 rfl) <| .cons rfl (zE rfl hcv62 isAgg9 rfl) <| .cons rfl (zc rfl (.cons rfl <| .cons rfl <| .nil) call61 (fun w m hK => by have hle_ := KC.le hK; have hA := KC.agree hK; have hs_cn := hs_cn.mono hle_; exact in_c hA hs_cn)) <| .cons rfl (zx rfl rfl rfl) <| .nil) fun a19 w19 m19 hst19 hle19 hk19 => ?_
      have hfr19 := hk19.fr (.o 8 <| .o 11 <| .o 9 <| .o 4 <| .o 5 <| .o 1 <| .o 10 <| .o 3 <| .n 157 <| .nil)
      clear hst18 hfr18 hk19
      refine hK61 _ _ ?_
      refine zG hfr19 rfl rfl (fun hb157 => ?_) (fun hb157 => ?_)
      ·try simp only [nqs] at hb157
       refine zB fun _ hK63 => ?_
       refine rp0 hst19 hfr19 (.cons rfl (zC rfl) <| .nil) fun a20 w20 m20 hst20 hle20 hk20 => ?_
       have hfr20 := hk20.fr (.o 8 <| .o 11 <| .o 9 <| .o 4 <| .o 5 <| .o 3 <| .n 2 <| .nil)
       clear hst19 hfr19 hk20
       refine hK63 _ _ ?_
       refine zK ?_
       repeat (with_reducible first | refine zI ?_ | refine zF ?_)
       exact zL hst20 hfr20 rfl (.tmp rfl <| .nil) (⟨_, rfl, trivial⟩)
      ·try simp only [nqs] at hb157
       refine zJ ?_
       refine hK60 _ _ ?_
       refine zB fun _ hK65 => ?_
       replace hcv62 := hcv62.mono hle19
       refine ra0 (tch := [(8, 3, (fun v => .row v _ _ _ _))]) hst19 hfr19 (.cons rfl (zD rfl) <| .cons rfl (zA (off := 1) rfl underlying122 rfl rfl sizeOf120 rfl) <| .cons rfl (zM (j := 4) rfl rfl isAgg120 rfl) <| .cons rfl (zD rfl) <| .cons rfl (zH (k := k) rfl rfl underlying120 sizeOf124 rfl (by omega)) <| .cons rfl (zA (off := 0) rfl underlying124 rfl rfl sizeOf9 rfl) <| .cons rfl (zE rfl hcv62 isAgg9 rfl) <| .cons rfl (ZB (.cons rfl <| .nil) underlying27 sizeOf9 zeroValue9 rfl rfl rfl rfl) <| .consT rfl rfl (fun _ => rfl) rfl (zU 165 rfl rfl rfl fun y165 => zBy (size := 1) (bytes := 16) rfl rfl underlying27 type9 rfl rfl rfl rfl (fun w m hK => .inr ⟨_, rfl, hK.2⟩) rfl (by decide) rfl (by simp only [maxLen]; omega) (by omega)) <| .consA 166 rfl rfl <| .nil) fun a20 w20 m20 hst20 hle20 hk20 => ?_
       have hfr20 := hk20.fr (.o 11 <| .o 9 <| .o 4 <| .o 5 <| .o 1 <| .o 10 <| .o 3 <| .nil)
       obtain ⟨⟨cn_66o, cn_66p⟩, e67, hrow_cn_66, hcap_cn_66⟩ := hk20.ex 166 rfl
       replace e67 : zZ a20 166 = .slice cn_66o (cq ++ [x62.name]).length cn_66p := by rw [e67]; refine congrArg (fun q => Value.slice _ q _) ?_; simp only [List.length_append, List.length_cons, List.length_nil]
       replace hfr20 := hfr20.cons (hk20.same 8 rfl e67)
       replace hst20 := hst20.fin (L' := [_, _, _, _, _]) (.cons e67 <| .nil)
       have en_cn_66 : (cq).length + 1 = ((cq ++ [x62.name])).length := by simp only [List.length_append, List.length_cons, List.length_nil]
       have em_cn_66 : (cq).map (fun x => S x) ++ [S x62.name] = ((cq ++ [x62.name])).map (fun x => S x) := by simp only [List.map_append, List.map_cons, List.map_nil]
       replace hst20 := hst20.row_eq (k := 3) rfl en_cn_66 em_cn_66
       simp only [List.set_cons_succ, List.set_cons_zero] at hst20
       change RowAt m20 cn_66o ((cq).map (fun x => S x) ++ [S x62.name]) at hrow_cn_66; rw [em_cn_66] at hrow_cn_66; change (cq).length + 1 ≤ cn_66p at hcap_cn_66; rw [en_cn_66] at hcap_cn_66
       clear hst19 hfr19 hk20
       refine hK65 _ _ ?_
       refine zB fun _ hK68 => ?_
       refine rp0 hst20 hfr20 (.cons rfl (zC rfl) <| .nil) fun a21 w21 m21 hst21 hle21 hk21 => ?_
       have hfr21 := hk21.fr (.o 11 <| .o 9 <| .o 4 <| .o 5 <| .o 1 <| .o 10 <| .o 3 <| .o 8 <| .n 12 <| .nil)
       clear hst20 hfr20 hk21
       refine hK68 _ _ ?_
       refine zN ?_
       have zq32 := hle20.trans hle21
       have zq33 := hle19.trans zq32
       have zq34 := hle18.trans zq33
       have hlh21 := hlh17.trans zq34
       have hlq69 := hlh21
       refine ze (T := [(11, _), (9, _), (4, _), (5, _), (1, _), (10, _), (3, _), (8, _)]) (fun (j : Nat) => ([(12, .int .i64 (j : Int))] : List (Nat × Value))) (fun _ => _) (fun (j : Nat) m => (j ≤ x62.fields.length)) (fun j => x62.fields.length - j) (0) ⟨hst21, MLe.refl _, hfr21.sub (.c <| .c <| .c <| .c <| .c <| .c <| .c <| .c <| .c <| .nil), Nat.zero_le _⟩ fun j a22 w22 m22 hh22 => ?_
       have hst22 := hh22.st; have hle22 := hh22.le; have hfr22 := hh22.fr; have hrel := hh22.rel; clear hh22
       clear hst21 hfr21
       have hjn := hrel
       have hlh22 := hle22
       refine zB fun _ hK70 => ?_
       refine zB fun _ hK71 => ?_
       have zq35 := zq32.trans hle22
       replace hcv62 := hcv62.mono zq35
       refine rp0 hst22 hfr22 (.cons rfl (zD rfl) <| .cons rfl (zA (off := 1) rfl underlying122 rfl rfl sizeOf120 rfl) <| .cons rfl (zM (j := 4) rfl rfl isAgg120 rfl) <| .cons rfl (zD rfl) <| .cons rfl (zH (k := k) rfl rfl underlying120 sizeOf124 rfl (by omega)) <| .cons rfl (zA (off := 1) rfl underlying124 rfl rfl sizeOf26 rfl) <| .cons rfl (zE rfl hcv62 isAgg26 rfl) <| .cons rfl (zY rfl underlying26) <| .cons rfl (z7 rfl rfl) <| .nil) fun a23 w23 m23 hst23 hle23 hk23 => ?_
       have hfr23 := hk23.fr (.o 12 <| .o 11 <| .o 9 <| .o 4 <| .o 5 <| .o 1 <| .o 10 <| .o 3 <| .o 8 <| .n 175 <| .nil)
       clear hst22 hfr22 hk23
       refine hK71 _ _ ?_
       refine zG hfr23 rfl rfl (fun hb175 => ?_) (fun hb175 => ?_)
       ·try simp only [nqs] at hb175
        refine zJ ?_
        refine hK70 _ _ ?_
        refine zB fun _ hK72 => ?_
        refine zN ?_
        refine zB fun _ hK73 => ?_
        have zq36 := hle22.trans hle23
        have zq37 := zq33.trans zq36
        replace hfl62 := hfl62.mono zq37
        obtain ⟨p74, vs74, x74, ho74, hd74, hm_x74, ht74, hcv74, hl74, hv74⟩ := hfl62.nth (k := j) (by omega)
        cases ho74
        obtain ⟨o74, c74, oL74, cL74, rfl, hkd74, hs74, hi74, hj74, hr74⟩ := hv74.open_
        have hbg74 := hkd74.big; have hcp74 := hkd74.cap; have hbs74 := hs74.big; have hcs74 := hs74.cap
        have hrw74 : RwR _ ⟨x74.labels, x74.rv⟩ _ := ⟨_, _, rfl, hs74, hr74⟩
        have zq38 := zq31.trans zq37
        have zq39 := zq24.trans zq38
        replace h_p := h_p.mono zq39
        replace hef_p := hef_p.mono zq39
        replace hpb_p := hpb_p.mono zq39
        replace hkk_pb := hkk_pb.mono zq39
        replace haa_pb := haa_pb.mono zq39
        replace hrr_pb := hrr_pb.mono zq39
        have zq40 := zq23.trans zq38
        replace hrow_nm := hrow_nm.mono zq40
        replace hrow_op := hrow_op.mono zq40
        replace hda_p := hda_p.mono zq38
        replace hc1 := hc1.mono zq38
        replace hcv46 := hcv46.mono zq38
        replace hv46 := hv46.mono zq38
        have zq41 := zq30.trans zq37
        replace hrow_nn := hrow_nn.mono zq41
        replace hs_nn := hs_nn.mono zq41
        have zq42 := zq29.trans zq37
        have zq43 := hle16.trans zq42
        replace hrow_nn_53 := hrow_nn_53.mono zq43
        replace hrow_cn := hrow_cn.mono zq42
        replace hfl46 := hfl46.mono zq37
        replace hrow_cq := hrow_cq.mono zq37
        replace hs_cn := hs_cn.mono zq37
        replace hv62 := hv62.mono zq37
        have zq44 := hle21.trans zq36
        replace hrow_cn_66 := hrow_cn_66.mono zq44
        replace hcv62 := hcv62.mono hle23
        refine ZC (fun _ => mixed) hst23 hfr23 (by kernel_rfl) (by kernel_rfl) (.cons rfl (zO rfl hc1 isAgg35 sizeOf35 rfl rfl) <| .cons rfl (zA (off := 1) rfl underlying122 rfl rfl sizeOf120 rfl) <| .cons rfl (zM (j := 4) rfl rfl isAgg120 rfl) <| .cons rfl (zD rfl) <| .cons rfl (zH (k := k) rfl rfl underlying120 sizeOf124 rfl (by omega)) <| .cons rfl (zA (off := 1) rfl underlying124 rfl rfl sizeOf26 rfl) <| .cons rfl (zE rfl hcv62 isAgg26 rfl) <| .cons rfl (zD rfl) <| .cons rfl (zH (k := j) rfl rfl underlying26 sizeOf31 rfl (by omega)) <| .cons rfl (zO rfl hcv74 isAgg31 sizeOf31 rfl rfl) <| .cons rfl (zc rfl (.cons rfl <| .cons rfl <| .nil) call62 (fun w m hK => by have hle_ := KC.le hK; have hA := KC.agree hK; have h_p := h_p.mono hle_; have hef_p := hef_p.mono hle_; have hda_p := hda_p.mono hle_; have hpb_p := hpb_p.mono hle_; have hkk_pb := hkk_pb.mono hle_; have haa_pb := haa_pb.mono hle_; have hrr_pb := hrr_pb.mono hle_; have hc1 := hc1.mono hle_; have hrow_nm := hrow_nm.mono hle_; have hrow_op := hrow_op.mono hle_; have hrow_nn := hrow_nn.mono hle_; have hrow_cn := hrow_cn.mono hle_; have hcv46 := hcv46.mono hle_; have hv46 := hv46.mono hle_; have hfl46 := hfl46.mono hle_; have hs_nn := hs_nn.mono hle_; have hrow_nn_53 := hrow_nn_53.mono hle_; have hrow_cq := hrow_cq.mono hle_; have hs_cn := hs_cn.mono hle_; have hcv62 := hcv62.mono hle_; have hv62 := hv62.mono hle_; have hfl62 := hfl62.mono hle_; have hrow_cn_66 := hrow_cn_66.mono hle_; have hcv74 := hcv74.mono hle_; have hv74 := hv74.mono hle_; have hkd74 := hkd74.mono hle_; have hs74 := hs74.mono hle_; have hrw74 := hrw74.mono hle_; exact first_c hA h_p (by assumption))) <| .cons rfl (Zn rfl) <| .nil) fun a24 w24 m24 hst24 hle24 hk24 => ?_
        have hfr24 := hk24.fr (.o 12 <| .o 11 <| .o 9 <| .o 4 <| .o 5 <| .o 1 <| .o 10 <| .o 3 <| .o 8 <| .n 189 <| .nil)
        clear hst23 hfr23 hk24
        refine hK73 _ _ ?_
        refine zG hfr24 rfl rfl (fun hb189 => ?_) (fun hb189 => ?_)
        ·try simp only [nqs] at hb189
         refine zB fun _ hK75 => ?_
         refine rp0 hst24 hfr24 (.cons rfl (zC rfl) <| .nil) fun a25 w25 m25 hst25 hle25 hk25 => ?_
         have hfr25 := hk25.fr (.o 12 <| .o 11 <| .o 9 <| .o 4 <| .o 5 <| .o 3 <| .o 8 <| .n 2 <| .nil)
         clear hst24 hfr24 hk25
         refine hK75 _ _ ?_
         refine zK ?_
         repeat (with_reducible first | refine zI ?_ | refine zF ?_)
         exact zL hst25 hfr25 rfl (.tmp rfl <| .nil) (⟨_, rfl, trivial⟩)
        ·try simp only [nqs] at hb189
         refine zJ ?_
         refine hK72 _ _ ?_
         refine rp0 hst24 hfr24 (.cons rfl (zD rfl) <| .cons rfl (zk rfl rfl ⟨by omega, by omega⟩) <| .cons rfl (zC rfl) <| .nil) fun a25 w25 m25 hst25 hle25 hk25 => ?_
         have hfr25 := hk25.fr (.o 11 <| .o 9 <| .o 4 <| .o 5 <| .o 1 <| .o 10 <| .o 3 <| .o 8 <| .n 12 <| .nil)
         clear hst24 hfr24 hk25
         have zq45 := hle24.trans hle25
         have zq46 := hle23.trans zq45
         have hlh25 := hlh22.trans zq46
         exact ⟨j + 1, m25, by show x62.fields.length - (j + 1) < x62.fields.length - j; omega, ⟨hst25, hlh25, hfr25.sub (.c <| .c <| .c <| .c <| .c <| .c <| .c <| .c <| .c <| .nil), by show j + 1 ≤ x62.fields.length; omega⟩⟩
       ·try simp only [nqs] at hb175
        have hgej : j = x62.fields.length := by omega
        refine zg ?_
        refine hK59 _ _ ?_
        refine rp0 hst23 hfr23 (.cons rfl (zD rfl) <| .cons rfl (zk rfl rfl ⟨by omega, by omega⟩) <| .cons rfl (zC rfl) <| .nil) fun a24 w24 m24 hst24 hle24 hk24 => ?_
        have hfr24 := hk24.fr (.o 12 <| .o 9 <| .o 4 <| .o 5 <| .o 1 <| .o 10 <| .o 3 <| .o 8 <| .n 11 <| .nil)
        clear hst23 hfr23 hk24
        have zq47 := hle23.trans hle24
        have zq48 := hle22.trans zq47
        have zq49 := hle21.trans zq48
        replace hrow_cn_66 := hrow_cn_66.mono zq49
        replace hlq69 := hlq69.trans zq48
        exact ⟨(k + 1, cn_66o, cn_66p, (cq ++ [x62.name])), m24, by show x46.cons.length - (k + 1) < x46.cons.length - k; omega, ⟨hst24, hlq69, hfr24.sub (.c <| .c <| .c <| .c <| .c <| .c <| .c <| .c <| .nil), ⟨by show k + 1 ≤ x46.cons.length; omega, hrow_cn_66, hcap_cn_66, by simp only [List.length_append, List.length_cons, List.length_nil]; omega⟩⟩⟩
     ·try simp only [nqs] at hb138
      have hgek : k = x46.cons.length := by omega
      refine zg ?_
      refine hK44 _ _ ?_
      refine rp0 hst18 hfr18 (.cons rfl (zD rfl) <| .cons rfl (zk rfl rfl ⟨by omega, by omega⟩) <| .cons rfl (zC rfl) <| .nil) fun a19 w19 m19 hst19 hle19 hk19 => ?_
      have hfr19 := hk19.fr (.o 8 <| .o 11 <| .o 4 <| .o 5 <| .o 1 <| .o 3 <| .n 9 <| .nil)
      clear hst18 hfr18 hk19
      have hst19 := hst19.take 4
      have zq50 := hle18.trans hle19
      have zq51 := hle17.trans zq50
      have zq52 := hle16.trans zq51
      replace hrow_nn_53 := hrow_nn_53.mono zq52
      replace hlq56 := hlq56.trans zq51
      replace hrow_cq := hrow_cq.mono zq50
      exact ⟨(y + 1, nn_53o, nn_53p, (nn ++ [x46.name]), cqo, cqp, cq), m19, by show p.datas.length - (y + 1) < p.datas.length - y; omega, ⟨hst19, hlq56, hfr19.sub (.c <| .c <| .c <| .c <| .c <| .c <| .nil), ⟨by show y + 1 ≤ p.datas.length; omega, hrow_nn_53, hcap_nn_53, by simp only [List.length_append, List.length_cons, List.length_nil]; omega, hrow_cq, hcap_cq, by show (cq).length ≤ consN (p.datas.take (y + 1)); rw [ht46, zDc]; omega⟩⟩⟩
   ·try simp only [nqs] at hb107
    have hge : y = p.datas.length := by omega
    refine zg ?_
    refine hK39 _ _ ?_
    refine zB fun _ hK77 => ?_
    refine rp0 hst12 hfr12 (.cons rfl (zC rfl) <| .nil) fun a13 w13 m13 hst13 hle13 hk13 => ?_
    have hfr13 := hk13.fr (.o 3 <| .o 8 <| .o 9 <| .o 4 <| .o 5 <| .n 2 <| .nil)
    clear hst12 hfr12 hk13
    refine hK77 _ _ ?_
    refine zK ?_
    repeat (with_reducible first | refine zI ?_ | refine zF ?_)
    exact zL hst13 hfr13 rfl (.tmp rfl <| .nil) (⟨_, rfl, trivial⟩)
end Go.Proofs.YtmdhhjmomilhjaaDoor
namespace Go.Proofs.YtmdhhjmomilhjaaDoor
open Go.Proofs.Tryd
set_option linter.all false
set_option maxRecDepth 4000
open Go.RowKit
def MP.oneB (t : Tm) : MP := MP.mem (fun b : Bool => .bool b) (fun b _ => b = true → zCy t) fun _ h => h
def MP.termB (t : Tm) : MP := MP.mem (fun y : Int × Bool => .tuple #[.int .i64 y.1, .bool y.2]) (fun y _ => y.2 = true → RtT t) fun _ h => h
def MP.chkB (t : Tm) : MP := MP.mem (fun y : Int × Int => .tuple #[.int .i64 y.1, .int .i64 y.2]) (fun y _ => y.2 = 0 → RtT t) fun _ h => h
set_option maxHeartbeats 400000 in
theorem twice_c {w : World} {m : Mem} {o_l : Option Addr} {c_l : Nat} {l : List Str} (hA : Agree w m) (h_l : Strs m o_l l.length c_l l) : FnV Tryd.prog 86 #[.slice o_l l.length c_l] w m (fun _ m v => MP.anyB.p m v) := by
 have hb_l := h_l.big; have hc_l := h_l.cap
 refine zX (vs := [_]) func86 rfl rfl rfl fun a0 hfr0 => ?_
 have hst0 := zW hA (zf [] _ w m)
 have hM : MLe m m := MLe.refl m
 refine zB fun _ hK1 => ?_
 refine rp0 hst0 hfr0 (.cons rfl (zC rfl) <| .nil) fun a1 w1 m1 hst1 hle1 hk1 => ?_
 have hfr1 := hk1.fr (.o 0 <| .nil)
 replace h_l := h_l.mono hle1
 clear hst0 hfr0 hk1
 refine hK1 _ _ ?_
 refine zB fun _ hK2 => ?_
 refine zB fun _ hK3 => ?_
 refine rp0 hst1 hfr1 (.cons rfl (zC rfl) <| .nil) fun a2 w2 m2 hst2 hle2 hk2 => ?_
 have hfr2 := hk2.fr (.o 0 <| .n 3 <| .nil)
 replace h_l := h_l.mono hle2
 clear hst1 hfr1 hk2
 refine hK3 _ _ ?_
 refine zN ?_
 refine ze (T := [(0, _)]) (fun (y : Nat) => ([(3, .int .i64 (y : Int))] : List (Nat × Value))) (fun _ => _) (fun (y : Nat) m => (y ≤ l.length)) (fun y => l.length - y) (0) ⟨hst2, MLe.refl _, hfr2.sub (.c <| .c <| .nil), Nat.zero_le _⟩ fun y a3 w3 m3 hh3 => ?_
 have hst3 := hh3.st; have hle3 := hh3.le; have hfr3 := hh3.fr; have hrel := hh3.rel; clear hh3
 replace h_l := h_l.mono hle3
 clear hst2 hfr2
 have hyn := hrel
 have hlh3 := hle3
 refine zB fun _ hK5 => ?_
 refine zB fun _ hK6 => ?_
 refine rp0 hst3 hfr3 (.cons rfl (zD rfl) <| .cons rfl (zD rfl) <| .cons rfl (zY rfl underlying27) <| .cons rfl (z7 rfl rfl) <| .nil) fun a4 w4 m4 hst4 hle4 hk4 => ?_
 have hfr4 := hk4.fr (.o 3 <| .o 0 <| .n 7 <| .nil)
 replace h_l := h_l.mono hle4
 have hlh4 := hlh3.trans hle4
 clear hst3 hfr3 hk4
 refine hK6 _ _ ?_
 refine zG hfr4 rfl rfl (fun hb7 => ?_) (fun hb7 => ?_)
 ·try simp only [nqs] at hb7
  refine zJ ?_
  refine hK5 _ _ ?_
  refine zB fun _ hK7 => ?_
  refine zN ?_
  refine zB fun _ hK8 => ?_
  obtain ⟨p9, vs9, x9, ho9, hd9, hm_x9, ht9, hcv9, hl9, hv9⟩ := h_l.nth (k := y) (by omega)
  cases ho9
  subst hv9
  have hct10 : Strs _ _ _ _ ((l.take (y)).drop (0)) := h_l.cut (l := 0) (k := y) (by omega) (by omega)
  have hcl10 : (y) - (0) = (((l.take (y)).drop (0))).length := hct10.len.symm
  have hcu10 : Strs _ _ _ _ ((l.take (y)).drop (0)) := hct10.lenL
  refine ZC (fun _ => mixed) hst4 hfr4 (by kernel_rfl) (by kernel_rfl) (.cons rfl (zD rfl) <| .cons rfl (zD rfl) <| .cons rfl (zH (k := y) rfl rfl underlying27 sizeOf9 rfl (by omega)) <| .cons rfl (ZN rfl hcv9 isAgg9 rfl) <| .cons rfl (Z7 rfl rfl) <| .cons rfl (zD rfl) <| .cons rfl (zD rfl) <| .cons rfl (zD rfl) <| .cons rfl (zCd (l := 0) (h := y) rfl .none (.some rfl (by omega)) underlying27 sizeOf9 (by first | omega | (dsimp only; omega)) (by first | omega | (dsimp only; omega))) <| .cons rfl (zD rfl) <| .cons rfl (zD rfl) <| .cons rfl (zH (k := y) rfl rfl underlying27 sizeOf9 rfl (by omega)) <| .cons rfl (ZN rfl hcv9 isAgg9 rfl) <| .cons rfl (zc rfl (.cons rfl <| .cons rfl <| .nil) call61 (fun w m hK => by have hle_ := KC.le hK; have hA := KC.agree hK; have hcu10 := hcu10.mono hle_; exact (by rw [hcl10]; exact in_c hA hcu10))) <| .cons rfl (ZI rfl rfl rfl) <| .nil) fun a5 w5 m5 hst5 hle5 hk5 => ?_
  have hfr5 := hk5.fr (.o 3 <| .o 0 <| .n 24 <| .nil)
  clear hst4 hfr4 hk5
  refine hK8 _ _ ?_
  refine zG hfr5 rfl rfl (fun hb24 => ?_) (fun hb24 => ?_)
  ·try simp only [nqs] at hb24
   refine zB fun _ hK11 => ?_
   refine rp0 hst5 hfr5 (.cons rfl (zC rfl) <| .nil) fun a6 w6 m6 hst6 hle6 hk6 => ?_
   have hfr6 := hk6.fr (.o 3 <| .n 2 <| .nil)
   clear hst5 hfr5 hk6
   refine hK11 _ _ ?_
   refine zK ?_
   repeat (with_reducible first | refine zI ?_ | refine zF ?_)
   exact zL hst6 hfr6 rfl (.tmp rfl <| .nil) (⟨_, rfl, trivial⟩)
  ·try simp only [nqs] at hb24
   refine zJ ?_
   refine hK7 _ _ ?_
   refine rp0 hst5 hfr5 (.cons rfl (zD rfl) <| .cons rfl (zk rfl rfl ⟨by omega, by omega⟩) <| .cons rfl (zC rfl) <| .nil) fun a6 w6 m6 hst6 hle6 hk6 => ?_
   have hfr6 := hk6.fr (.o 0 <| .n 3 <| .nil)
   clear hst5 hfr5 hk6
   have zq1 := hle5.trans hle6
   have hlh6 := hlh4.trans zq1
   exact ⟨y + 1, m6, by show l.length - (y + 1) < l.length - y; omega, ⟨hst6, hlh6, hfr6.sub (.c <| .c <| .nil), by show y + 1 ≤ l.length; omega⟩⟩
 ·try simp only [nqs] at hb7
  have hge : y = l.length := by omega
  refine zg ?_
  refine hK2 _ _ ?_
  refine zB fun _ hK13 => ?_
  refine rp0 hst4 hfr4 (.cons rfl (zC rfl) <| .nil) fun a5 w5 m5 hst5 hle5 hk5 => ?_
  have hfr5 := hk5.fr (.o 3 <| .n 2 <| .nil)
  clear hst4 hfr4 hk5
  refine hK13 _ _ ?_
  refine zK ?_
  repeat (with_reducible first | refine zI ?_ | refine zF ?_)
  exact zL hst5 hfr5 rfl (.tmp rfl <| .nil) (⟨_, rfl, trivial⟩)
set_option maxHeartbeats 800000 in
theorem handles_c {w : World} {m : Mem} {p : Pg} {vs_p : List Value} {t : Tm} {vs_t : List Value} (hA : Agree w m) (h_p : PgR m p vs_p) (h_t : TmR m t vs_t) (hbo : zBA p.effects ≤ 1000000000) : FnV Tryd.prog 74 #[.agg vs_p.toArray, .agg vs_t.toArray] w m (fun _ m v => MP.anyB.p m v) := by
 obtain ⟨oE_p, cE_p, oD_p, cD_p, bs_p, rfl, hef_p, hda_p, hpb_p⟩ := id h_p
 have hbe_p := hef_p.big; have hce_p := hef_p.cap; have hbda_p := hda_p.big; have hcd_p := hda_p.cap
 obtain ⟨⟨oK_pb, cK_pb, oA_pb, cA_pb, oR_pb, cR_pb, t0_pb, t1_pb, t2_pb, t3_pb, t4_pb, t5_pb, u0_pb, u1_pb, u2_pb, u3_pb, u4_pb, u5_pb⟩, rfl, hon_pb, hkk_pb, haa_pb, hrr_pb⟩ := hpb_p.open_
 dsimp only at hkk_pb haa_pb hrr_pb
 have hbg_pb := hkk_pb.big; have hcp_pb := hkk_pb.cap; have hbh_pb := haa_pb.big; have hcq_pb := haa_pb.cap
 obtain ⟨⟨oK_t, cK_t, oA_t, cA_t, oR_t, cR_t, t0_t, t1_t, t2_t, t3_t, t4_t, t5_t, u0_t, u1_t, u2_t, u3_t, u4_t, u5_t⟩, rfl, hon_t, hkk_t, haa_t, hrr_t⟩ := h_t.open_
 dsimp only at hkk_t haa_t hrr_t
 have hbg_t := hkk_t.big; have hcp_t := hkk_t.cap; have hbh_t := haa_t.big; have hcq_t := haa_t.cap
 refine zX (vs := [_, _]) func74 rfl rfl rfl fun a0 hfr0 => ?_
 have hst0 := zW hA (zf [] _ w m)
 have hM : MLe m m := MLe.refl m
 refine zB fun _ hK1 => ?_
 refine rp0 hst0 hfr0 (.cons rfl (zv rfl rfl) <| .cons rfl (zv rfl rfl) <| .cons rfl (zC rfl) <| .nil) fun a1 w1 m1 hst1 hle1 hk1 => ?_
 have hfr1 := hk1.fr (.nil)
 obtain ⟨g2, e2, hc2⟩ := hk1.ex 2 rfl
 replace hfr1 := hfr1.cons e2
 obtain ⟨g3, e3, hc3⟩ := hk1.ex 3 rfl
 replace hfr1 := hfr1.cons e3
 replace h_p := h_p.mono hle1
 replace haa_t := haa_t.mono hle1
 clear hst0 hfr0 hk1
 refine hK1 _ _ ?_
 refine zB fun _ hK4 => ?_
 replace hst1 := hst1.more (r := .free) trivial List.nodup_nil (by simp [Res.blocks])
 refine ra0 (tch := [(7, 0, (fun v => .blk v _)), (8, 0, (fun v => .blkx v _ _))]) hst1 hfr1 (.cons rfl (zO rfl hc2 isAgg35 sizeOf35 rfl rfl) <| .cons rfl (zA (off := 2) rfl underlying33 rfl rfl sizeOf9 rfl) <| .cons rfl (zE rfl hc3 isAgg9 rfl) <| .cons rfl (zi (φ := MP.efB (zBA p.effects)) rfl (.cons rfl <| .cons rfl <| .nil) call85 (fun w m hK => by have hle_ := KC.le hK; have hA := KC.agree hK; have h_p := h_p.mono hle_; exact FnG.mono (handled_c hA h_p) fun _ _ _ _ h => h)) <| .cons rfl (zh 13 rfl rfl rfl fun y13 => zD rfl) <| .cons rfl (zh 9 rfl rfl rfl fun y9 => zS rfl rfl) <| .cons rfl (zh 9 rfl rfl rfl fun y9 => zS rfl rfl) <| .consT rfl rfl (fun _ => rfl) rfl (zQ zeroValue115 rfl) <| .consT rfl rfl (fun _ => rfl) rfl (zU 5 rfl rfl rfl fun y5 => ZJ 14 rfl rfl rfl fun y14 => zb rfl rfl rfl rfl rfl sizeOf115 rfl rfl rfl) <| .consA 15 rfl rfl <| .nil) fun a2 w2 m2 hst2 hle2 hk2 => ?_
 have hfr2 := hk2.fr (.o 3 <| .nil)
 obtain ⟨⟨e0, b0⟩, e5, _⟩ := hk2.ex 15 rfl
 obtain ⟨g6, e6, _⟩ := hk2.ex 5 rfl
 replace hfr2 := hfr2.cons e6
 replace hfr2 := hfr2.cons (hk2.same 6 rfl e5)
 replace hst2 := hst2.fin (L' := [_]) (.cons e6 <| .cons e6 <| .nil)
 obtain ⟨⟨⟨ef, oe, ce⟩, be⟩, ⟨hef9, hefl⟩, hst2⟩ := hst2.unx (k := 0) rfl (fun _ => rfl)
 replace haa_t := haa_t.mono hle2
 replace hc3 := hc3.mono hle2
 clear hst1 hfr1 hk2
 dsimp only at hst2 hefl
 have hops : Oss m2 oe ef.ops.length ce ef.ops := by obtain ⟨_, _, e, h⟩ := hef9; simp only [List.cons.injEq, Value.slice.injEq, and_true, true_and] at e; obtain ⟨rfl, rfl⟩ := e; exact h
 have hbo := hops.big
 refine hK4 _ _ ?_
 refine zB fun _ hK8 => ?_
 refine zB fun _ hK9 => ?_
 rcases Nat.eq_zero_or_pos t.arms.length with hz | hz
 ·skip
  refine rp0 hst2 hfr2 (.cons rfl (zD rfl) <| .cons rfl (Zn rfl) <| .cons rfl (zD rfl) <| .cons rfl (zA (off := 6) rfl underlying33 rfl rfl sizeOf25 rfl) <| .cons rfl (zE rfl hc3 isAgg25 rfl) <| .cons rfl (zY rfl underlying25) <| .cons rfl (zA (off := 1) rfl underlying115 rfl rfl sizeOf113 rfl) <| .cons rfl (zM (j := 0) rfl rfl isAgg113 rfl) <| .cons rfl (zY rfl underlying113) <| .cons rfl (zk rfl rfl ⟨by omega, by omega⟩) <| .cons rfl (ZP rfl rfl) <| .cons rfl (zx rfl rfl rfl) <| .cons rfl (zD rfl) <| .cons rfl (zA (off := 6) rfl underlying33 rfl rfl sizeOf25 rfl) <| .cons rfl (zE rfl hc3 isAgg25 rfl) <| .cons rfl (ZA (κ := .eq (.bool false)) (b := false) 28 rfl rfl (fun h => by first | (simp [hz] at h; done) | (simp [hz] at h; omega))) <| .cons rfl (ZA (κ := .eq (.bool false)) (b := false) 28 rfl rfl (fun h => by first | (simp [hz] at h; done) | (simp [hz] at h; omega))) <| .cons rfl (ZA (κ := .eq (.bool false)) (b := false) 28 rfl rfl (fun h => by first | (simp [hz] at h; done) | (simp [hz] at h; omega))) <| .cons rfl (ZA (κ := .eq (.bool false)) (b := false) 28 rfl rfl (fun h => by first | (simp [hz] at h; done) | (simp [hz] at h; omega))) <| .cons rfl (zx rfl rfl rfl) <| .cons rfl (zD rfl) <| .cons rfl (zA (off := 6) rfl underlying33 rfl rfl sizeOf25 rfl) <| .cons rfl (zE rfl hc3 isAgg25 rfl) <| .cons rfl (ZA (κ := .eq (.bool false)) (b := false) 36 rfl rfl (fun h => by first | (simp [hz] at h; done) | (simp [hz] at h; omega))) <| .cons rfl (ZA (κ := .eq (.bool false)) (b := false) 36 rfl rfl (fun h => by first | (simp [hz] at h; done) | (simp [hz] at h; omega))) <| .cons rfl (ZA (κ := .eq (.bool false)) (b := false) 36 rfl rfl (fun h => by first | (simp [hz] at h; done) | (simp [hz] at h; omega))) <| .cons rfl (ZA (κ := .eq (.bool false)) (b := false) 36 rfl rfl (fun h => by first | (simp [hz] at h; done) | (simp [hz] at h; omega))) <| .cons rfl (ZA (κ := .eq (.bool false)) (b := false) 36 rfl rfl (fun h => by first | (simp [hz] at h; done) | (simp [hz] at h; omega))) <| .cons rfl (zx rfl rfl rfl) <| .nil) fun a3 w3 m3 hst3 hle3 hk3 => ?_
  have hfr3 := hk3.fr (.o 3 <| .o 5 <| .n 44 <| .nil)
  clear hst2 hfr2 hk3
  refine hK9 _ _ ?_
  refine zG hfr3 rfl rfl (fun hb44 => ?_) (fun hb44 => ?_)
  ·try simp only [nqs] at hb44
   refine zB fun _ hK10 => ?_
   refine rp0 hst3 hfr3 (.cons rfl (zC rfl) <| .nil) fun a4 w4 m4 hst4 hle4 hk4 => ?_
   have hfr4 := hk4.fr (.n 4 <| .nil)
   clear hst3 hfr3 hk4
   refine hK10 _ _ ?_
   refine zK ?_
   repeat (with_reducible first | refine zI ?_ | refine zF ?_)
   exact zL hst4 hfr4 rfl (.tmp rfl <| .nil) (⟨_, rfl, trivial⟩)
  ·try simp only [nqs] at hb44
   have hal : t.arms.length = ef.ops.length + 1 := by omega
   refine zJ ?_
   refine hK8 _ _ ?_
   refine zB fun _ hK12 => ?_
   refine zB fun _ hK13 => ?_
   refine rp0 hst3 hfr3 (.cons rfl (zC rfl) <| .nil) fun a4 w4 m4 hst4 hle4 hk4 => ?_
   have hfr4 := hk4.fr (.o 3 <| .o 5 <| .n 7 <| .nil)
   clear hst3 hfr3 hk4
   refine hK13 _ _ ?_
   refine zN ?_
   refine ze (T := [(3, _), (5, _)]) (fun (y : Nat) => ([(7, .int .i64 (y : Int))] : List (Nat × Value))) (fun _ => _) (fun (y : Nat) m => (y ≤ ef.ops.length)) (fun y => ef.ops.length - y) (0) ⟨hst4, MLe.refl _, hfr4.sub (.c <| .c <| .c <| .nil), Nat.zero_le _⟩ fun y a5 w5 m5 hh5 => ?_
   have hst5 := hh5.st; have hle5 := hh5.le; have hfr5 := hh5.fr; have hrel := hh5.rel; clear hh5
   clear hst4 hfr4
   have hyn := hrel
   have hlh5 := hle5
   refine zB fun _ hK15 => ?_
   refine zB fun _ hK16 => ?_
   refine rp0 hst5 hfr5 (.cons rfl (zD rfl) <| .cons rfl (zA (off := 1) rfl underlying115 rfl rfl sizeOf113 rfl) <| .cons rfl (zM (j := 0) rfl rfl isAgg113 rfl) <| .cons rfl (zY rfl underlying113) <| .cons rfl (z7 rfl rfl) <| .nil) fun a6 w6 m6 hst6 hle6 hk6 => ?_
   have hfr6 := hk6.fr (.o 7 <| .o 3 <| .o 5 <| .n 49 <| .nil)
   clear hst5 hfr5 hk6
   refine hK16 _ _ ?_
   refine zG hfr6 rfl rfl (fun hb49 => ?_) (fun hb49 => ?_)
   ·try simp only [nqs] at hb49
    refine zJ ?_
    refine hK15 _ _ ?_
    refine zB fun _ hK17 => ?_
    refine zN ?_
    refine zB fun _ hK18 => ?_
    have zq1 := hle5.trans hle6
    have zq2 := hle4.trans zq1
    have zq3 := hle3.trans zq2
    replace haa_t := haa_t.mono zq3
    obtain ⟨p19, vs19, x19, ho19, hd19, hm_x19, ht19, hcv19, hl19, hv19⟩ := haa_t.nth (k := y + 1) (by omega)
    cases ho19
    obtain ⟨oV19, cV19, bs19, rfl, hva19, hbd19⟩ := hv19.open_
    have hbv19 := hva19.big; have hcv19_ := hva19.cap
    obtain ⟨⟨oK19b, cK19b, oA19b, cA19b, oR19b, cR19b, t019b, t119b, t219b, t319b, t419b, t519b, u019b, u119b, u219b, u319b, u419b, u519b⟩, rfl, hon19b, hkk19b, haa19b, hrr19b⟩ := hbd19.open_
    dsimp only at hkk19b haa19b hrr19b
    have hbg19b := hkk19b.big; have hcp19b := hkk19b.cap; have hbh19b := haa19b.big; have hcq19b := haa19b.cap
    replace hst6 := hst6.more (r := .free) trivial List.nodup_nil (by simp [Res.blocks])
    replace hc3 := hc3.mono zq3
    refine ra0 (tch := [(6, 1, (fun v => .blk v _)), (7, 1, (fun v => .blk v _))]) hst6 hfr6 (.cons rfl (zA (off := 6) rfl underlying33 rfl rfl sizeOf25 rfl) <| .cons rfl (zE rfl hc3 isAgg25 rfl) <| .cons rfl (zD rfl) <| .cons rfl (zk rfl rfl ⟨by omega, by omega⟩) <| .cons rfl (zH (k := y + 1) rfl rfl underlying25 sizeOf72 (by omega) (by omega)) <| .cons rfl (zO rfl hcv19 isAgg72 sizeOf72 rfl rfl) <| .consT rfl rfl (fun _ => rfl) rfl (zQ zeroValue72 rfl) <| .consT rfl rfl (fun _ => rfl) rfl (zU 8 rfl rfl rfl fun y8 => zb rfl rfl rfl rfl rfl sizeOf72 rfl rfl hv19.one) <| .nil) fun a7 w7 m7 hst7 hle7 hk7 => ?_
    have hfr7 := hk7.fr (.o 7 <| .o 3 <| .o 5 <| .nil)
    obtain ⟨g20, e20, _⟩ := hk7.ex 8 rfl
    replace hfr7 := hfr7.cons e20
    replace hst7 := hst7.fin (L' := [_, _]) (.cons e20 <| .cons e20 <| .nil)
    clear hst6 hfr6 hk7
    refine hK18 _ _ ?_
    refine zB fun _ hK21 => ?_
    by_cases hz : x19.vars.length = 2
    ·skip
     have zq4 := zq3.trans hle7
     replace hops := hops.mono zq4
     obtain ⟨p22, vs22, x22, ho22, hd22, hm_x22, ht22, hcv22, hl22, hv22⟩ := hops.nth (k := y) (by omega)
     cases ho22
     obtain ⟨as22, rs22, rfl, hoa22, hob22⟩ := id hv22
     obtain ⟨o22a, c22a, oL22a, cL22a, rfl, hkd22a, hs22a, hi22a, hj22a, hr22a⟩ := hoa22.open_
     have hbg22a := hkd22a.big; have hcp22a := hkd22a.cap; have hbs22a := hs22a.big; have hcs22a := hs22a.cap
     have hrw22a : RwR _ ⟨x22.arg.labels, x22.arg.rv⟩ _ := ⟨_, _, rfl, hs22a, hr22a⟩
     obtain ⟨o22r, c22r, oL22r, cL22r, rfl, hkd22r, hs22r, hi22r, hj22r, hr22r⟩ := hob22.open_
     have hbg22r := hkd22r.big; have hcp22r := hkd22r.cap; have hbs22r := hs22r.big; have hcs22r := hs22r.cap
     have hrw22r : RwR _ ⟨x22.res.labels, x22.res.rv⟩ _ := ⟨_, _, rfl, hs22r, hr22r⟩
     replace hva19 := hva19.mono hle7
     obtain ⟨p23, vs23, x23, ho23, hd23, hm_x23, ht23, hcv23, hl23, hv23⟩ := hva19.nth (k := 0) (by omega)
     cases ho23
     subst hv23
     obtain ⟨p24, vs24, x24, ho24, hd24, hm_x24, ht24, hcv24, hl24, hv24⟩ := hva19.nth (k := 1) (by omega)
     cases ho24
     subst hv24
     refine ZC (fun _ => mixed) hst7 hfr7 (by kernel_rfl) (by kernel_rfl) (.cons rfl (zA (off := 0) rfl underlying72 rfl rfl sizeOf9 rfl) <| .cons rfl (zM (j := 1) rfl rfl isAgg9 rfl) <| .cons rfl (zA (off := 1) rfl underlying115 rfl rfl sizeOf113 rfl) <| .cons rfl (zM (j := 0) rfl rfl isAgg113 rfl) <| .cons rfl (zD rfl) <| .cons rfl (zH (k := y) rfl rfl underlying113 sizeOf118 rfl (by omega)) <| .cons rfl (zA (off := 0) rfl underlying118 rfl rfl sizeOf9 rfl) <| .cons rfl (zE rfl hcv22 isAgg9 rfl) <| .cons rfl (Z7 rfl rfl) <| .cons rfl (zD rfl) <| .cons rfl (zA (off := 1) rfl underlying72 rfl rfl sizeOf27 rfl) <| .cons rfl (zM (j := 1) rfl rfl isAgg27 rfl) <| .cons rfl (zY rfl underlying27) <| .cons rfl (ZP rfl rfl) <| .cons rfl (zx rfl rfl rfl) <| .cons rfl (zD rfl) <| .cons rfl (zA (off := 1) rfl underlying72 rfl rfl sizeOf27 rfl) <| .cons rfl (zM (j := 1) rfl rfl isAgg27 rfl) <| .cons rfl (zH (k := 0) rfl rfl underlying27 sizeOf9 rfl (by omega)) <| .cons rfl (ZN rfl hcv23 isAgg9 rfl) <| .cons rfl (zA (off := 1) rfl underlying72 rfl rfl sizeOf27 rfl) <| .cons rfl (zM (j := 1) rfl rfl isAgg27 rfl) <| .cons rfl (zH (k := 1) rfl rfl underlying27 sizeOf9 rfl (by omega)) <| .cons rfl (ZN rfl hcv24 isAgg9 rfl) <| .cons rfl (z6 rfl rfl) <| .cons rfl (zx rfl rfl rfl) <| .nil) fun a8 w8 m8 hst8 hle8 hk8 => ?_
     have hfr8 := hk8.fr (.o 7 <| .o 3 <| .o 5 <| .n 83 <| .nil)
     clear hst7 hfr7 hk8
     refine hK21 _ _ ?_
     refine zG hfr8 rfl rfl (fun hb83 => ?_) (fun hb83 => ?_)
     ·try simp only [nqs] at hb83
      refine zB fun _ hK25 => ?_
      refine rp0 hst8 hfr8 (.cons rfl (zC rfl) <| .nil) fun a9 w9 m9 hst9 hle9 hk9 => ?_
      have hfr9 := hk9.fr (.o 7 <| .n 4 <| .nil)
      clear hst8 hfr8 hk9
      refine hK25 _ _ ?_
      refine zK ?_
      repeat (with_reducible first | refine zI ?_ | refine zF ?_)
      exact zL hst9 hfr9 rfl (.tmp rfl <| .nil) (⟨_, rfl, trivial⟩)
     ·try simp only [nqs] at hb83
      refine zJ ?_
      refine hK17 _ _ ?_
      refine rp0 hst8 hfr8 (.cons rfl (zD rfl) <| .cons rfl (zk rfl rfl ⟨by omega, by omega⟩) <| .cons rfl (zC rfl) <| .nil) fun a9 w9 m9 hst9 hle9 hk9 => ?_
      have hfr9 := hk9.fr (.o 3 <| .o 5 <| .n 7 <| .nil)
      clear hst8 hfr8 hk9
      have hst9 := hst9.take 1
      have zq5 := hle8.trans hle9
      have zq6 := hle7.trans zq5
      have zq7 := hle6.trans zq6
      have hlh9 := hlh5.trans zq7
      exact ⟨y + 1, m9, by show ef.ops.length - (y + 1) < ef.ops.length - y; omega, ⟨hst9, hlh9, hfr9.sub (.c <| .c <| .c <| .nil), by show y + 1 ≤ ef.ops.length; omega⟩⟩
    ·skip
     have zq8 := zq3.trans hle7
     replace hops := hops.mono zq8
     obtain ⟨p27, vs27, x27, ho27, hd27, hm_x27, ht27, hcv27, hl27, hv27⟩ := hops.nth (k := y) (by omega)
     cases ho27
     obtain ⟨as27, rs27, rfl, hoa27, hob27⟩ := id hv27
     obtain ⟨o27a, c27a, oL27a, cL27a, rfl, hkd27a, hs27a, hi27a, hj27a, hr27a⟩ := hoa27.open_
     have hbg27a := hkd27a.big; have hcp27a := hkd27a.cap; have hbs27a := hs27a.big; have hcs27a := hs27a.cap
     have hrw27a : RwR _ ⟨x27.arg.labels, x27.arg.rv⟩ _ := ⟨_, _, rfl, hs27a, hr27a⟩
     obtain ⟨o27r, c27r, oL27r, cL27r, rfl, hkd27r, hs27r, hi27r, hj27r, hr27r⟩ := hob27.open_
     have hbg27r := hkd27r.big; have hcp27r := hkd27r.cap; have hbs27r := hs27r.big; have hcs27r := hs27r.cap
     have hrw27r : RwR _ ⟨x27.res.labels, x27.res.rv⟩ _ := ⟨_, _, rfl, hs27r, hr27r⟩
     refine ZC (fun _ => mixed) hst7 hfr7 (by kernel_rfl) (by kernel_rfl) (.cons rfl (zA (off := 0) rfl underlying72 rfl rfl sizeOf9 rfl) <| .cons rfl (zM (j := 1) rfl rfl isAgg9 rfl) <| .cons rfl (zA (off := 1) rfl underlying115 rfl rfl sizeOf113 rfl) <| .cons rfl (zM (j := 0) rfl rfl isAgg113 rfl) <| .cons rfl (zD rfl) <| .cons rfl (zH (k := y) rfl rfl underlying113 sizeOf118 rfl (by omega)) <| .cons rfl (zA (off := 0) rfl underlying118 rfl rfl sizeOf9 rfl) <| .cons rfl (zE rfl hcv27 isAgg9 rfl) <| .cons rfl (Z7 rfl rfl) <| .cons rfl (zD rfl) <| .cons rfl (zA (off := 1) rfl underlying72 rfl rfl sizeOf27 rfl) <| .cons rfl (zM (j := 1) rfl rfl isAgg27 rfl) <| .cons rfl (zY rfl underlying27) <| .cons rfl (ZP rfl rfl) <| .cons rfl (zx rfl rfl rfl) <| .cons rfl (zD rfl) <| .cons rfl (zA (off := 1) rfl underlying72 rfl rfl sizeOf27 rfl) <| .cons rfl (zM (j := 1) rfl rfl isAgg27 rfl) <| .cons rfl (ZA (κ := .eq (.bool false)) (b := false) 73 rfl rfl (fun h => by first | (simp [hz] at h; done) | (simp [hz] at h; omega))) <| .cons rfl (ZA (κ := .eq (.bool false)) (b := false) 73 rfl rfl (fun h => by first | (simp [hz] at h; done) | (simp [hz] at h; omega))) <| .cons rfl (zA (off := 1) rfl underlying72 rfl rfl sizeOf27 rfl) <| .cons rfl (zM (j := 1) rfl rfl isAgg27 rfl) <| .cons rfl (ZA (κ := .eq (.bool false)) (b := false) 73 rfl rfl (fun h => by first | (simp [hz] at h; done) | (simp [hz] at h; omega))) <| .cons rfl (ZA (κ := .eq (.bool false)) (b := false) 73 rfl rfl (fun h => by first | (simp [hz] at h; done) | (simp [hz] at h; omega))) <| .cons rfl (ZA (κ := .eq (.bool false)) (b := false) 73 rfl rfl (fun h => by first | (simp [hz] at h; done) | (simp [hz] at h; omega))) <| .cons rfl (zx rfl rfl rfl) <| .nil) fun a8 w8 m8 hst8 hle8 hk8 => ?_
     have hfr8 := hk8.fr (.o 7 <| .o 3 <| .o 5 <| .n 83 <| .nil)
     clear hst7 hfr7 hk8
     refine hK21 _ _ ?_
     refine zG hfr8 rfl rfl (fun hb83 => ?_) (fun hb83 => ?_)
     ·try simp only [nqs] at hb83
      refine zB fun _ hK28 => ?_
      refine rp0 hst8 hfr8 (.cons rfl (zC rfl) <| .nil) fun a9 w9 m9 hst9 hle9 hk9 => ?_
      have hfr9 := hk9.fr (.o 7 <| .n 4 <| .nil)
      clear hst8 hfr8 hk9
      refine hK28 _ _ ?_
      refine zK ?_
      repeat (with_reducible first | refine zI ?_ | refine zF ?_)
      exact zL hst9 hfr9 rfl (.tmp rfl <| .nil) (⟨_, rfl, trivial⟩)
     ·try simp only [nqs] at hb83
      refine zJ ?_
      refine hK17 _ _ ?_
      refine rp0 hst8 hfr8 (.cons rfl (zD rfl) <| .cons rfl (zk rfl rfl ⟨by omega, by omega⟩) <| .cons rfl (zC rfl) <| .nil) fun a9 w9 m9 hst9 hle9 hk9 => ?_
      have hfr9 := hk9.fr (.o 3 <| .o 5 <| .n 7 <| .nil)
      clear hst8 hfr8 hk9
      have hst9 := hst9.take 1
      have zq9 := hle8.trans hle9
      have zq10 := hle7.trans zq9
      have zq11 := hle6.trans zq10
      have hlh9 := hlh5.trans zq11
      exact ⟨y + 1, m9, by show ef.ops.length - (y + 1) < ef.ops.length - y; omega, ⟨hst9, hlh9, hfr9.sub (.c <| .c <| .c <| .nil), by show y + 1 ≤ ef.ops.length; omega⟩⟩
   ·try simp only [nqs] at hb49
    have hge : y = ef.ops.length := by omega
    refine zg ?_
    refine hK12 _ _ ?_
    refine zB fun _ hK30 => ?_
    refine rp0 hst6 hfr6 (.cons rfl (zC rfl) <| .nil) fun a7 w7 m7 hst7 hle7 hk7 => ?_
    have hfr7 := hk7.fr (.o 7 <| .n 4 <| .nil)
    clear hst6 hfr6 hk7
    refine hK30 _ _ ?_
    refine zK ?_
    repeat (with_reducible first | refine zI ?_ | refine zF ?_)
    exact zL hst7 hfr7 rfl (.tmp rfl <| .nil) (⟨_, rfl, trivial⟩)
 ·skip
  obtain ⟨p32, vs32, x32, ho32, hd32, hm_x32, ht32, hcv32, hl32, hv32⟩ := haa_t.nth (k := 0) (by omega)
  cases ho32
  obtain ⟨oV32, cV32, bs32, rfl, hva32, hbd32⟩ := hv32.open_
  have hbv32 := hva32.big; have hcv32_ := hva32.cap
  obtain ⟨⟨oK32b, cK32b, oA32b, cA32b, oR32b, cR32b, t032b, t132b, t232b, t332b, t432b, t532b, u032b, u132b, u232b, u332b, u432b, u532b⟩, rfl, hon32b, hkk32b, haa32b, hrr32b⟩ := hbd32.open_
  dsimp only at hkk32b haa32b hrr32b
  have hbg32b := hkk32b.big; have hcp32b := hkk32b.cap; have hbh32b := haa32b.big; have hcq32b := haa32b.cap
  refine rp0 hst2 hfr2 (.cons rfl (zD rfl) <| .cons rfl (Zn rfl) <| .cons rfl (zD rfl) <| .cons rfl (zA (off := 6) rfl underlying33 rfl rfl sizeOf25 rfl) <| .cons rfl (zE rfl hc3 isAgg25 rfl) <| .cons rfl (zY rfl underlying25) <| .cons rfl (zA (off := 1) rfl underlying115 rfl rfl sizeOf113 rfl) <| .cons rfl (zM (j := 0) rfl rfl isAgg113 rfl) <| .cons rfl (zY rfl underlying113) <| .cons rfl (zk rfl rfl ⟨by omega, by omega⟩) <| .cons rfl (ZP rfl rfl) <| .cons rfl (zx rfl rfl rfl) <| .cons rfl (zD rfl) <| .cons rfl (zA (off := 6) rfl underlying33 rfl rfl sizeOf25 rfl) <| .cons rfl (zE rfl hc3 isAgg25 rfl) <| .cons rfl (zH (k := 0) rfl rfl underlying25 sizeOf72 rfl (by omega)) <| .cons rfl (zA (off := 0) rfl underlying72 rfl rfl sizeOf9 rfl) <| .cons rfl (zE rfl hcv32 isAgg9 rfl) <| .cons rfl (Z7 rfl rfl) <| .cons rfl (zx rfl rfl rfl) <| .cons rfl (zD rfl) <| .cons rfl (zA (off := 6) rfl underlying33 rfl rfl sizeOf25 rfl) <| .cons rfl (zE rfl hc3 isAgg25 rfl) <| .cons rfl (zH (k := 0) rfl rfl underlying25 sizeOf72 rfl (by omega)) <| .cons rfl (zA (off := 1) rfl underlying72 rfl rfl sizeOf27 rfl) <| .cons rfl (zE rfl hcv32 isAgg27 rfl) <| .cons rfl (zY rfl underlying27) <| .cons rfl (ZP rfl rfl) <| .cons rfl (zx rfl rfl rfl) <| .nil) fun a3 w3 m3 hst3 hle3 hk3 => ?_
  have hfr3 := hk3.fr (.o 3 <| .o 5 <| .n 44 <| .nil)
  clear hst2 hfr2 hk3
  refine hK9 _ _ ?_
  refine zG hfr3 rfl rfl (fun hb44 => ?_) (fun hb44 => ?_)
  ·try simp only [nqs] at hb44
   refine zB fun _ hK33 => ?_
   refine rp0 hst3 hfr3 (.cons rfl (zC rfl) <| .nil) fun a4 w4 m4 hst4 hle4 hk4 => ?_
   have hfr4 := hk4.fr (.n 4 <| .nil)
   clear hst3 hfr3 hk4
   refine hK33 _ _ ?_
   refine zK ?_
   repeat (with_reducible first | refine zI ?_ | refine zF ?_)
   exact zL hst4 hfr4 rfl (.tmp rfl <| .nil) (⟨_, rfl, trivial⟩)
  ·try simp only [nqs] at hb44
   have hal : t.arms.length = ef.ops.length + 1 := by omega
   refine zJ ?_
   refine hK8 _ _ ?_
   refine zB fun _ hK35 => ?_
   refine zB fun _ hK36 => ?_
   refine rp0 hst3 hfr3 (.cons rfl (zC rfl) <| .nil) fun a4 w4 m4 hst4 hle4 hk4 => ?_
   have hfr4 := hk4.fr (.o 3 <| .o 5 <| .n 7 <| .nil)
   clear hst3 hfr3 hk4
   refine hK36 _ _ ?_
   refine zN ?_
   refine ze (T := [(3, _), (5, _)]) (fun (y : Nat) => ([(7, .int .i64 (y : Int))] : List (Nat × Value))) (fun _ => _) (fun (y : Nat) m => (y ≤ ef.ops.length)) (fun y => ef.ops.length - y) (0) ⟨hst4, MLe.refl _, hfr4.sub (.c <| .c <| .c <| .nil), Nat.zero_le _⟩ fun y a5 w5 m5 hh5 => ?_
   have hst5 := hh5.st; have hle5 := hh5.le; have hfr5 := hh5.fr; have hrel := hh5.rel; clear hh5
   clear hst4 hfr4
   have hyn := hrel
   have hlh5 := hle5
   refine zB fun _ hK38 => ?_
   refine zB fun _ hK39 => ?_
   refine rp0 hst5 hfr5 (.cons rfl (zD rfl) <| .cons rfl (zA (off := 1) rfl underlying115 rfl rfl sizeOf113 rfl) <| .cons rfl (zM (j := 0) rfl rfl isAgg113 rfl) <| .cons rfl (zY rfl underlying113) <| .cons rfl (z7 rfl rfl) <| .nil) fun a6 w6 m6 hst6 hle6 hk6 => ?_
   have hfr6 := hk6.fr (.o 7 <| .o 3 <| .o 5 <| .n 49 <| .nil)
   clear hst5 hfr5 hk6
   refine hK39 _ _ ?_
   refine zG hfr6 rfl rfl (fun hb49 => ?_) (fun hb49 => ?_)
   ·try simp only [nqs] at hb49
    refine zJ ?_
    refine hK38 _ _ ?_
    refine zB fun _ hK40 => ?_
    refine zN ?_
    refine zB fun _ hK41 => ?_
    have zq12 := hle5.trans hle6
    have zq13 := hle4.trans zq12
    have zq14 := hle3.trans zq13
    replace haa_t := haa_t.mono zq14
    obtain ⟨p42, vs42, x42, ho42, hd42, hm_x42, ht42, hcv42, hl42, hv42⟩ := haa_t.nth (k := y + 1) (by omega)
    cases ho42
    obtain ⟨oV42, cV42, bs42, rfl, hva42, hbd42⟩ := hv42.open_
    have hbv42 := hva42.big; have hcv42_ := hva42.cap
    obtain ⟨⟨oK42b, cK42b, oA42b, cA42b, oR42b, cR42b, t042b, t142b, t242b, t342b, t442b, t542b, u042b, u142b, u242b, u342b, u442b, u542b⟩, rfl, hon42b, hkk42b, haa42b, hrr42b⟩ := hbd42.open_
    dsimp only at hkk42b haa42b hrr42b
    have hbg42b := hkk42b.big; have hcp42b := hkk42b.cap; have hbh42b := haa42b.big; have hcq42b := haa42b.cap
    replace hst6 := hst6.more (r := .free) trivial List.nodup_nil (by simp [Res.blocks])
    replace hc3 := hc3.mono zq14
    refine ra0 (tch := [(6, 1, (fun v => .blk v _)), (7, 1, (fun v => .blk v _))]) hst6 hfr6 (.cons rfl (zA (off := 6) rfl underlying33 rfl rfl sizeOf25 rfl) <| .cons rfl (zE rfl hc3 isAgg25 rfl) <| .cons rfl (zD rfl) <| .cons rfl (zk rfl rfl ⟨by omega, by omega⟩) <| .cons rfl (zH (k := y + 1) rfl rfl underlying25 sizeOf72 (by omega) (by omega)) <| .cons rfl (zO rfl hcv42 isAgg72 sizeOf72 rfl rfl) <| .consT rfl rfl (fun _ => rfl) rfl (zQ zeroValue72 rfl) <| .consT rfl rfl (fun _ => rfl) rfl (zU 8 rfl rfl rfl fun y8 => zb rfl rfl rfl rfl rfl sizeOf72 rfl rfl hv42.one) <| .nil) fun a7 w7 m7 hst7 hle7 hk7 => ?_
    have hfr7 := hk7.fr (.o 7 <| .o 3 <| .o 5 <| .nil)
    obtain ⟨g43, e43, _⟩ := hk7.ex 8 rfl
    replace hfr7 := hfr7.cons e43
    replace hst7 := hst7.fin (L' := [_, _]) (.cons e43 <| .cons e43 <| .nil)
    clear hst6 hfr6 hk7
    refine hK41 _ _ ?_
    refine zB fun _ hK44 => ?_
    by_cases hz : x42.vars.length = 2
    ·skip
     have zq15 := zq14.trans hle7
     replace hops := hops.mono zq15
     obtain ⟨p45, vs45, x45, ho45, hd45, hm_x45, ht45, hcv45, hl45, hv45⟩ := hops.nth (k := y) (by omega)
     cases ho45
     obtain ⟨as45, rs45, rfl, hoa45, hob45⟩ := id hv45
     obtain ⟨o45a, c45a, oL45a, cL45a, rfl, hkd45a, hs45a, hi45a, hj45a, hr45a⟩ := hoa45.open_
     have hbg45a := hkd45a.big; have hcp45a := hkd45a.cap; have hbs45a := hs45a.big; have hcs45a := hs45a.cap
     have hrw45a : RwR _ ⟨x45.arg.labels, x45.arg.rv⟩ _ := ⟨_, _, rfl, hs45a, hr45a⟩
     obtain ⟨o45r, c45r, oL45r, cL45r, rfl, hkd45r, hs45r, hi45r, hj45r, hr45r⟩ := hob45.open_
     have hbg45r := hkd45r.big; have hcp45r := hkd45r.cap; have hbs45r := hs45r.big; have hcs45r := hs45r.cap
     have hrw45r : RwR _ ⟨x45.res.labels, x45.res.rv⟩ _ := ⟨_, _, rfl, hs45r, hr45r⟩
     replace hva42 := hva42.mono hle7
     obtain ⟨p46, vs46, x46, ho46, hd46, hm_x46, ht46, hcv46, hl46, hv46⟩ := hva42.nth (k := 0) (by omega)
     cases ho46
     subst hv46
     obtain ⟨p47, vs47, x47, ho47, hd47, hm_x47, ht47, hcv47, hl47, hv47⟩ := hva42.nth (k := 1) (by omega)
     cases ho47
     subst hv47
     refine ZC (fun _ => mixed) hst7 hfr7 (by kernel_rfl) (by kernel_rfl) (.cons rfl (zA (off := 0) rfl underlying72 rfl rfl sizeOf9 rfl) <| .cons rfl (zM (j := 1) rfl rfl isAgg9 rfl) <| .cons rfl (zA (off := 1) rfl underlying115 rfl rfl sizeOf113 rfl) <| .cons rfl (zM (j := 0) rfl rfl isAgg113 rfl) <| .cons rfl (zD rfl) <| .cons rfl (zH (k := y) rfl rfl underlying113 sizeOf118 rfl (by omega)) <| .cons rfl (zA (off := 0) rfl underlying118 rfl rfl sizeOf9 rfl) <| .cons rfl (zE rfl hcv45 isAgg9 rfl) <| .cons rfl (Z7 rfl rfl) <| .cons rfl (zD rfl) <| .cons rfl (zA (off := 1) rfl underlying72 rfl rfl sizeOf27 rfl) <| .cons rfl (zM (j := 1) rfl rfl isAgg27 rfl) <| .cons rfl (zY rfl underlying27) <| .cons rfl (ZP rfl rfl) <| .cons rfl (zx rfl rfl rfl) <| .cons rfl (zD rfl) <| .cons rfl (zA (off := 1) rfl underlying72 rfl rfl sizeOf27 rfl) <| .cons rfl (zM (j := 1) rfl rfl isAgg27 rfl) <| .cons rfl (zH (k := 0) rfl rfl underlying27 sizeOf9 rfl (by omega)) <| .cons rfl (ZN rfl hcv46 isAgg9 rfl) <| .cons rfl (zA (off := 1) rfl underlying72 rfl rfl sizeOf27 rfl) <| .cons rfl (zM (j := 1) rfl rfl isAgg27 rfl) <| .cons rfl (zH (k := 1) rfl rfl underlying27 sizeOf9 rfl (by omega)) <| .cons rfl (ZN rfl hcv47 isAgg9 rfl) <| .cons rfl (z6 rfl rfl) <| .cons rfl (zx rfl rfl rfl) <| .nil) fun a8 w8 m8 hst8 hle8 hk8 => ?_
     have hfr8 := hk8.fr (.o 7 <| .o 3 <| .o 5 <| .n 83 <| .nil)
     clear hst7 hfr7 hk8
     refine hK44 _ _ ?_
     refine zG hfr8 rfl rfl (fun hb83 => ?_) (fun hb83 => ?_)
     ·try simp only [nqs] at hb83
      refine zB fun _ hK48 => ?_
      refine rp0 hst8 hfr8 (.cons rfl (zC rfl) <| .nil) fun a9 w9 m9 hst9 hle9 hk9 => ?_
      have hfr9 := hk9.fr (.o 7 <| .n 4 <| .nil)
      clear hst8 hfr8 hk9
      refine hK48 _ _ ?_
      refine zK ?_
      repeat (with_reducible first | refine zI ?_ | refine zF ?_)
      exact zL hst9 hfr9 rfl (.tmp rfl <| .nil) (⟨_, rfl, trivial⟩)
     ·try simp only [nqs] at hb83
      refine zJ ?_
      refine hK40 _ _ ?_
      refine rp0 hst8 hfr8 (.cons rfl (zD rfl) <| .cons rfl (zk rfl rfl ⟨by omega, by omega⟩) <| .cons rfl (zC rfl) <| .nil) fun a9 w9 m9 hst9 hle9 hk9 => ?_
      have hfr9 := hk9.fr (.o 3 <| .o 5 <| .n 7 <| .nil)
      clear hst8 hfr8 hk9
      have hst9 := hst9.take 1
      have zq16 := hle8.trans hle9
      have zq17 := hle7.trans zq16
      have zq18 := hle6.trans zq17
      have hlh9 := hlh5.trans zq18
      exact ⟨y + 1, m9, by show ef.ops.length - (y + 1) < ef.ops.length - y; omega, ⟨hst9, hlh9, hfr9.sub (.c <| .c <| .c <| .nil), by show y + 1 ≤ ef.ops.length; omega⟩⟩
    ·skip
     have zq19 := zq14.trans hle7
     replace hops := hops.mono zq19
     obtain ⟨p50, vs50, x50, ho50, hd50, hm_x50, ht50, hcv50, hl50, hv50⟩ := hops.nth (k := y) (by omega)
     cases ho50
     obtain ⟨as50, rs50, rfl, hoa50, hob50⟩ := id hv50
     obtain ⟨o50a, c50a, oL50a, cL50a, rfl, hkd50a, hs50a, hi50a, hj50a, hr50a⟩ := hoa50.open_
     have hbg50a := hkd50a.big; have hcp50a := hkd50a.cap; have hbs50a := hs50a.big; have hcs50a := hs50a.cap
     have hrw50a : RwR _ ⟨x50.arg.labels, x50.arg.rv⟩ _ := ⟨_, _, rfl, hs50a, hr50a⟩
     obtain ⟨o50r, c50r, oL50r, cL50r, rfl, hkd50r, hs50r, hi50r, hj50r, hr50r⟩ := hob50.open_
     have hbg50r := hkd50r.big; have hcp50r := hkd50r.cap; have hbs50r := hs50r.big; have hcs50r := hs50r.cap
     have hrw50r : RwR _ ⟨x50.res.labels, x50.res.rv⟩ _ := ⟨_, _, rfl, hs50r, hr50r⟩
     refine ZC (fun _ => mixed) hst7 hfr7 (by kernel_rfl) (by kernel_rfl) (.cons rfl (zA (off := 0) rfl underlying72 rfl rfl sizeOf9 rfl) <| .cons rfl (zM (j := 1) rfl rfl isAgg9 rfl) <| .cons rfl (zA (off := 1) rfl underlying115 rfl rfl sizeOf113 rfl) <| .cons rfl (zM (j := 0) rfl rfl isAgg113 rfl) <| .cons rfl (zD rfl) <| .cons rfl (zH (k := y) rfl rfl underlying113 sizeOf118 rfl (by omega)) <| .cons rfl (zA (off := 0) rfl underlying118 rfl rfl sizeOf9 rfl) <| .cons rfl (zE rfl hcv50 isAgg9 rfl) <| .cons rfl (Z7 rfl rfl) <| .cons rfl (zD rfl) <| .cons rfl (zA (off := 1) rfl underlying72 rfl rfl sizeOf27 rfl) <| .cons rfl (zM (j := 1) rfl rfl isAgg27 rfl) <| .cons rfl (zY rfl underlying27) <| .cons rfl (ZP rfl rfl) <| .cons rfl (zx rfl rfl rfl) <| .cons rfl (zD rfl) <| .cons rfl (zA (off := 1) rfl underlying72 rfl rfl sizeOf27 rfl) <| .cons rfl (zM (j := 1) rfl rfl isAgg27 rfl) <| .cons rfl (ZA (κ := .eq (.bool false)) (b := false) 73 rfl rfl (fun h => by first | (simp [hz] at h; done) | (simp [hz] at h; omega))) <| .cons rfl (ZA (κ := .eq (.bool false)) (b := false) 73 rfl rfl (fun h => by first | (simp [hz] at h; done) | (simp [hz] at h; omega))) <| .cons rfl (zA (off := 1) rfl underlying72 rfl rfl sizeOf27 rfl) <| .cons rfl (zM (j := 1) rfl rfl isAgg27 rfl) <| .cons rfl (ZA (κ := .eq (.bool false)) (b := false) 73 rfl rfl (fun h => by first | (simp [hz] at h; done) | (simp [hz] at h; omega))) <| .cons rfl (ZA (κ := .eq (.bool false)) (b := false) 73 rfl rfl (fun h => by first | (simp [hz] at h; done) | (simp [hz] at h; omega))) <| .cons rfl (ZA (κ := .eq (.bool false)) (b := false) 73 rfl rfl (fun h => by first | (simp [hz] at h; done) | (simp [hz] at h; omega))) <| .cons rfl (zx rfl rfl rfl) <| .nil) fun a8 w8 m8 hst8 hle8 hk8 => ?_
     have hfr8 := hk8.fr (.o 7 <| .o 3 <| .o 5 <| .n 83 <| .nil)
     clear hst7 hfr7 hk8
     refine hK44 _ _ ?_
     refine zG hfr8 rfl rfl (fun hb83 => ?_) (fun hb83 => ?_)
     ·try simp only [nqs] at hb83
      refine zB fun _ hK51 => ?_
      refine rp0 hst8 hfr8 (.cons rfl (zC rfl) <| .nil) fun a9 w9 m9 hst9 hle9 hk9 => ?_
      have hfr9 := hk9.fr (.o 7 <| .n 4 <| .nil)
      clear hst8 hfr8 hk9
      refine hK51 _ _ ?_
      refine zK ?_
      repeat (with_reducible first | refine zI ?_ | refine zF ?_)
      exact zL hst9 hfr9 rfl (.tmp rfl <| .nil) (⟨_, rfl, trivial⟩)
     ·try simp only [nqs] at hb83
      refine zJ ?_
      refine hK40 _ _ ?_
      refine rp0 hst8 hfr8 (.cons rfl (zD rfl) <| .cons rfl (zk rfl rfl ⟨by omega, by omega⟩) <| .cons rfl (zC rfl) <| .nil) fun a9 w9 m9 hst9 hle9 hk9 => ?_
      have hfr9 := hk9.fr (.o 3 <| .o 5 <| .n 7 <| .nil)
      clear hst8 hfr8 hk9
      have hst9 := hst9.take 1
      have zq20 := hle8.trans hle9
      have zq21 := hle7.trans zq20
      have zq22 := hle6.trans zq21
      have hlh9 := hlh5.trans zq22
      exact ⟨y + 1, m9, by show ef.ops.length - (y + 1) < ef.ops.length - y; omega, ⟨hst9, hlh9, hfr9.sub (.c <| .c <| .c <| .nil), by show y + 1 ≤ ef.ops.length; omega⟩⟩
   ·try simp only [nqs] at hb49
    have hge : y = ef.ops.length := by omega
    refine zg ?_
    refine hK35 _ _ ?_
    refine zB fun _ hK53 => ?_
    refine rp0 hst6 hfr6 (.cons rfl (zC rfl) <| .nil) fun a7 w7 m7 hst7 hle7 hk7 => ?_
    have hfr7 := hk7.fr (.o 7 <| .n 4 <| .nil)
    clear hst6 hfr6 hk7
    refine hK53 _ _ ?_
    refine zK ?_
    repeat (with_reducible first | refine zI ?_ | refine zF ?_)
    exact zL hst7 hfr7 rfl (.tmp rfl <| .nil) (⟨_, rfl, trivial⟩)
set_option maxHeartbeats 800000 in
theorem matches_c {w : World} {m : Mem} {p : Pg} {vs_p : List Value} {t : Tm} {vs_t : List Value} (hA : Agree w m) (h_p : PgR m p vs_p) (h_t : TmR m t vs_t) : FnV Tryd.prog 75 #[.agg vs_p.toArray, .agg vs_t.toArray] w m (fun _ m v => MP.anyB.p m v) := by
 obtain ⟨oE_p, cE_p, oD_p, cD_p, bs_p, rfl, hef_p, hda_p, hpb_p⟩ := id h_p
 have hbe_p := hef_p.big; have hce_p := hef_p.cap; have hbda_p := hda_p.big; have hcd_p := hda_p.cap
 obtain ⟨⟨oK_pb, cK_pb, oA_pb, cA_pb, oR_pb, cR_pb, t0_pb, t1_pb, t2_pb, t3_pb, t4_pb, t5_pb, u0_pb, u1_pb, u2_pb, u3_pb, u4_pb, u5_pb⟩, rfl, hon_pb, hkk_pb, haa_pb, hrr_pb⟩ := hpb_p.open_
 dsimp only at hkk_pb haa_pb hrr_pb
 have hbg_pb := hkk_pb.big; have hcp_pb := hkk_pb.cap; have hbh_pb := haa_pb.big; have hcq_pb := haa_pb.cap
 obtain ⟨⟨oK_t, cK_t, oA_t, cA_t, oR_t, cR_t, t0_t, t1_t, t2_t, t3_t, t4_t, t5_t, u0_t, u1_t, u2_t, u3_t, u4_t, u5_t⟩, rfl, hon_t, hkk_t, haa_t, hrr_t⟩ := h_t.open_
 dsimp only at hkk_t haa_t hrr_t
 have hbg_t := hkk_t.big; have hcp_t := hkk_t.cap; have hbh_t := haa_t.big; have hcq_t := haa_t.cap
 refine zX (vs := [_, _]) func75 rfl rfl rfl fun a0 hfr0 => ?_
 have hst0 := zW hA (zf [] _ w m)
 have hM : MLe m m := MLe.refl m
 refine zB fun _ hK1 => ?_
 refine rp0 hst0 hfr0 (.cons rfl (zv rfl rfl) <| .cons rfl (zv rfl rfl) <| .cons rfl (zC rfl) <| .nil) fun a1 w1 m1 hst1 hle1 hk1 => ?_
 have hfr1 := hk1.fr (.nil)
 obtain ⟨g2, e2, hc2⟩ := hk1.ex 2 rfl
 replace hfr1 := hfr1.cons e2
 obtain ⟨g3, e3, hc3⟩ := hk1.ex 3 rfl
 replace hfr1 := hfr1.cons e3
 replace h_p := h_p.mono hle1
 replace hef_p := hef_p.mono hle1
 replace hda_p := hda_p.mono hle1
 replace hpb_p := hpb_p.mono hle1
 replace hkk_pb := hkk_pb.mono hle1
 replace haa_pb := haa_pb.mono hle1
 replace hrr_pb := hrr_pb.mono hle1
 replace h_t := h_t.mono hle1
 replace hkk_t := hkk_t.mono hle1
 replace haa_t := haa_t.mono hle1
 replace hrr_t := hrr_t.mono hle1
 clear hst0 hfr0 hk1
 refine hK1 _ _ ?_
 refine zB fun _ hK4 => ?_
 refine zB fun _ hK5 => ?_
 refine rp0 hst1 hfr1 (.cons rfl (zA (off := 6) rfl underlying33 rfl rfl sizeOf25 rfl) <| .cons rfl (zE rfl hc3 isAgg25 rfl) <| .cons rfl (zY rfl underlying25) <| .cons rfl (zV rfl rfl) <| .nil) fun a2 w2 m2 hst2 hle2 hk2 => ?_
 have hfr2 := hk2.fr (.o 2 <| .o 3 <| .n 12 <| .nil)
 replace h_p := h_p.mono hle2
 replace hef_p := hef_p.mono hle2
 replace hda_p := hda_p.mono hle2
 replace hpb_p := hpb_p.mono hle2
 replace hkk_pb := hkk_pb.mono hle2
 replace haa_pb := haa_pb.mono hle2
 replace hrr_pb := hrr_pb.mono hle2
 replace h_t := h_t.mono hle2
 replace hkk_t := hkk_t.mono hle2
 replace haa_t := haa_t.mono hle2
 replace hrr_t := hrr_t.mono hle2
 replace hc2 := hc2.mono hle2
 replace hc3 := hc3.mono hle2
 clear hst1 hfr1 hk2
 refine hK5 _ _ ?_
 refine zG hfr2 rfl rfl (fun hb12 => ?_) (fun hb12 => ?_)
 ·try simp only [nqs] at hb12
  refine zB fun _ hK6 => ?_
  refine rp0 hst2 hfr2 (.cons rfl (zC rfl) <| .nil) fun a3 w3 m3 hst3 hle3 hk3 => ?_
  have hfr3 := hk3.fr (.n 4 <| .nil)
  clear hst2 hfr2 hk3
  refine hK6 _ _ ?_
  refine zK ?_
  repeat (with_reducible first | refine zI ?_ | refine zF ?_)
  exact zL hst3 hfr3 rfl (.tmp rfl <| .nil) (⟨_, rfl, trivial⟩)
 ·try simp only [nqs] at hb12
  refine zJ ?_
  refine hK4 _ _ ?_
  refine zB fun _ hK8 => ?_
  obtain ⟨p9, vs9, x9, ho9, hd9, hm_x9, ht9, hcv9, hl9, hv9⟩ := haa_t.nth (k := 0) (by omega)
  cases ho9
  obtain ⟨oV9, cV9, bs9, rfl, hva9, hbd9⟩ := hv9.open_
  have hbv9 := hva9.big; have hcv9_ := hva9.cap
  obtain ⟨⟨oK9b, cK9b, oA9b, cA9b, oR9b, cR9b, t09b, t19b, t29b, t39b, t49b, t59b, u09b, u19b, u29b, u39b, u49b, u59b⟩, rfl, hon9b, hkk9b, haa9b, hrr9b⟩ := hbd9.open_
  dsimp only at hkk9b haa9b hrr9b
  have hbg9b := hkk9b.big; have hcp9b := hkk9b.cap; have hbh9b := haa9b.big; have hcq9b := haa9b.cap
  replace hst2 := hst2.more (r := .free) trivial List.nodup_nil (by simp [Res.blocks])
  replace hst2 := hst2.more (r := .free) trivial List.nodup_nil (by simp [Res.blocks])
  refine zz (tch := [(11, 0, (fun v => .blk v _)), (12, 1, (fun v => .blk v _)), (13, 0, (fun v => .blkx v _ _)), (14, 1, (fun v => .blkx v _ _))]) (fun _ => mixed) hst2 hfr2 (by kernel_rfl) (by kernel_rfl) (by kernel_rfl) (.cons rfl (zO rfl hc2 isAgg35 sizeOf35 rfl rfl) <| .cons rfl (zA (off := 6) rfl underlying33 rfl rfl sizeOf25 rfl) <| .cons rfl (zE rfl hc3 isAgg25 rfl) <| .cons rfl (zH (k := 0) rfl rfl underlying25 sizeOf72 rfl (by omega)) <| .cons rfl (zA (off := 0) rfl underlying72 rfl rfl sizeOf9 rfl) <| .cons rfl (zE rfl hcv9 isAgg9 rfl) <| .cons rfl (zi (φ := MP.daB) rfl (.cons rfl <| .cons rfl <| .nil) call77 (fun w m hK => by have hle_ := KC.le hK; have hA := KC.agree hK; have h_p := h_p.mono hle_; exact FnG.mono (con_c hA h_p) fun _ _ _ _ h => h)) <| .cons rfl (zh 20 rfl rfl rfl fun y20 => zD rfl) <| .cons rfl (zh 13 rfl rfl rfl fun y13 => zS rfl rfl) <| .cons rfl (zh 13 rfl rfl rfl fun y13 => zS rfl rfl) <| .cons rfl (zh 13 rfl rfl rfl fun y13 => zS rfl rfl) <| .consT rfl rfl (fun _ => rfl) rfl (zQ zeroValue122 rfl) <| .consT rfl rfl (fun _ => rfl) rfl (zQ zeroValue124 rfl) <| .consT rfl rfl (fun _ => rfl) rfl (zU 5 rfl rfl rfl fun y5 => ZJ 21 rfl rfl rfl fun y21 => zb rfl rfl rfl rfl rfl sizeOf122 rfl rfl rfl) <| .consT rfl rfl (fun _ => rfl) rfl (zU 6 rfl rfl rfl fun y6 => ZJ 22 rfl rfl rfl fun y22 => zb rfl rfl rfl rfl rfl sizeOf124 rfl rfl rfl) <| .consA 23 rfl rfl <| .nil) fun a3 w3 m3 hst3 hle3 hk3 => ?_
  have hfr3 := hk3.fr (.o 3 <| .nil)
  obtain ⟨⟨yq, yr, b0⟩, e10, _⟩ := hk3.ex 23 rfl
  obtain ⟨g11, e11, _⟩ := hk3.ex 5 rfl
  replace hfr3 := hfr3.cons e11
  obtain ⟨g12, e12, _⟩ := hk3.ex 6 rfl
  replace hfr3 := hfr3.cons (hk3.same 7 rfl e10)
  replace hst3 := hst3.fin (L' := [_, _]) (.cons e11 <| .cons e12 <| .cons e11 <| .cons e12 <| .nil)
  obtain ⟨⟨⟨da, oa9, ca9⟩, cs9, bb9⟩, ⟨hda9, hcs9⟩, hst3⟩ := hst3.unx (k := 0) rfl (fun _ => rfl)
  obtain ⟨⟨ya9, cs8, bc9⟩, ⟨hda8, hcs8⟩, hst3⟩ := hst3.unx (k := 1) rfl (fun _ => rfl)
  clear hst2 hfr2 hk3
  dsimp only at hst3
  have hcons : Css m3 oa9 da.cons.length ca9 da.cons := by obtain ⟨_, _, e, h⟩ := hda9; simp only [List.cons.injEq, Value.slice.injEq, and_true, true_and] at e; obtain ⟨rfl, rfl⟩ := e; exact h
  have hbo := hcons.big
  refine hK8 _ _ ?_
  refine zB fun _ hK15 => ?_
  refine zB fun _ hK16 => ?_
  replace hc3 := hc3.mono hle3
  refine rp0 hst3 hfr3 (.cons rfl (zD rfl) <| .cons rfl (Zn rfl) <| .cons rfl (zD rfl) <| .cons rfl (zA (off := 1) rfl underlying122 rfl rfl sizeOf120 rfl) <| .cons rfl (zM (j := 0) rfl rfl isAgg120 rfl) <| .cons rfl (zY rfl underlying120) <| .cons rfl (zA (off := 6) rfl underlying33 rfl rfl sizeOf25 rfl) <| .cons rfl (zE rfl hc3 isAgg25 rfl) <| .cons rfl (zY rfl underlying25) <| .cons rfl (ZP rfl rfl) <| .cons rfl (zx rfl rfl rfl) <| .nil) fun a4 w4 m4 hst4 hle4 hk4 => ?_
  have hfr4 := hk4.fr (.o 3 <| .o 5 <| .n 34 <| .nil)
  clear hst3 hfr3 hk4
  refine hK16 _ _ ?_
  refine zG hfr4 rfl rfl (fun hb34 => ?_) (fun hb34 => ?_)
  ·try simp only [nqs] at hb34
   refine zB fun _ hK17 => ?_
   refine rp0 hst4 hfr4 (.cons rfl (zC rfl) <| .nil) fun a5 w5 m5 hst5 hle5 hk5 => ?_
   have hfr5 := hk5.fr (.n 4 <| .nil)
   clear hst4 hfr4 hk5
   refine hK17 _ _ ?_
   refine zK ?_
   repeat (with_reducible first | refine zI ?_ | refine zF ?_)
   exact zL hst5 hfr5 rfl (.tmp rfl <| .nil) (⟨_, rfl, trivial⟩)
  ·try simp only [nqs] at hb34
   have hal : t.arms.length = da.cons.length := by omega
   refine zJ ?_
   refine hK15 _ _ ?_
   refine zB fun _ hK19 => ?_
   refine zB fun _ hK20 => ?_
   refine rp0 hst4 hfr4 (.cons rfl (zC rfl) <| .nil) fun a5 w5 m5 hst5 hle5 hk5 => ?_
   have hfr5 := hk5.fr (.o 3 <| .o 5 <| .n 8 <| .nil)
   clear hst4 hfr4 hk5
   refine hK20 _ _ ?_
   refine zN ?_
   refine ze (T := [(3, _), (5, _)]) (fun (y : Nat) => ([(8, .int .i64 (y : Int))] : List (Nat × Value))) (fun _ => _) (fun (y : Nat) m => (y ≤ da.cons.length)) (fun y => da.cons.length - y) (0) ⟨hst5, MLe.refl _, hfr5.sub (.c <| .c <| .c <| .nil), Nat.zero_le _⟩ fun y a6 w6 m6 hh6 => ?_
   have hst6 := hh6.st; have hle6 := hh6.le; have hfr6 := hh6.fr; have hrel := hh6.rel; clear hh6
   clear hst5 hfr5
   have hyn := hrel
   have hlh6 := hle6
   refine zB fun _ hK22 => ?_
   refine zB fun _ hK23 => ?_
   refine rp0 hst6 hfr6 (.cons rfl (zD rfl) <| .cons rfl (zA (off := 1) rfl underlying122 rfl rfl sizeOf120 rfl) <| .cons rfl (zM (j := 0) rfl rfl isAgg120 rfl) <| .cons rfl (zY rfl underlying120) <| .cons rfl (z7 rfl rfl) <| .nil) fun a7 w7 m7 hst7 hle7 hk7 => ?_
   have hfr7 := hk7.fr (.o 8 <| .o 3 <| .o 5 <| .n 39 <| .nil)
   clear hst6 hfr6 hk7
   refine hK23 _ _ ?_
   refine zG hfr7 rfl rfl (fun hb39 => ?_) (fun hb39 => ?_)
   ·try simp only [nqs] at hb39
    refine zJ ?_
    refine hK22 _ _ ?_
    refine zB fun _ hK24 => ?_
    refine zN ?_
    refine zB fun _ hK25 => ?_
    have zq1 := hle6.trans hle7
    have zq2 := hle5.trans zq1
    have zq3 := hle4.trans zq2
    have zq4 := hle3.trans zq3
    replace haa_t := haa_t.mono zq4
    obtain ⟨p26, vs26, x26, ho26, hd26, hm_x26, ht26, hcv26, hl26, hv26⟩ := haa_t.nth (k := y) (by omega)
    cases ho26
    obtain ⟨oV26, cV26, bs26, rfl, hva26, hbd26⟩ := hv26.open_
    have hbv26 := hva26.big; have hcv26_ := hva26.cap
    obtain ⟨⟨oK26b, cK26b, oA26b, cA26b, oR26b, cR26b, t026b, t126b, t226b, t326b, t426b, t526b, u026b, u126b, u226b, u326b, u426b, u526b⟩, rfl, hon26b, hkk26b, haa26b, hrr26b⟩ := hbd26.open_
    dsimp only at hkk26b haa26b hrr26b
    have hbg26b := hkk26b.big; have hcp26b := hkk26b.cap; have hbh26b := haa26b.big; have hcq26b := haa26b.cap
    replace hcons := hcons.mono zq3
    obtain ⟨p27, vs27, x27, ho27, hd27, hm_x27, ht27, hcv27, hl27, hv27⟩ := hcons.nth (k := y) (by omega)
    cases ho27
    obtain ⟨oF27, cF27, rfl, hfl27⟩ := id hv27
    have hbf27 := hfl27.big; have hcf27 := hfl27.cap
    replace h_p := h_p.mono zq4
    replace hef_p := hef_p.mono zq4
    replace hda_p := hda_p.mono zq4
    replace hpb_p := hpb_p.mono zq4
    replace hkk_pb := hkk_pb.mono zq4
    replace haa_pb := haa_pb.mono zq4
    replace hrr_pb := hrr_pb.mono zq4
    replace h_t := h_t.mono zq4
    replace hkk_t := hkk_t.mono zq4
    replace hrr_t := hrr_t.mono zq4
    replace hc2 := hc2.mono zq4
    replace hcv9 := hcv9.mono zq4
    replace hv9 := hv9.mono zq4
    replace hva9 := hva9.mono zq4
    replace hbd9 := hbd9.mono zq4
    replace hkk9b := hkk9b.mono zq4
    replace haa9b := haa9b.mono zq4
    replace hrr9b := hrr9b.mono zq4
    replace hc3 := hc3.mono zq3
    replace hda9 := hda9.mono zq3
    refine ZC (fun _ => mixed) hst7 hfr7 (by kernel_rfl) (by kernel_rfl) (.cons rfl (zA (off := 6) rfl underlying33 rfl rfl sizeOf25 rfl) <| .cons rfl (zE rfl hc3 isAgg25 rfl) <| .cons rfl (zD rfl) <| .cons rfl (zH (k := y) rfl rfl underlying25 sizeOf72 rfl (by omega)) <| .cons rfl (zA (off := 0) rfl underlying72 rfl rfl sizeOf9 rfl) <| .cons rfl (zE rfl hcv26 isAgg9 rfl) <| .cons rfl (zA (off := 1) rfl underlying122 rfl rfl sizeOf120 rfl) <| .cons rfl (zM (j := 0) rfl rfl isAgg120 rfl) <| .cons rfl (zD rfl) <| .cons rfl (zH (k := y) rfl rfl underlying120 sizeOf124 rfl (by omega)) <| .cons rfl (zA (off := 0) rfl underlying124 rfl rfl sizeOf9 rfl) <| .cons rfl (zE rfl hcv27 isAgg9 rfl) <| .cons rfl (Z7 rfl rfl) <| .cons rfl (zD rfl) <| .cons rfl (zA (off := 6) rfl underlying33 rfl rfl sizeOf25 rfl) <| .cons rfl (zE rfl hc3 isAgg25 rfl) <| .cons rfl (zD rfl) <| .cons rfl (zH (k := y) rfl rfl underlying25 sizeOf72 rfl (by omega)) <| .cons rfl (zA (off := 1) rfl underlying72 rfl rfl sizeOf27 rfl) <| .cons rfl (zE rfl hcv26 isAgg27 rfl) <| .cons rfl (zY rfl underlying27) <| .cons rfl (zA (off := 1) rfl underlying122 rfl rfl sizeOf120 rfl) <| .cons rfl (zM (j := 0) rfl rfl isAgg120 rfl) <| .cons rfl (zD rfl) <| .cons rfl (zH (k := y) rfl rfl underlying120 sizeOf124 rfl (by omega)) <| .cons rfl (zA (off := 1) rfl underlying124 rfl rfl sizeOf26 rfl) <| .cons rfl (zE rfl hcv27 isAgg26 rfl) <| .cons rfl (zY rfl underlying26) <| .cons rfl (ZP rfl rfl) <| .cons rfl (zx rfl rfl rfl) <| .cons rfl (zD rfl) <| .cons rfl (zA (off := 6) rfl underlying33 rfl rfl sizeOf25 rfl) <| .cons rfl (zE rfl hc3 isAgg25 rfl) <| .cons rfl (zD rfl) <| .cons rfl (zH (k := y) rfl rfl underlying25 sizeOf72 rfl (by omega)) <| .cons rfl (zA (off := 1) rfl underlying72 rfl rfl sizeOf27 rfl) <| .cons rfl (zE rfl hcv26 isAgg27 rfl) <| .cons rfl (zi (φ := MP.anyB) rfl (.cons rfl <| .nil) call86 (fun w m hK => by have hle_ := KC.le hK; have hA := KC.agree hK; have h_p := h_p.mono hle_; have hef_p := hef_p.mono hle_; have hda_p := hda_p.mono hle_; have hpb_p := hpb_p.mono hle_; have hkk_pb := hkk_pb.mono hle_; have haa_pb := haa_pb.mono hle_; have hrr_pb := hrr_pb.mono hle_; have h_t := h_t.mono hle_; have hkk_t := hkk_t.mono hle_; have haa_t := haa_t.mono hle_; have hrr_t := hrr_t.mono hle_; have hc2 := hc2.mono hle_; have hc3 := hc3.mono hle_; have hcv9 := hcv9.mono hle_; have hv9 := hv9.mono hle_; have hva9 := hva9.mono hle_; have hbd9 := hbd9.mono hle_; have hkk9b := hkk9b.mono hle_; have haa9b := haa9b.mono hle_; have hrr9b := hrr9b.mono hle_; have hda9 := hda9.mono hle_; have hcons := hcons.mono hle_; have hcv26 := hcv26.mono hle_; have hv26 := hv26.mono hle_; have hva26 := hva26.mono hle_; have hbd26 := hbd26.mono hle_; have hkk26b := hkk26b.mono hle_; have haa26b := haa26b.mono hle_; have hrr26b := hrr26b.mono hle_; have hcv27 := hcv27.mono hle_; have hv27 := hv27.mono hle_; have hfl27 := hfl27.mono hle_; exact FnG.mono (twice_c hA (by assumption)) fun _ _ _ _ h => h)) <| .cons rfl (ob_orX (fun y => ⟨_, rfl⟩) rfl rfl rfl) <| .nil) fun a8 w8 m8 hst8 hle8 hk8 => ?_
    have hfr8 := hk8.fr (.o 8 <| .o 3 <| .o 5 <| .nil)
    obtain ⟨y28, e28, hy28⟩ := hk8.ex 80 rfl
    replace hfr8 := hfr8.cons e28
    clear hst7 hfr7 hk8
    refine hK25 _ _ ?_
    refine zG hfr8 rfl rfl (fun hb80 => ?_) (fun hb80 => ?_)
    ·try simp only [nqs] at hb80
     refine zB fun _ hK29 => ?_
     refine rp0 hst8 hfr8 (.cons rfl (zC rfl) <| .nil) fun a9 w9 m9 hst9 hle9 hk9 => ?_
     have hfr9 := hk9.fr (.o 8 <| .n 4 <| .nil)
     clear hst8 hfr8 hk9
     refine hK29 _ _ ?_
     refine zK ?_
     repeat (with_reducible first | refine zI ?_ | refine zF ?_)
     exact zL hst9 hfr9 rfl (.tmp rfl <| .nil) (⟨_, rfl, trivial⟩)
    ·try simp only [nqs] at hb80
     refine zJ ?_
     refine hK24 _ _ ?_
     refine rp0 hst8 hfr8 (.cons rfl (zD rfl) <| .cons rfl (zk rfl rfl ⟨by omega, by omega⟩) <| .cons rfl (zC rfl) <| .nil) fun a9 w9 m9 hst9 hle9 hk9 => ?_
     have hfr9 := hk9.fr (.o 3 <| .o 5 <| .n 8 <| .nil)
     clear hst8 hfr8 hk9
     have zq5 := hle8.trans hle9
     have zq6 := hle7.trans zq5
     have hlh9 := hlh6.trans zq6
     exact ⟨y + 1, m9, by show da.cons.length - (y + 1) < da.cons.length - y; omega, ⟨hst9, hlh9, hfr9.sub (.c <| .c <| .c <| .nil), by show y + 1 ≤ da.cons.length; omega⟩⟩
   ·try simp only [nqs] at hb39
    have hge : y = da.cons.length := by omega
    refine zg ?_
    refine hK19 _ _ ?_
    refine zB fun _ hK31 => ?_
    refine rp0 hst7 hfr7 (.cons rfl (zC rfl) <| .nil) fun a8 w8 m8 hst8 hle8 hk8 => ?_
    have hfr8 := hk8.fr (.o 8 <| .n 4 <| .nil)
    clear hst7 hfr7 hk8
    refine hK31 _ _ ?_
    refine zK ?_
    repeat (with_reducible first | refine zI ?_ | refine zF ?_)
    exact zL hst8 hfr8 rfl (.tmp rfl <| .nil) (⟨_, rfl, trivial⟩)
set_option maxHeartbeats 400000 in
theorem kids_c {w : World} {m : Mem} {k : Int} (hA : Agree w m)  : FnV Tryd.prog 73 #[.int .i64 k] w m (fun _ _ v => v = .int .i64 (Z9 k)) := by
 refine zX (vs := [_]) func73 rfl rfl rfl fun a0 hfr0 => ?_
 have hst0 := zW hA (zf [] _ w m)
 have hM : MLe m m := MLe.refl m
 refine zB fun _ hK1 => ?_
 refine rp0 hst0 hfr0 (.cons rfl (zC rfl) <| .nil) fun a1 w1 m1 hst1 hle1 hk1 => ?_
 have hfr1 := hk1.fr (.o 0 <| .nil)
 clear hst0 hfr0 hk1
 refine hK1 _ _ ?_
 refine zB fun _ hK2 => ?_
 refine zB fun _ hK3 => ?_
 refine rp0 hst1 hfr1 (.cons rfl (zD rfl) <| .nil) fun a2 w2 m2 hst2 hle2 hk2 => ?_
 have hfr2 := hk2.fr (.n 3 <| .nil)
 clear hst1 hfr1 hk2
 refine hK3 _ _ ?_
 refine zN ?_
 refine zB fun _ hK4 => ?_
 refine zB fun _ hK5 => ?_
 refine rp0 hst2 hfr2 (.cons rfl (zV rfl rfl) <| .cons rfl (zC rfl) <| .nil) fun a3 w3 m3 hst3 hle3 hk3 => ?_
 have hfr3 := hk3.fr (.o 3 <| .n 4 <| .nil)
 clear hst2 hfr2 hk3
 refine hK5 _ _ ?_
 refine zG hfr3 rfl rfl (fun hb4 => ?_) (fun hb4 => ?_)
 ·try simp only [nqs] at hb4
  refine zJ ?_
  refine hK4 _ _ ?_
  refine zG hfr3 rfl rfl (fun hb4x => ?_) (fun hb4x => ?_)
  ·try simp only [nqs] at hb4x
   refine zB fun _ hK6 => ?_
   refine rp0 hst3 hfr3 (.cons rfl (zC rfl) <| .nil) fun a4 w4 m4 hst4 hle4 hk4 => ?_
   have hfr4 := hk4.fr (.n 2 <| .nil)
   clear hst3 hfr3 hk4
   refine hK6 _ _ ?_
   refine zK ?_
   repeat (with_reducible first | refine zI ?_ | refine zF ?_)
   exact zL hst4 hfr4 rfl (.tmp rfl <| .nil) (by refine congrArg (Value.int _) ?_; unfold Z9; simp_all)
  ·exfalso; try simp only [nqs] at hb4x
   first | exact absurd hb4x hb4 | exact absurd hb4 hb4x | simp_all
 ·try simp only [nqs] at hb4
  refine zB fun _ hK8 => ?_
  refine rp0 hst3 hfr3 (.cons rfl (zV rfl rfl) <| .cons rfl (zC rfl) <| .nil) fun a4 w4 m4 hst4 hle4 hk4 => ?_
  have hfr4 := hk4.fr (.o 3 <| .n 4 <| .nil)
  clear hst3 hfr3 hk4
  refine hK8 _ _ ?_
  refine zG hfr4 rfl rfl (fun hb4 => ?_) (fun hb4 => ?_)
  ·try simp only [nqs] at hb4
   refine zJ ?_
   refine hK4 _ _ ?_
   refine zG hfr4 rfl rfl (fun hb4x => ?_) (fun hb4x => ?_)
   ·try simp only [nqs] at hb4x
    refine zB fun _ hK9 => ?_
    refine rp0 hst4 hfr4 (.cons rfl (zC rfl) <| .nil) fun a5 w5 m5 hst5 hle5 hk5 => ?_
    have hfr5 := hk5.fr (.n 2 <| .nil)
    clear hst4 hfr4 hk5
    refine hK9 _ _ ?_
    refine zK ?_
    repeat (with_reducible first | refine zI ?_ | refine zF ?_)
    exact zL hst5 hfr5 rfl (.tmp rfl <| .nil) (by refine congrArg (Value.int _) ?_; unfold Z9; simp_all)
   ·exfalso; try simp only [nqs] at hb4x
    first | exact absurd hb4x hb4 | exact absurd hb4 hb4x | simp_all
  ·try simp only [nqs] at hb4
   refine zB fun _ hK11 => ?_
   refine rp0 hst4 hfr4 (.cons rfl (zV rfl rfl) <| .cons rfl (zC rfl) <| .nil) fun a5 w5 m5 hst5 hle5 hk5 => ?_
   have hfr5 := hk5.fr (.o 3 <| .n 4 <| .nil)
   clear hst4 hfr4 hk5
   refine hK11 _ _ ?_
   refine zG hfr5 rfl rfl (fun hb4 => ?_) (fun hb4 => ?_)
   ·try simp only [nqs] at hb4
    refine zJ ?_
    refine hK4 _ _ ?_
    refine zG hfr5 rfl rfl (fun hb4x => ?_) (fun hb4x => ?_)
    ·try simp only [nqs] at hb4x
     refine zB fun _ hK12 => ?_
     refine rp0 hst5 hfr5 (.cons rfl (zC rfl) <| .nil) fun a6 w6 m6 hst6 hle6 hk6 => ?_
     have hfr6 := hk6.fr (.n 2 <| .nil)
     clear hst5 hfr5 hk6
     refine hK12 _ _ ?_
     refine zK ?_
     repeat (with_reducible first | refine zI ?_ | refine zF ?_)
     exact zL hst6 hfr6 rfl (.tmp rfl <| .nil) (by refine congrArg (Value.int _) ?_; unfold Z9; simp_all)
    ·exfalso; try simp only [nqs] at hb4x
     first | exact absurd hb4x hb4 | exact absurd hb4 hb4x | simp_all
   ·try simp only [nqs] at hb4
    refine rp0 hst5 hfr5 (.cons rfl (zV rfl rfl) <| .cons rfl (zC rfl) <| .nil) fun a6 w6 m6 hst6 hle6 hk6 => ?_
    have hfr6 := hk6.fr (.o 3 <| .n 4 <| .nil)
    clear hst5 hfr5 hk6
    refine hK4 _ _ ?_
    refine zG hfr6 rfl rfl (fun hb4 => ?_) (fun hb4 => ?_)
    ·try simp only [nqs] at hb4
     refine zB fun _ hK14 => ?_
     refine rp0 hst6 hfr6 (.cons rfl (zC rfl) <| .nil) fun a7 w7 m7 hst7 hle7 hk7 => ?_
     have hfr7 := hk7.fr (.n 2 <| .nil)
     clear hst6 hfr6 hk7
     refine hK14 _ _ ?_
     refine zK ?_
     repeat (with_reducible first | refine zI ?_ | refine zF ?_)
     exact zL hst7 hfr7 rfl (.tmp rfl <| .nil) (by refine congrArg (Value.int _) ?_; unfold Z9; simp_all)
    ·try simp only [nqs] at hb4
     refine zB fun _ hK16 => ?_
     refine zB fun _ hK17 => ?_
     refine rp0 hst6 hfr6 (.cons rfl (zV rfl rfl) <| .cons rfl (zC rfl) <| .nil) fun a7 w7 m7 hst7 hle7 hk7 => ?_
     have hfr7 := hk7.fr (.o 3 <| .n 9 <| .nil)
     clear hst6 hfr6 hk7
     refine hK17 _ _ ?_
     refine zG hfr7 rfl rfl (fun hb9 => ?_) (fun hb9 => ?_)
     ·try simp only [nqs] at hb9
      refine zJ ?_
      refine hK16 _ _ ?_
      refine zG hfr7 rfl rfl (fun hb9x => ?_) (fun hb9x => ?_)
      ·try simp only [nqs] at hb9x
       refine zB fun _ hK18 => ?_
       refine rp0 hst7 hfr7 (.cons rfl (zC rfl) <| .nil) fun a8 w8 m8 hst8 hle8 hk8 => ?_
       have hfr8 := hk8.fr (.n 2 <| .nil)
       clear hst7 hfr7 hk8
       refine hK18 _ _ ?_
       refine zK ?_
       repeat (with_reducible first | refine zI ?_ | refine zF ?_)
       exact zL hst8 hfr8 rfl (.tmp rfl <| .nil) (by refine congrArg (Value.int _) ?_; unfold Z9; simp_all)
      ·exfalso; try simp only [nqs] at hb9x
       first | exact absurd hb9x hb9 | exact absurd hb9 hb9x | simp_all
     ·try simp only [nqs] at hb9
      refine zB fun _ hK20 => ?_
      refine rp0 hst7 hfr7 (.cons rfl (zV rfl rfl) <| .cons rfl (zC rfl) <| .nil) fun a8 w8 m8 hst8 hle8 hk8 => ?_
      have hfr8 := hk8.fr (.o 3 <| .n 9 <| .nil)
      clear hst7 hfr7 hk8
      refine hK20 _ _ ?_
      refine zG hfr8 rfl rfl (fun hb9 => ?_) (fun hb9 => ?_)
      ·try simp only [nqs] at hb9
       refine zJ ?_
       refine hK16 _ _ ?_
       refine zG hfr8 rfl rfl (fun hb9x => ?_) (fun hb9x => ?_)
       ·try simp only [nqs] at hb9x
        refine zB fun _ hK21 => ?_
        refine rp0 hst8 hfr8 (.cons rfl (zC rfl) <| .nil) fun a9 w9 m9 hst9 hle9 hk9 => ?_
        have hfr9 := hk9.fr (.n 2 <| .nil)
        clear hst8 hfr8 hk9
        refine hK21 _ _ ?_
        refine zK ?_
        repeat (with_reducible first | refine zI ?_ | refine zF ?_)
        exact zL hst9 hfr9 rfl (.tmp rfl <| .nil) (by refine congrArg (Value.int _) ?_; unfold Z9; simp_all)
       ·exfalso; try simp only [nqs] at hb9x
        first | exact absurd hb9x hb9 | exact absurd hb9 hb9x | simp_all
      ·try simp only [nqs] at hb9
       refine zB fun _ hK23 => ?_
       refine rp0 hst8 hfr8 (.cons rfl (zV rfl rfl) <| .cons rfl (zC rfl) <| .nil) fun a9 w9 m9 hst9 hle9 hk9 => ?_
       have hfr9 := hk9.fr (.o 3 <| .n 9 <| .nil)
       clear hst8 hfr8 hk9
       refine hK23 _ _ ?_
       refine zG hfr9 rfl rfl (fun hb9 => ?_) (fun hb9 => ?_)
       ·try simp only [nqs] at hb9
        refine zJ ?_
        refine hK16 _ _ ?_
        refine zG hfr9 rfl rfl (fun hb9x => ?_) (fun hb9x => ?_)
        ·try simp only [nqs] at hb9x
         refine zB fun _ hK24 => ?_
         refine rp0 hst9 hfr9 (.cons rfl (zC rfl) <| .nil) fun a10 w10 m10 hst10 hle10 hk10 => ?_
         have hfr10 := hk10.fr (.n 2 <| .nil)
         clear hst9 hfr9 hk10
         refine hK24 _ _ ?_
         refine zK ?_
         repeat (with_reducible first | refine zI ?_ | refine zF ?_)
         exact zL hst10 hfr10 rfl (.tmp rfl <| .nil) (by refine congrArg (Value.int _) ?_; unfold Z9; simp_all)
        ·exfalso; try simp only [nqs] at hb9x
         first | exact absurd hb9x hb9 | exact absurd hb9 hb9x | simp_all
       ·try simp only [nqs] at hb9
        refine rp0 hst9 hfr9 (.cons rfl (zV rfl rfl) <| .cons rfl (zC rfl) <| .nil) fun a10 w10 m10 hst10 hle10 hk10 => ?_
        have hfr10 := hk10.fr (.o 3 <| .n 9 <| .nil)
        clear hst9 hfr9 hk10
        refine hK16 _ _ ?_
        refine zG hfr10 rfl rfl (fun hb9 => ?_) (fun hb9 => ?_)
        ·try simp only [nqs] at hb9
         refine zB fun _ hK26 => ?_
         refine rp0 hst10 hfr10 (.cons rfl (zC rfl) <| .nil) fun a11 w11 m11 hst11 hle11 hk11 => ?_
         have hfr11 := hk11.fr (.n 2 <| .nil)
         clear hst10 hfr10 hk11
         refine hK26 _ _ ?_
         refine zK ?_
         repeat (with_reducible first | refine zI ?_ | refine zF ?_)
         exact zL hst11 hfr11 rfl (.tmp rfl <| .nil) (by refine congrArg (Value.int _) ?_; unfold Z9; simp_all)
        ·try simp only [nqs] at hb9
         refine zB fun _ hK28 => ?_
         refine zB fun _ hK29 => ?_
         refine rp0 hst10 hfr10 (.cons rfl (zV rfl rfl) <| .cons rfl (zC rfl) <| .nil) fun a11 w11 m11 hst11 hle11 hk11 => ?_
         have hfr11 := hk11.fr (.o 3 <| .n 14 <| .nil)
         clear hst10 hfr10 hk11
         refine hK29 _ _ ?_
         refine zG hfr11 rfl rfl (fun hb14 => ?_) (fun hb14 => ?_)
         ·try simp only [nqs] at hb14
          refine zJ ?_
          refine hK28 _ _ ?_
          refine zG hfr11 rfl rfl (fun hb14x => ?_) (fun hb14x => ?_)
          ·try simp only [nqs] at hb14x
           refine zB fun _ hK30 => ?_
           refine rp0 hst11 hfr11 (.cons rfl (zC rfl) <| .nil) fun a12 w12 m12 hst12 hle12 hk12 => ?_
           have hfr12 := hk12.fr (.n 2 <| .nil)
           clear hst11 hfr11 hk12
           refine hK30 _ _ ?_
           refine zK ?_
           repeat (with_reducible first | refine zI ?_ | refine zF ?_)
           exact zL hst12 hfr12 rfl (.tmp rfl <| .nil) (by refine congrArg (Value.int _) ?_; unfold Z9; simp_all)
          ·exfalso; try simp only [nqs] at hb14x
           first | exact absurd hb14x hb14 | exact absurd hb14 hb14x | simp_all
         ·try simp only [nqs] at hb14
          refine zB fun _ hK32 => ?_
          refine rp0 hst11 hfr11 (.cons rfl (zV rfl rfl) <| .cons rfl (zC rfl) <| .nil) fun a12 w12 m12 hst12 hle12 hk12 => ?_
          have hfr12 := hk12.fr (.o 3 <| .n 14 <| .nil)
          clear hst11 hfr11 hk12
          refine hK32 _ _ ?_
          refine zG hfr12 rfl rfl (fun hb14 => ?_) (fun hb14 => ?_)
          ·try simp only [nqs] at hb14
           refine zJ ?_
           refine hK28 _ _ ?_
           refine zG hfr12 rfl rfl (fun hb14x => ?_) (fun hb14x => ?_)
           ·try simp only [nqs] at hb14x
            refine zB fun _ hK33 => ?_
            refine rp0 hst12 hfr12 (.cons rfl (zC rfl) <| .nil) fun a13 w13 m13 hst13 hle13 hk13 => ?_
            have hfr13 := hk13.fr (.n 2 <| .nil)
            clear hst12 hfr12 hk13
            refine hK33 _ _ ?_
            refine zK ?_
            repeat (with_reducible first | refine zI ?_ | refine zF ?_)
            exact zL hst13 hfr13 rfl (.tmp rfl <| .nil) (by refine congrArg (Value.int _) ?_; unfold Z9; simp_all)
           ·exfalso; try simp only [nqs] at hb14x
            first | exact absurd hb14x hb14 | exact absurd hb14 hb14x | simp_all
          ·try simp only [nqs] at hb14
           refine rp0 hst12 hfr12 (.cons rfl (zV rfl rfl) <| .cons rfl (zC rfl) <| .nil) fun a13 w13 m13 hst13 hle13 hk13 => ?_
           have hfr13 := hk13.fr (.o 3 <| .n 14 <| .nil)
           clear hst12 hfr12 hk13
           refine hK28 _ _ ?_
           refine zG hfr13 rfl rfl (fun hb14 => ?_) (fun hb14 => ?_)
           ·try simp only [nqs] at hb14
            refine zB fun _ hK35 => ?_
            refine rp0 hst13 hfr13 (.cons rfl (zC rfl) <| .nil) fun a14 w14 m14 hst14 hle14 hk14 => ?_
            have hfr14 := hk14.fr (.n 2 <| .nil)
            clear hst13 hfr13 hk14
            refine hK35 _ _ ?_
            refine zK ?_
            repeat (with_reducible first | refine zI ?_ | refine zF ?_)
            exact zL hst14 hfr14 rfl (.tmp rfl <| .nil) (by refine congrArg (Value.int _) ?_; unfold Z9; simp_all)
           ·try simp only [nqs] at hb14
            refine zB fun _ hK37 => ?_
            refine rp0 hst13 hfr13 (.cons rfl (zV rfl rfl) <| .cons rfl (zC rfl) <| .nil) fun a14 w14 m14 hst14 hle14 hk14 => ?_
            have hfr14 := hk14.fr (.o 3 <| .n 18 <| .nil)
            clear hst13 hfr13 hk14
            refine hK37 _ _ ?_
            refine zG hfr14 rfl rfl (fun hb18 => ?_) (fun hb18 => ?_)
            ·try simp only [nqs] at hb18
             refine zB fun _ hK38 => ?_
             refine rp0 hst14 hfr14 (.cons rfl (zC rfl) <| .nil) fun a15 w15 m15 hst15 hle15 hk15 => ?_
             have hfr15 := hk15.fr (.n 2 <| .nil)
             clear hst14 hfr14 hk15
             refine hK38 _ _ ?_
             refine zK ?_
             repeat (with_reducible first | refine zI ?_ | refine zF ?_)
             exact zL hst15 hfr15 rfl (.tmp rfl <| .nil) (by refine congrArg (Value.int _) ?_; unfold Z9; simp_all)
            ·try simp only [nqs] at hb18
             refine zB fun _ hK40 => ?_
             refine zB fun _ hK41 => ?_
             refine rp0 hst14 hfr14 (.cons rfl (zV rfl rfl) <| .cons rfl (zC rfl) <| .nil) fun a15 w15 m15 hst15 hle15 hk15 => ?_
             have hfr15 := hk15.fr (.o 3 <| .n 20 <| .nil)
             clear hst14 hfr14 hk15
             refine hK41 _ _ ?_
             refine zG hfr15 rfl rfl (fun hb20 => ?_) (fun hb20 => ?_)
             ·try simp only [nqs] at hb20
              refine zJ ?_
              refine hK40 _ _ ?_
              refine zG hfr15 rfl rfl (fun hb20x => ?_) (fun hb20x => ?_)
              ·try simp only [nqs] at hb20x
               refine zB fun _ hK42 => ?_
               refine rp0 hst15 hfr15 (.cons rfl (zC rfl) <| .nil) fun a16 w16 m16 hst16 hle16 hk16 => ?_
               have hfr16 := hk16.fr (.n 2 <| .nil)
               clear hst15 hfr15 hk16
               refine hK42 _ _ ?_
               refine zK ?_
               repeat (with_reducible first | refine zI ?_ | refine zF ?_)
               exact zL hst16 hfr16 rfl (.tmp rfl <| .nil) (by refine congrArg (Value.int _) ?_; unfold Z9; simp_all)
              ·exfalso; try simp only [nqs] at hb20x
               first | exact absurd hb20x hb20 | exact absurd hb20 hb20x | simp_all
             ·try simp only [nqs] at hb20
              refine rp0 hst15 hfr15 (.cons rfl (zV rfl rfl) <| .cons rfl (zC rfl) <| .nil) fun a16 w16 m16 hst16 hle16 hk16 => ?_
              have hfr16 := hk16.fr (.n 20 <| .nil)
              clear hst15 hfr15 hk16
              refine hK40 _ _ ?_
              refine zG hfr16 rfl rfl (fun hb20 => ?_) (fun hb20 => ?_)
              ·try simp only [nqs] at hb20
               refine zB fun _ hK44 => ?_
               refine rp0 hst16 hfr16 (.cons rfl (zC rfl) <| .nil) fun a17 w17 m17 hst17 hle17 hk17 => ?_
               have hfr17 := hk17.fr (.n 2 <| .nil)
               clear hst16 hfr16 hk17
               refine hK44 _ _ ?_
               refine zK ?_
               repeat (with_reducible first | refine zI ?_ | refine zF ?_)
               exact zL hst17 hfr17 rfl (.tmp rfl <| .nil) (by refine congrArg (Value.int _) ?_; unfold Z9; simp_all)
              ·try simp only [nqs] at hb20
               refine zJ ?_
               refine hK2 _ _ ?_
               refine zB fun _ hK46 => ?_
               refine rp0 hst16 hfr16 (.cons rfl (zC rfl) <| .nil) fun a17 w17 m17 hst17 hle17 hk17 => ?_
               have hfr17 := hk17.fr (.n 2 <| .nil)
               clear hst16 hfr16 hk17
               refine hK46 _ _ ?_
               refine zK ?_
               repeat (with_reducible first | refine zI ?_ | refine zF ?_)
               exact zL hst17 hfr17 rfl (.tmp rfl <| .nil) (by refine congrArg (Value.int _) ?_; unfold Z9; simp_all)
set_option maxHeartbeats 800000 in
theorem one_c {w : World} {m : Mem} {p : Pg} {vs_p : List Value} {t : Tm} {vs_t : List Value} {o_l : Option Addr} {c_l : Nat} {l : List Str} (hA : Agree w m) (h_p : PgR m p vs_p) (h_t : TmR m t vs_t) (h_l : Strs m o_l l.length c_l l) (hbo : zBA p.effects ≤ 1000000000) : FnV Tryd.prog 63 #[.agg vs_p.toArray, .agg vs_t.toArray, .slice o_l l.length c_l] w m (fun _ m v => (MP.oneB t).p m v) := by
 obtain ⟨oE_p, cE_p, oD_p, cD_p, bs_p, rfl, hef_p, hda_p, hpb_p⟩ := id h_p
 have hbe_p := hef_p.big; have hce_p := hef_p.cap; have hbda_p := hda_p.big; have hcd_p := hda_p.cap
 obtain ⟨⟨oK_pb, cK_pb, oA_pb, cA_pb, oR_pb, cR_pb, t0_pb, t1_pb, t2_pb, t3_pb, t4_pb, t5_pb, u0_pb, u1_pb, u2_pb, u3_pb, u4_pb, u5_pb⟩, rfl, hon_pb, hkk_pb, haa_pb, hrr_pb⟩ := hpb_p.open_
 dsimp only at hkk_pb haa_pb hrr_pb
 have hbg_pb := hkk_pb.big; have hcp_pb := hkk_pb.cap; have hbh_pb := haa_pb.big; have hcq_pb := haa_pb.cap
 obtain ⟨⟨oK_t, cK_t, oA_t, cA_t, oR_t, cR_t, t0_t, t1_t, t2_t, t3_t, t4_t, t5_t, u0_t, u1_t, u2_t, u3_t, u4_t, u5_t⟩, rfl, hon_t, hkk_t, haa_t, hrr_t⟩ := h_t.open_
 dsimp only at hkk_t haa_t hrr_t
 have hbg_t := hkk_t.big; have hcp_t := hkk_t.cap; have hbh_t := haa_t.big; have hcq_t := haa_t.cap
 have hb_l := h_l.big; have hc_l := h_l.cap
 refine zX (vs := [_, _, _]) func63 rfl rfl rfl fun a0 hfr0 => ?_
 have hst0 := zW hA (zf [] _ w m)
 have hM : MLe m m := MLe.refl m
 refine zB fun _ hK1 => ?_
 refine rp0 hst0 hfr0 (.cons rfl (zv rfl rfl) <| .cons rfl (zv rfl rfl) <| .cons rfl (zC rfl) <| .nil) fun a1 w1 m1 hst1 hle1 hk1 => ?_
 have hfr1 := hk1.fr (.o 2 <| .nil)
 obtain ⟨g2, e2, hc3⟩ := hk1.ex 3 rfl
 replace hfr1 := hfr1.cons e2
 obtain ⟨g3, e3, hc4⟩ := hk1.ex 4 rfl
 replace hfr1 := hfr1.cons e3
 replace h_p := h_p.mono hle1
 replace hef_p := hef_p.mono hle1
 replace hda_p := hda_p.mono hle1
 replace hpb_p := hpb_p.mono hle1
 replace hkk_pb := hkk_pb.mono hle1
 replace haa_pb := haa_pb.mono hle1
 replace hrr_pb := hrr_pb.mono hle1
 replace h_t := h_t.mono hle1
 replace hkk_t := hkk_t.mono hle1
 replace haa_t := haa_t.mono hle1
 replace hrr_t := hrr_t.mono hle1
 replace h_l := h_l.mono hle1
 clear hst0 hfr0 hk1
 refine hK1 _ _ ?_
 refine zB fun _ hK4 => ?_
 refine rp0 hst1 hfr1 (.cons rfl (zA (off := 0) rfl underlying33 rfl rfl sizeOf3 rfl) <| .cons rfl (zE rfl hc4 isAgg3 rfl) <| .cons rfl (zc rfl (.cons rfl <| .nil) call73 (fun w m hK => by have hle_ := KC.le hK; have hA := KC.agree hK; exact kids_c hA)) <| .cons rfl (zC rfl) <| .nil) fun a2 w2 m2 hst2 hle2 hk2 => ?_
 have hfr2 := hk2.fr (.o 2 <| .o 3 <| .o 4 <| .n 7 <| .nil)
 replace h_p := h_p.mono hle2
 replace hef_p := hef_p.mono hle2
 replace hda_p := hda_p.mono hle2
 replace hpb_p := hpb_p.mono hle2
 replace hkk_pb := hkk_pb.mono hle2
 replace haa_pb := haa_pb.mono hle2
 replace hrr_pb := hrr_pb.mono hle2
 replace h_t := h_t.mono hle2
 replace hkk_t := hkk_t.mono hle2
 replace haa_t := haa_t.mono hle2
 replace hrr_t := hrr_t.mono hle2
 replace h_l := h_l.mono hle2
 replace hc3 := hc3.mono hle2
 replace hc4 := hc4.mono hle2
 clear hst1 hfr1 hk2
 refine hK4 _ _ ?_
 refine zB fun _ hK5 => ?_
 refine zB fun _ hK6 => ?_
 refine rp0 hst2 hfr2 (.cons rfl (zD rfl) <| .cons rfl (zA (off := 5) rfl underlying33 rfl rfl sizeOf24 rfl) <| .cons rfl (zE rfl hc4 isAgg24 rfl) <| .cons rfl (zY rfl underlying24) <| .cons rfl (ZP rfl rfl) <| .cons rfl (zD rfl) <| .cons rfl (zD rfl) <| .cons rfl (ZP rfl rfl) <| .cons rfl (ZI rfl rfl rfl) <| .nil) fun a3 w3 m3 hst3 hle3 hk3 => ?_
 have hfr3 := hk3.fr (.o 2 <| .o 3 <| .o 4 <| .n 27 <| .nil)
 replace h_p := h_p.mono hle3
 replace hef_p := hef_p.mono hle3
 replace hda_p := hda_p.mono hle3
 replace hpb_p := hpb_p.mono hle3
 replace hkk_pb := hkk_pb.mono hle3
 replace haa_pb := haa_pb.mono hle3
 replace hrr_pb := hrr_pb.mono hle3
 replace h_t := h_t.mono hle3
 replace hkk_t := hkk_t.mono hle3
 replace haa_t := haa_t.mono hle3
 replace hrr_t := hrr_t.mono hle3
 replace h_l := h_l.mono hle3
 replace hc3 := hc3.mono hle3
 replace hc4 := hc4.mono hle3
 clear hst2 hfr2 hk3
 refine hK6 _ _ ?_
 refine zG hfr3 rfl rfl (fun hb27 => ?_) (fun hb27 => ?_)
 ·try simp only [nqs] at hb27
  refine zB fun _ hK7 => ?_
  refine rp0 hst3 hfr3 (.cons rfl (zC rfl) <| .nil) fun a4 w4 m4 hst4 hle4 hk4 => ?_
  have hfr4 := hk4.fr (.n 6 <| .nil)
  clear hst3 hfr3 hk4
  refine hK7 _ _ ?_
  refine zK ?_
  repeat (with_reducible first | refine zI ?_ | refine zF ?_)
  exact zL hst4 hfr4 rfl (.tmp rfl <| .nil) (⟨false, rfl, fun h => by cases h⟩)
 ·try simp only [nqs] at hb27
  have hk : Z9 t.kind = (t.kids.length : Int) ∨ Z9 t.kind = -1 := by omega
  refine zJ ?_
  refine hK5 _ _ ?_
  refine zB fun _ hK9 => ?_
  refine zB fun _ hK10 => ?_
  refine rp0 hst3 hfr3 (.cons rfl (zA (off := 0) rfl underlying33 rfl rfl sizeOf3 rfl) <| .cons rfl (zE rfl hc4 isAgg3 rfl) <| .nil) fun a4 w4 m4 hst4 hle4 hk4 => ?_
  have hfr4 := hk4.fr (.o 2 <| .o 3 <| .o 4 <| .n 29 <| .nil)
  clear hst3 hfr3 hk4
  refine hK10 _ _ ?_
  refine zN ?_
  refine zB fun _ hK11 => ?_
  refine rp0 hst4 hfr4 (.cons rfl (zV rfl rfl) <| .cons rfl (zC rfl) <| .nil) fun a5 w5 m5 hst5 hle5 hk5 => ?_
  have hfr5 := hk5.fr (.o 2 <| .o 3 <| .o 4 <| .o 29 <| .n 30 <| .nil)
  clear hst4 hfr4 hk5
  refine hK11 _ _ ?_
  refine zG hfr5 rfl rfl (fun hb30 => ?_) (fun hb30 => ?_)
  ·try simp only [nqs] at hb30
   refine zB fun _ hK12 => ?_
   have zq1 := hle4.trans hle5
   replace h_p := h_p.mono zq1
   replace h_t := h_t.mono zq1
   replace hc3 := hc3.mono zq1
   replace hc4 := hc4.mono zq1
   refine ra0 (tch := []) hst5 hfr5 (.cons rfl (zO rfl hc3 isAgg35 sizeOf35 rfl rfl) <| .cons rfl (zO rfl hc4 isAgg33 sizeOf33 rfl rfl) <| .cons rfl (zi (φ := MP.anyB) rfl (.cons rfl <| .cons rfl <| .nil) call74 (fun w m hK => by have hle_ := KC.le hK; have hA := KC.agree hK; have h_p := h_p.mono hle_; have h_t := h_t.mono hle_; exact FnG.mono (handles_c hA h_p h_t hbo) fun _ _ _ _ h => h)) <| .consA 34 rfl rfl <| .nil) fun a6 w6 m6 hst6 hle6 hk6 => ?_
   have hfr6 := hk6.fr (.nil)
   obtain ⟨y13, e13, hy13⟩ := hk6.ex 34 rfl
   replace hfr6 := hfr6.cons (hk6.same 6 rfl e13)
   clear hst5 hfr5 hk6
   refine hK12 _ _ ?_
   refine zK ?_
   repeat (with_reducible first | refine zI ?_ | refine zF ?_)
   exact zL hst6 hfr6 rfl (.tmp rfl <| .nil) (⟨_, rfl, fun _ => ⟨hk, fun h12 h14 => by first | (exfalso; omega) | exact List.eq_nil_of_length_eq_zero (by omega)⟩⟩)
  ·try simp only [nqs] at hb30
   refine zB fun _ hK15 => ?_
   refine rp0 hst5 hfr5 (.cons rfl (zV rfl rfl) <| .cons rfl (zC rfl) <| .nil) fun a6 w6 m6 hst6 hle6 hk6 => ?_
   have hfr6 := hk6.fr (.o 2 <| .o 3 <| .o 4 <| .n 35 <| .nil)
   clear hst5 hfr5 hk6
   refine hK15 _ _ ?_
   refine zG hfr6 rfl rfl (fun hb35 => ?_) (fun hb35 => ?_)
   ·try simp only [nqs] at hb35
    refine zB fun _ hK16 => ?_
    have zq2 := hle5.trans hle6
    have zq3 := hle4.trans zq2
    replace h_p := h_p.mono zq3
    replace h_t := h_t.mono zq3
    replace hc3 := hc3.mono zq3
    replace hc4 := hc4.mono zq3
    refine ra0 (tch := []) hst6 hfr6 (.cons rfl (zO rfl hc3 isAgg35 sizeOf35 rfl rfl) <| .cons rfl (zO rfl hc4 isAgg33 sizeOf33 rfl rfl) <| .cons rfl (zi (φ := MP.anyB) rfl (.cons rfl <| .cons rfl <| .nil) call75 (fun w m hK => by have hle_ := KC.le hK; have hA := KC.agree hK; have h_p := h_p.mono hle_; have h_t := h_t.mono hle_; exact FnG.mono (matches_c hA h_p h_t) fun _ _ _ _ h => h)) <| .consA 39 rfl rfl <| .nil) fun a7 w7 m7 hst7 hle7 hk7 => ?_
    have hfr7 := hk7.fr (.nil)
    obtain ⟨y17, e17, hy17⟩ := hk7.ex 39 rfl
    replace hfr7 := hfr7.cons (hk7.same 6 rfl e17)
    clear hst6 hfr6 hk7
    refine hK16 _ _ ?_
    refine zK ?_
    repeat (with_reducible first | refine zI ?_ | refine zF ?_)
    exact zL hst7 hfr7 rfl (.tmp rfl <| .nil) (⟨_, rfl, fun _ => ⟨hk, fun h12 h14 => by first | (exfalso; omega) | exact List.eq_nil_of_length_eq_zero (by omega)⟩⟩)
   ·try simp only [nqs] at hb35
    refine zJ ?_
    refine hK9 _ _ ?_
    refine zB fun _ hK19 => ?_
    refine zB fun _ hK20 => ?_
    have zq4 := hle5.trans hle6
    have zq5 := hle4.trans zq4
    replace hc4 := hc4.mono zq5
    refine rp0 hst6 hfr6 (.cons rfl (zA (off := 6) rfl underlying33 rfl rfl sizeOf25 rfl) <| .cons rfl (zE rfl hc4 isAgg25 rfl) <| .cons rfl (zY rfl underlying25) <| .cons rfl (zAw rfl rfl) <| .nil) fun a7 w7 m7 hst7 hle7 hk7 => ?_
    have hfr7 := hk7.fr (.o 2 <| .o 3 <| .o 4 <| .n 43 <| .nil)
    clear hst6 hfr6 hk7
    refine hK20 _ _ ?_
    refine zG hfr7 rfl rfl (fun hb43 => ?_) (fun hb43 => ?_)
    ·try simp only [nqs] at hb43
     refine zB fun _ hK21 => ?_
     refine rp0 hst7 hfr7 (.cons rfl (zC rfl) <| .nil) fun a8 w8 m8 hst8 hle8 hk8 => ?_
     have hfr8 := hk8.fr (.n 6 <| .nil)
     clear hst7 hfr7 hk8
     refine hK21 _ _ ?_
     refine zK ?_
     repeat (with_reducible first | refine zI ?_ | refine zF ?_)
     exact zL hst8 hfr8 rfl (.tmp rfl <| .nil) (⟨false, rfl, fun h => by cases h⟩)
    ·try simp only [nqs] at hb43
     refine zJ ?_
     refine hK19 _ _ ?_
     refine zB fun _ hK23 => ?_
     refine zB fun _ hK24 => ?_
     replace hc4 := hc4.mono hle7
     refine rp0 hst7 hfr7 (.cons rfl (zA (off := 0) rfl underlying33 rfl rfl sizeOf3 rfl) <| .cons rfl (zE rfl hc4 isAgg3 rfl) <| .nil) fun a8 w8 m8 hst8 hle8 hk8 => ?_
     have hfr8 := hk8.fr (.o 2 <| .o 3 <| .o 4 <| .n 45 <| .nil)
     clear hst7 hfr7 hk8
     refine hK24 _ _ ?_
     refine zN ?_
     refine zB fun _ hK25 => ?_
     refine rp0 hst8 hfr8 (.cons rfl (zV rfl rfl) <| .cons rfl (zC rfl) <| .nil) fun a9 w9 m9 hst9 hle9 hk9 => ?_
     have hfr9 := hk9.fr (.o 2 <| .o 3 <| .o 4 <| .o 45 <| .n 46 <| .nil)
     clear hst8 hfr8 hk9
     refine hK25 _ _ ?_
     refine zG hfr9 rfl rfl (fun hb46 => ?_) (fun hb46 => ?_)
     ·try simp only [nqs] at hb46
      refine zB fun _ hK26 => ?_
      have zq6 := hle8.trans hle9
      have zq7 := hle7.trans zq6
      have zq8 := zq5.trans zq7
      replace h_p := h_p.mono zq8
      replace hef_p := hef_p.mono zq8
      replace hda_p := hda_p.mono zq8
      replace hpb_p := hpb_p.mono zq8
      replace hkk_pb := hkk_pb.mono zq8
      replace haa_pb := haa_pb.mono zq8
      replace hrr_pb := hrr_pb.mono zq8
      replace h_t := h_t.mono zq8
      replace hkk_t := hkk_t.mono zq8
      replace haa_t := haa_t.mono zq8
      replace hrr_t := hrr_t.mono zq8
      replace h_l := h_l.mono zq8
      replace hc3 := hc3.mono zq8
      replace hc4 := hc4.mono zq6
      refine rp0 hst9 hfr9 (.cons rfl (zA (off := 2) rfl underlying33 rfl rfl sizeOf9 rfl) <| .cons rfl (zE rfl hc4 isAgg9 rfl) <| .cons rfl (Z7 rfl rfl) <| .cons rfl (zD rfl) <| .cons rfl (zD rfl) <| .cons rfl (zA (off := 2) rfl underlying33 rfl rfl sizeOf9 rfl) <| .cons rfl (zE rfl hc4 isAgg9 rfl) <| .cons rfl (zc rfl (.cons rfl <| .cons rfl <| .nil) call61 (fun w m hK => by have hle_ := KC.le hK; have hA := KC.agree hK; have h_p := h_p.mono hle_; have hef_p := hef_p.mono hle_; have hda_p := hda_p.mono hle_; have hpb_p := hpb_p.mono hle_; have hkk_pb := hkk_pb.mono hle_; have haa_pb := haa_pb.mono hle_; have hrr_pb := hrr_pb.mono hle_; have h_t := h_t.mono hle_; have hkk_t := hkk_t.mono hle_; have haa_t := haa_t.mono hle_; have hrr_t := hrr_t.mono hle_; have h_l := h_l.mono hle_; have hc3 := hc3.mono hle_; have hc4 := hc4.mono hle_; exact in_c hA (by first | assumption | omega | simp_all))) <| .cons rfl (ZI rfl rfl rfl) <| .cons rfl (zC rfl) <| .nil) fun a10 w10 m10 hst10 hle10 hk10 => ?_
      have hfr10 := hk10.fr (.n 6 <| .nil)
      clear hst9 hfr9 hk10
      refine hK26 _ _ ?_
      refine zK ?_
      repeat (with_reducible first | refine zI ?_ | refine zF ?_)
      exact zL hst10 hfr10 rfl (.tmp rfl <| .nil) (⟨_, rfl, fun _ => ⟨hk, fun h12 h14 => by first | (exfalso; omega) | exact List.eq_nil_of_length_eq_zero (by omega)⟩⟩)
     ·try simp only [nqs] at hb46
      refine zB fun _ hK28 => ?_
      refine rp0 hst9 hfr9 (.cons rfl (zV rfl rfl) <| .cons rfl (zC rfl) <| .nil) fun a10 w10 m10 hst10 hle10 hk10 => ?_
      have hfr10 := hk10.fr (.o 3 <| .o 4 <| .o 45 <| .n 57 <| .nil)
      clear hst9 hfr9 hk10
      refine hK28 _ _ ?_
      refine zG hfr10 rfl rfl (fun hb57 => ?_) (fun hb57 => ?_)
      ·try simp only [nqs] at hb57
       refine zB fun _ hK29 => ?_
       have zq9 := hle9.trans hle10
       have zq10 := hle8.trans zq9
       replace hc4 := hc4.mono zq10
       refine ra0 (tch := []) hst10 hfr10 (.cons rfl (zA (off := 2) rfl underlying33 rfl rfl sizeOf9 rfl) <| .cons rfl (zE rfl hc4 isAgg9 rfl) <| .cons rfl (zi (φ := MP.anyIB) rfl (.cons rfl <| .nil) call76 (fun w m hK => by have hle_ := KC.le hK; have hA := KC.agree hK; exact FnG.mono (prims_c hA) fun _ _ _ _ h => h)) <| .cons rfl (zh 62 rfl rfl rfl fun y62 => zD rfl) <| .cons rfl (zh 59 rfl rfl rfl fun y59 => zS rfl rfl) <| .cons rfl (zh 59 rfl rfl rfl fun y59 => zS rfl rfl) <| .consA 63 rfl rfl <| .consA 64 rfl rfl <| .nil) fun a11 w11 m11 hst11 hle11 hk11 => ?_
       have hfr11 := hk11.fr (.o 4 <| .nil)
       obtain ⟨y30, e30, hy30⟩ := hk11.ex 63 rfl
       obtain ⟨y31, e31, hy31⟩ := hk11.ex 64 rfl
       replace hfr11 := hfr11.cons (hk11.same 8 rfl e30)
       replace hfr11 := hfr11.cons (hk11.same 9 rfl e31)
       clear hst10 hfr10 hk11
       refine hK29 _ _ ?_
       refine zB fun _ hK32 => ?_
       replace hc4 := hc4.mono hle11
       refine rp0 hst11 hfr11 (.cons rfl (zD rfl) <| .cons rfl (zD rfl) <| .cons rfl (zD rfl) <| .cons rfl (zA (off := 5) rfl underlying33 rfl rfl sizeOf24 rfl) <| .cons rfl (zE rfl hc4 isAgg24 rfl) <| .cons rfl (zY rfl underlying24) <| .cons rfl (zV rfl rfl) <| .cons rfl (ZI rfl rfl rfl) <| .cons rfl (zC rfl) <| .nil) fun a12 w12 m12 hst12 hle12 hk12 => ?_
       have hfr12 := hk12.fr (.n 6 <| .nil)
       clear hst11 hfr11 hk12
       refine hK32 _ _ ?_
       refine zK ?_
       repeat (with_reducible first | refine zI ?_ | refine zF ?_)
       exact zL hst12 hfr12 rfl (.tmp rfl <| .nil) (⟨_, rfl, fun _ => ⟨hk, fun h12 h14 => by first | (exfalso; omega) | exact List.eq_nil_of_length_eq_zero (by omega)⟩⟩)
      ·try simp only [nqs] at hb57
       refine zB fun _ hK34 => ?_
       refine rp0 hst10 hfr10 (.cons rfl (zV rfl rfl) <| .cons rfl (zC rfl) <| .nil) fun a11 w11 m11 hst11 hle11 hk11 => ?_
       have hfr11 := hk11.fr (.o 3 <| .o 4 <| .o 45 <| .n 73 <| .nil)
       clear hst10 hfr10 hk11
       refine hK34 _ _ ?_
       refine zG hfr11 rfl rfl (fun hb73 => ?_) (fun hb73 => ?_)
       ·try simp only [nqs] at hb73
        refine zB fun _ hK35 => ?_
        replace hst11 := hst11.more (r := .free) trivial List.nodup_nil (by simp [Res.blocks])
        replace hst11 := hst11.more (r := .free) trivial List.nodup_nil (by simp [Res.blocks])
        have zq11 := hle10.trans hle11
        have zq12 := hle9.trans zq11
        have zq13 := hle8.trans zq12
        have zq14 := hle7.trans zq13
        have zq15 := zq5.trans zq14
        replace h_p := h_p.mono zq15
        replace hc3 := hc3.mono zq15
        replace hc4 := hc4.mono zq13
        refine ra0 (tch := [(8, 0, (fun v => .blk v _)), (9, 1, (fun v => .blk v _)), (10, 0, (fun v => .blkx v _ _)), (11, 1, (fun v => .blkx v _ _))]) hst11 hfr11 (.cons rfl (zO rfl hc3 isAgg35 sizeOf35 rfl rfl) <| .cons rfl (zA (off := 2) rfl underlying33 rfl rfl sizeOf9 rfl) <| .cons rfl (zE rfl hc4 isAgg9 rfl) <| .cons rfl (zi (φ := MP.daB) rfl (.cons rfl <| .cons rfl <| .nil) call77 (fun w m hK => by have hle_ := KC.le hK; have hA := KC.agree hK; have h_p := h_p.mono hle_; exact FnG.mono (con_c hA h_p) fun _ _ _ _ h => h)) <| .cons rfl (zh 79 rfl rfl rfl fun y79 => zD rfl) <| .cons rfl (zh 75 rfl rfl rfl fun y75 => zS rfl rfl) <| .cons rfl (zh 75 rfl rfl rfl fun y75 => zS rfl rfl) <| .cons rfl (zh 75 rfl rfl rfl fun y75 => zS rfl rfl) <| .consT rfl rfl (fun _ => rfl) rfl (zQ zeroValue122 rfl) <| .consT rfl rfl (fun _ => rfl) rfl (zQ zeroValue124 rfl) <| .consT rfl rfl (fun _ => rfl) rfl (zU 10 rfl rfl rfl fun y10 => ZJ 80 rfl rfl rfl fun y80 => zb rfl rfl rfl rfl rfl sizeOf122 rfl rfl rfl) <| .consT rfl rfl (fun _ => rfl) rfl (zU 11 rfl rfl rfl fun y11 => ZJ 81 rfl rfl rfl fun y81 => zb rfl rfl rfl rfl rfl sizeOf124 rfl rfl rfl) <| .consA 82 rfl rfl <| .nil) fun a12 w12 m12 hst12 hle12 hk12 => ?_
        have hfr12 := hk12.fr (.o 4 <| .nil)
        obtain ⟨y36, e36, hy36⟩ := hk12.ex 82 rfl
        obtain ⟨g37, e37, _⟩ := hk12.ex 10 rfl
        obtain ⟨g38, e38, _⟩ := hk12.ex 11 rfl
        replace hfr12 := hfr12.cons e38
        replace hfr12 := hfr12.cons (hk12.same 12 rfl e36)
        replace hst12 := hst12.fin (L' := [_, _]) (.cons e37 <| .cons e38 <| .cons e37 <| .cons e38 <| .nil)
        obtain ⟨y39, hy39, hst12⟩ := hst12.unx (k := 0) rfl (fun _ => rfl)
        obtain ⟨y40, hy40, hst12⟩ := hst12.unx (k := 1) rfl (fun _ => rfl)
        clear hst11 hfr11 hk12
        refine hK35 _ _ ?_
        refine zB fun _ hK41 => ?_
        replace hc4 := hc4.mono hle12
        refine rp0 hst12 hfr12 (.cons rfl (zD rfl) <| .cons rfl (zD rfl) <| .cons rfl (zA (off := 1) rfl underlying124 rfl rfl sizeOf26 rfl) <| .cons rfl (zM (j := 1) rfl rfl isAgg26 rfl) <| .cons rfl (zY rfl underlying26) <| .cons rfl (zA (off := 5) rfl underlying33 rfl rfl sizeOf24 rfl) <| .cons rfl (zE rfl hc4 isAgg24 rfl) <| .cons rfl (zY rfl underlying24) <| .cons rfl (zV rfl rfl) <| .cons rfl (ZI rfl rfl rfl) <| .cons rfl (zC rfl) <| .nil) fun a13 w13 m13 hst13 hle13 hk13 => ?_
        have hfr13 := hk13.fr (.n 6 <| .nil)
        clear hst12 hfr12 hk13
        refine hK41 _ _ ?_
        refine zK ?_
        repeat (with_reducible first | refine zI ?_ | refine zF ?_)
        exact zL hst13 hfr13 rfl (.tmp rfl <| .nil) (⟨_, rfl, fun _ => ⟨hk, fun h12 h14 => by first | (exfalso; omega) | exact List.eq_nil_of_length_eq_zero (by omega)⟩⟩)
       ·try simp only [nqs] at hb73
        refine zB fun _ hK43 => ?_
        refine rp0 hst11 hfr11 (.cons rfl (zV rfl rfl) <| .cons rfl (zC rfl) <| .nil) fun a12 w12 m12 hst12 hle12 hk12 => ?_
        have hfr12 := hk12.fr (.o 3 <| .o 4 <| .n 93 <| .nil)
        clear hst11 hfr11 hk12
        refine hK43 _ _ ?_
        refine zG hfr12 rfl rfl (fun hb93 => ?_) (fun hb93 => ?_)
        ·try simp only [nqs] at hb93
         refine zB fun _ hK44 => ?_
         replace hst12 := hst12.more (r := .free) trivial List.nodup_nil (by simp [Res.blocks])
         replace hst12 := hst12.more (r := .free) trivial List.nodup_nil (by simp [Res.blocks])
         have zq16 := hle11.trans hle12
         have zq17 := hle10.trans zq16
         have zq18 := hle9.trans zq17
         have zq19 := hle8.trans zq18
         have zq20 := hle7.trans zq19
         have zq21 := zq5.trans zq20
         replace h_p := h_p.mono zq21
         replace hc3 := hc3.mono zq21
         replace hc4 := hc4.mono zq19
         refine ra0 (tch := [(8, 0, (fun v => .blk v _)), (9, 1, (fun v => .blk v _)), (10, 0, (fun v => .blkx v _ _)), (11, 1, (fun v => .blkx v _ _))]) hst12 hfr12 (.cons rfl (zO rfl hc3 isAgg35 sizeOf35 rfl rfl) <| .cons rfl (zA (off := 2) rfl underlying33 rfl rfl sizeOf9 rfl) <| .cons rfl (zE rfl hc4 isAgg9 rfl) <| .cons rfl (zi (φ := MP.aaB) rfl (.cons rfl <| .cons rfl <| .nil) call78 (fun w m hK => by have hle_ := KC.le hK; have hA := KC.agree hK; have h_p := h_p.mono hle_; exact FnG.mono (effect_c hA h_p) fun _ _ _ _ h => h)) <| .cons rfl (zh 99 rfl rfl rfl fun y99 => zD rfl) <| .cons rfl (zh 95 rfl rfl rfl fun y95 => zS rfl rfl) <| .cons rfl (zh 95 rfl rfl rfl fun y95 => zS rfl rfl) <| .cons rfl (zh 95 rfl rfl rfl fun y95 => zS rfl rfl) <| .consT rfl rfl (fun _ => rfl) rfl (zQ zeroValue115 rfl) <| .consT rfl rfl (fun _ => rfl) rfl (zQ zeroValue118 rfl) <| .consT rfl rfl (fun _ => rfl) rfl (zU 13 rfl rfl rfl fun y13 => ZJ 100 rfl rfl rfl fun y100 => zb rfl rfl rfl rfl rfl sizeOf115 rfl rfl rfl) <| .consT rfl rfl (fun _ => rfl) rfl (zU 14 rfl rfl rfl fun y14 => ZJ 101 rfl rfl rfl fun y101 => zb rfl rfl rfl rfl rfl sizeOf118 rfl rfl rfl) <| .consA 102 rfl rfl <| .nil) fun a13 w13 m13 hst13 hle13 hk13 => ?_
         have hfr13 := hk13.fr (.nil)
         obtain ⟨y45, e45, hy45⟩ := hk13.ex 102 rfl
         obtain ⟨g46, e46, _⟩ := hk13.ex 13 rfl
         obtain ⟨g47, e47, _⟩ := hk13.ex 14 rfl
         replace hfr13 := hfr13.cons (hk13.same 15 rfl e45)
         replace hst13 := hst13.fin (L' := [_, _]) (.cons e46 <| .cons e47 <| .cons e46 <| .cons e47 <| .nil)
         obtain ⟨y48, hy48, hst13⟩ := hst13.unx (k := 0) rfl (fun _ => rfl)
         obtain ⟨y49, hy49, hst13⟩ := hst13.unx (k := 1) rfl (fun _ => rfl)
         clear hst12 hfr12 hk13
         refine hK44 _ _ ?_
         refine zB fun _ hK50 => ?_
         refine rp0 hst13 hfr13 (.cons rfl (zD rfl) <| .cons rfl (zC rfl) <| .nil) fun a14 w14 m14 hst14 hle14 hk14 => ?_
         have hfr14 := hk14.fr (.n 6 <| .nil)
         clear hst13 hfr13 hk14
         refine hK50 _ _ ?_
         refine zK ?_
         repeat (with_reducible first | refine zI ?_ | refine zF ?_)
         exact zL hst14 hfr14 rfl (.tmp rfl <| .nil) (⟨_, rfl, fun _ => ⟨hk, fun h12 h14 => by first | (exfalso; omega) | exact List.eq_nil_of_length_eq_zero (by omega)⟩⟩)
        ·try simp only [nqs] at hb93
         refine zJ ?_
         refine hK23 _ _ ?_
         refine zB fun _ hK52 => ?_
         refine rp0 hst12 hfr12 (.cons rfl (zC rfl) <| .nil) fun a13 w13 m13 hst13 hle13 hk13 => ?_
         have hfr13 := hk13.fr (.n 6 <| .nil)
         clear hst12 hfr12 hk13
         refine hK52 _ _ ?_
         refine zK ?_
         repeat (with_reducible first | refine zI ?_ | refine zF ?_)
         exact zL hst13 hfr13 rfl (.tmp rfl <| .nil) (⟨_, rfl, fun _ => ⟨hk, fun h12 h14 => by first | (exfalso; omega) | exact List.eq_nil_of_length_eq_zero (by omega)⟩⟩)
set_option maxHeartbeats 400000 in
theorem withN_c {w : World} {m : Mem} {o_l : Option Addr} {c_l : Nat} {l : List Str} {o_k : Option Addr} {c_k : Nat} {k : List Str} (hA : Agree w m) (h_l : Strs m o_l l.length c_l l) (h_k : Strs m o_k k.length c_k k) (hbig : l.length + k.length ≤ 1073741824) : FnV Tryd.prog 64 #[.slice o_l l.length c_l, .slice o_k k.length c_k] w m (fun _ m v => (MP.strs (l ++ k)).p m v) := by
 have hb_l := h_l.big; have hc_l := h_l.cap
 have hb_k := h_k.big; have hc_k := h_k.cap
 refine zX (vs := [_, _]) func64 rfl rfl rfl fun a0 hfr0 => ?_
 have hst0 := zW hA (zf [] _ w m)
 have hM : MLe m m := MLe.refl m
 refine zB fun _ hK1 => ?_
 refine rp0 hst0 hfr0 (.cons rfl (zC rfl) <| .nil) fun a1 w1 m1 hst1 hle1 hk1 => ?_
 have hfr1 := hk1.fr (.o 0 <| .o 1 <| .nil)
 replace h_l := h_l.mono hle1
 replace h_k := h_k.mono hle1
 clear hst0 hfr0 hk1
 refine hK1 _ _ ?_
 refine zB fun _ hK2 => ?_
 obtain ⟨cs_3, hrw_3, hrd_3, hcl_3⟩ := h_l.reads
 obtain ⟨cs_4, hrw_4, hrd_4, hcl_4⟩ := h_k.reads
 replace hst1 := hst1.more (r := .free) trivial List.nodup_nil (by simp [Res.blocks])
 refine ra0 (tch := [(2, 0, (fun v => .row (nz v) _ _ _ _)), (4, 0, (fun v => .row (nz v) _ _ _ _))]) hst1 hfr1 (.cons rfl (zDi underlying27 sizeOf9) <| .cons rfl (zD rfl) <| .consT rfl rfl (fun _ => rfl) rfl (zU 5 rfl rfl rfl fun y5 => zDd (size := 1) (bytes := 16) rfl rfl (fun _ => .inr ⟨rfl, rfl, rfl, rfl⟩) underlying27 type9 rfl rfl rfl rfl (fun w m hK => hrw_3.mono (KC.le hK)) hcl_3 (by decide) hrd_3.one (by simp only [maxLen]; omega) (by omega)) <| .cons rfl (zD rfl) <| .consT rfl rfl (fun _ => rfl) rfl (zU 7 rfl rfl rfl fun y7 => zDd (size := 1) (bytes := 16) rfl rfl (fun _ => .inl rfl) underlying27 type9 rfl rfl rfl rfl (fun w m hK => hrw_4.mono (KC.le hK)) hcl_4 (by decide) hrd_4.one (by simp only [maxLen]; omega) (by omega)) <| .consA 9 rfl rfl <| .nil) fun a2 w2 m2 hst2 hle2 hk2 => ?_
 have hfr2 := hk2.fr (.nil)
 obtain ⟨⟨oz3, cz3⟩, e5, hrz3, hcz3⟩ := hk2.ex 7 rfl
 replace e5 : zZ a2 7 = .slice oz3 (l).length cz3 := by rw [e5]; refine congrArg (fun q => Value.slice _ q _) ?_; first | omega | (simp only [List.length_append, List.length_cons, List.length_nil, List.nil_append, List.length_take, List.length_drop]; try omega)
 obtain ⟨⟨oz4, cz4⟩, e6, hrz4, hcz4⟩ := hk2.ex 9 rfl
 replace e6 : zZ a2 9 = .slice oz4 ((l ++ k)).length cz4 := by rw [e6]; refine congrArg (fun q => Value.slice _ q _) ?_; first | omega | (simp only [List.length_append, List.length_cons, List.length_nil, List.nil_append, List.length_take, List.length_drop]; try omega)
 replace hfr2 := hfr2.cons (hk2.same 4 rfl e6)
 replace hst2 := hst2.fin (L' := [_]) (.cons e5 <| .cons e6 <| .nil)
 replace hrd_3 := hrd_3.mono hle2
 replace hrd_4 := hrd_4.mono hle2
 clear hst1 hfr1 hk2
 have hsz4 : Strs m2 oz4 ((l ++ k)).length cz4 (l ++ k) := Reads.sl ((Reads.nil.app hrd_3).app hrd_4) hrz4 (by decide) rfl (by have h := hcz4; first | omega | (simp only [List.length_append, List.length_cons, List.length_nil, List.nil_append, List.length_take, List.length_drop] at h ⊢; omega)) (by first | omega | (simp only [List.length_append, List.length_cons, List.length_nil, List.nil_append, List.length_take, List.length_drop]; omega))
 refine hK2 _ _ ?_
 refine zK ?_
 repeat (with_reducible first | refine zI ?_ | refine zF ?_)
 exact zL hst2 hfr2 rfl (.tmp rfl <| .nil) (⟨(oz4, cz4), rfl, hsz4⟩)
set_option maxHeartbeats 400000 in
theorem bound_c {w : World} {m : Mem} {t : Tm} {vs_t : List Value} {i : Nat} (hA : Agree w m) (h_t : TmR m t vs_t) : FnV Tryd.prog 65 #[.agg vs_t.toArray, .int .i64 (i : Int)] w m (fun _ m v => (MP.strs (z1 t.kind t.name t.param i)).p m v) := by
 obtain ⟨⟨oK_t, cK_t, oA_t, cA_t, oR_t, cR_t, t0_t, t1_t, t2_t, t3_t, t4_t, t5_t, u0_t, u1_t, u2_t, u3_t, u4_t, u5_t⟩, rfl, hon_t, hkk_t, haa_t, hrr_t⟩ := h_t.open_
 dsimp only at hkk_t haa_t hrr_t
 have hbg_t := hkk_t.big; have hcp_t := hkk_t.cap; have hbh_t := haa_t.big; have hcq_t := haa_t.cap
 refine zX (vs := [_, _]) func65 rfl rfl rfl fun a0 hfr0 => ?_
 have hst0 := zW hA (zf [] _ w m)
 have hM : MLe m m := MLe.refl m
 refine zB fun _ hK1 => ?_
 refine rp0 hst0 hfr0 (.cons rfl (zv rfl rfl) <| .cons rfl (zC rfl) <| .nil) fun a1 w1 m1 hst1 hle1 hk1 => ?_
 have hfr1 := hk1.fr (.o 1 <| .nil)
 obtain ⟨g2, e2, hc2⟩ := hk1.ex 2 rfl
 replace hfr1 := hfr1.cons e2
 clear hst0 hfr0 hk1
 refine hK1 _ _ ?_
 refine zB fun _ hK3 => ?_
 refine zB fun _ hK4 => ?_
 refine rp0 hst1 hfr1 (.cons rfl (zA (off := 0) rfl underlying33 rfl rfl sizeOf3 rfl) <| .cons rfl (zE rfl hc2 isAgg3 rfl) <| .nil) fun a2 w2 m2 hst2 hle2 hk2 => ?_
 have hfr2 := hk2.fr (.o 1 <| .o 2 <| .n 6 <| .nil)
 replace hc2 := hc2.mono hle2
 clear hst1 hfr1 hk2
 refine hK4 _ _ ?_
 refine zN ?_
 refine zB fun _ hK5 => ?_
 refine rp0 hst2 hfr2 (.cons rfl (zV rfl rfl) <| .cons rfl (zC rfl) <| .nil) fun a3 w3 m3 hst3 hle3 hk3 => ?_
 have hfr3 := hk3.fr (.o 1 <| .o 2 <| .o 6 <| .n 7 <| .nil)
 replace hc2 := hc2.mono hle3
 clear hst2 hfr2 hk3
 refine hK5 _ _ ?_
 refine zG hfr3 rfl rfl (fun hb7 => ?_) (fun hb7 => ?_)
 ·try simp only [nqs] at hb7
  refine zB fun _ hK6 => ?_
  refine ra0 (tch := []) hst3 hfr3 (.cons rfl (zA (off := 2) rfl underlying33 rfl rfl sizeOf9 rfl) <| .cons rfl (zE rfl hc2 isAgg9 rfl) <| .cons rfl (ZB (.cons rfl <| .nil) underlying27 sizeOf9 zeroValue9 rfl rfl rfl rfl) <| .consA 11 rfl rfl <| .nil) fun a4 w4 m4 hst4 hle4 hk4 => ?_
  have hfr4 := hk4.fr (.nil)
  obtain ⟨g9, e7, hg9⟩ := hk4.ex 11 rfl
  replace hfr4 := hfr4.cons (hk4.same 4 rfl e7)
  clear hst3 hfr3 hk4
  refine hK6 _ _ ?_
  refine zK ?_
  repeat (with_reducible first | refine zI ?_ | refine zF ?_)
  exact zL hst4 hfr4 rfl (.tmp rfl <| .nil) (⟨(some ⟨g9, 0, none⟩, 1), by rw [show z1 t.kind t.name t.param i = [t.name] from by unfold z1; simp_all]; rfl, by rw [show z1 t.kind t.name t.param i = [t.name] from by unfold z1; simp_all]; exact Sl.one (vs := [_]) hg9 rfl rfl⟩)
 ·try simp only [nqs] at hb7
  refine zB fun _ hK9 => ?_
  refine rp0 hst3 hfr3 (.cons rfl (zV rfl rfl) <| .cons rfl (zC rfl) <| .nil) fun a4 w4 m4 hst4 hle4 hk4 => ?_
  have hfr4 := hk4.fr (.o 1 <| .o 2 <| .o 6 <| .n 12 <| .nil)
  clear hst3 hfr3 hk4
  refine hK9 _ _ ?_
  refine zG hfr4 rfl rfl (fun hb12 => ?_) (fun hb12 => ?_)
  ·try simp only [nqs] at hb12
   refine zB fun _ hK10 => ?_
   refine rp0 hst4 hfr4 (.cons rfl (zD rfl) <| .cons rfl (zV rfl rfl) <| .nil) fun a5 w5 m5 hst5 hle5 hk5 => ?_
   have hfr5 := hk5.fr (.o 2 <| .n 15 <| .nil)
   clear hst4 hfr4 hk5
   refine hK10 _ _ ?_
   refine zG hfr5 rfl rfl (fun hb15 => ?_) (fun hb15 => ?_)
   ·try simp only [nqs] at hb15
    refine zB fun _ hK11 => ?_
    have zq1 := hle4.trans hle5
    replace hc2 := hc2.mono zq1
    refine ra0 (tch := []) hst5 hfr5 (.cons rfl (zA (off := 2) rfl underlying33 rfl rfl sizeOf9 rfl) <| .cons rfl (zE rfl hc2 isAgg9 rfl) <| .cons rfl (ZB (.cons rfl <| .nil) underlying27 sizeOf9 zeroValue9 rfl rfl rfl rfl) <| .consA 18 rfl rfl <| .nil) fun a6 w6 m6 hst6 hle6 hk6 => ?_
    have hfr6 := hk6.fr (.nil)
    obtain ⟨g9, e12, hg9⟩ := hk6.ex 18 rfl
    replace hfr6 := hfr6.cons (hk6.same 4 rfl e12)
    clear hst5 hfr5 hk6
    refine hK11 _ _ ?_
    refine zK ?_
    repeat (with_reducible first | refine zI ?_ | refine zF ?_)
    exact zL hst6 hfr6 rfl (.tmp rfl <| .nil) (⟨(some ⟨g9, 0, none⟩, 1), by rw [show z1 t.kind t.name t.param i = [t.name] from by unfold z1; rw [if_neg hb7, if_pos hb12, if_pos (by omega)]]; rfl, by rw [show z1 t.kind t.name t.param i = [t.name] from by unfold z1; rw [if_neg hb7, if_pos hb12, if_pos (by omega)]]; exact Sl.one (vs := [_]) hg9 rfl rfl⟩)
   ·try simp only [nqs] at hb15
    refine zJ ?_
    refine hK3 _ _ ?_
    refine zB fun _ hK14 => ?_
    refine rp0 hst5 hfr5 (.cons rfl (zC rfl) <| .nil) fun a6 w6 m6 hst6 hle6 hk6 => ?_
    have hfr6 := hk6.fr (.n 4 <| .nil)
    clear hst5 hfr5 hk6
    refine hK14 _ _ ?_
    refine zK ?_
    repeat (with_reducible first | refine zI ?_ | refine zF ?_)
    exact zL hst6 hfr6 rfl (.tmp rfl <| .nil) (⟨(none, 0), by rw [show z1 t.kind t.name t.param i = [] from by unfold z1; first | rw [if_neg hb7, if_pos hb12, if_neg (by omega)] | rw [if_neg hb7, if_neg hb12, if_neg hb19]]; rfl, by rw [show z1 t.kind t.name t.param i = [] from by unfold z1; first | rw [if_neg hb7, if_pos hb12, if_neg (by omega)] | rw [if_neg hb7, if_neg hb12, if_neg hb19]]; exact Sl.empty⟩)
  ·try simp only [nqs] at hb12
   refine zB fun _ hK16 => ?_
   refine rp0 hst4 hfr4 (.cons rfl (zV rfl rfl) <| .cons rfl (zC rfl) <| .nil) fun a5 w5 m5 hst5 hle5 hk5 => ?_
   have hfr5 := hk5.fr (.o 1 <| .o 2 <| .n 19 <| .nil)
   clear hst4 hfr4 hk5
   refine hK16 _ _ ?_
   refine zG hfr5 rfl rfl (fun hb19 => ?_) (fun hb19 => ?_)
   ·try simp only [nqs] at hb19
    refine zB fun _ hK17 => ?_
    refine zB fun _ hK18 => ?_
    refine rp0 hst5 hfr5 (.cons rfl (zD rfl) <| .cons rfl (zV rfl rfl) <| .nil) fun a6 w6 m6 hst6 hle6 hk6 => ?_
    have hfr6 := hk6.fr (.o 2 <| .n 22 <| .nil)
    clear hst5 hfr5 hk6
    refine hK18 _ _ ?_
    refine zG hfr6 rfl rfl (fun hb22 => ?_) (fun hb22 => ?_)
    ·try simp only [nqs] at hb22
     refine zB fun _ hK19 => ?_
     have zq2 := hle5.trans hle6
     have zq3 := hle4.trans zq2
     replace hc2 := hc2.mono zq3
     refine ra0 (tch := []) hst6 hfr6 (.cons rfl (zA (off := 2) rfl underlying33 rfl rfl sizeOf9 rfl) <| .cons rfl (zE rfl hc2 isAgg9 rfl) <| .cons rfl (zA (off := 3) rfl underlying33 rfl rfl sizeOf9 rfl) <| .cons rfl (zE rfl hc2 isAgg9 rfl) <| .cons rfl (ZB (.cons rfl <| .cons rfl <| .nil) underlying27 sizeOf9 zeroValue9 rfl rfl rfl rfl) <| .consA 27 rfl rfl <| .nil) fun a7 w7 m7 hst7 hle7 hk7 => ?_
     have hfr7 := hk7.fr (.nil)
     obtain ⟨g9, e20, hg9⟩ := hk7.ex 27 rfl
     replace hfr7 := hfr7.cons (hk7.same 4 rfl e20)
     clear hst6 hfr6 hk7
     refine hK19 _ _ ?_
     refine zK ?_
     repeat (with_reducible first | refine zI ?_ | refine zF ?_)
     exact zL hst7 hfr7 rfl (.tmp rfl <| .nil) (⟨(some ⟨g9, 0, none⟩, 2), by rw [show z1 t.kind t.name t.param i = [t.name, t.param] from by unfold z1; rw [if_neg hb7, if_neg hb12, if_pos hb19, if_pos (by omega)]]; rfl, by rw [show z1 t.kind t.name t.param i = [t.name, t.param] from by unfold z1; rw [if_neg hb7, if_neg hb12, if_pos hb19, if_pos (by omega)]]; exact Sl.two (vs := [_]) (us := [_]) hg9 rfl rfl rfl rfl⟩)
    ·try simp only [nqs] at hb22
     refine zJ ?_
     refine hK17 _ _ ?_
     refine zB fun _ hK22 => ?_
     have zq4 := hle5.trans hle6
     have zq5 := hle4.trans zq4
     replace hc2 := hc2.mono zq5
     refine ra0 (tch := []) hst6 hfr6 (.cons rfl (zA (off := 2) rfl underlying33 rfl rfl sizeOf9 rfl) <| .cons rfl (zE rfl hc2 isAgg9 rfl) <| .cons rfl (ZB (.cons rfl <| .nil) underlying27 sizeOf9 zeroValue9 rfl rfl rfl rfl) <| .consA 30 rfl rfl <| .nil) fun a7 w7 m7 hst7 hle7 hk7 => ?_
     have hfr7 := hk7.fr (.nil)
     obtain ⟨g9, e23, hg9⟩ := hk7.ex 30 rfl
     replace hfr7 := hfr7.cons (hk7.same 4 rfl e23)
     clear hst6 hfr6 hk7
     refine hK22 _ _ ?_
     refine zK ?_
     repeat (with_reducible first | refine zI ?_ | refine zF ?_)
     exact zL hst7 hfr7 rfl (.tmp rfl <| .nil) (⟨(some ⟨g9, 0, none⟩, 1), by rw [show z1 t.kind t.name t.param i = [t.name] from by unfold z1; rw [if_neg hb7, if_neg hb12, if_pos hb19, if_neg (by omega)]]; rfl, by rw [show z1 t.kind t.name t.param i = [t.name] from by unfold z1; rw [if_neg hb7, if_neg hb12, if_pos hb19, if_neg (by omega)]]; exact Sl.one (vs := [_]) hg9 rfl rfl⟩)
   ·try simp only [nqs] at hb19
    refine zJ ?_
    refine hK3 _ _ ?_
    refine zB fun _ hK25 => ?_
    refine rp0 hst5 hfr5 (.cons rfl (zC rfl) <| .nil) fun a6 w6 m6 hst6 hle6 hk6 => ?_
    have hfr6 := hk6.fr (.n 4 <| .nil)
    clear hst5 hfr5 hk6
    refine hK25 _ _ ?_
    refine zK ?_
    repeat (with_reducible first | refine zI ?_ | refine zF ?_)
    exact zL hst6 hfr6 rfl (.tmp rfl <| .nil) (⟨(none, 0), by rw [show z1 t.kind t.name t.param i = [] from by unfold z1; first | rw [if_neg hb7, if_pos hb12, if_neg (by omega)] | rw [if_neg hb7, if_neg hb12, if_neg hb19]]; rfl, by rw [show z1 t.kind t.name t.param i = [] from by unfold z1; first | rw [if_neg hb7, if_pos hb12, if_neg (by omega)] | rw [if_neg hb7, if_neg hb12, if_neg hb19]]; exact Sl.empty⟩)
theorem boundR_len (k : Int) (s p : Str) (i : Nat) : (z1 k s p i).length ≤ 2 := by unfold z1; split; simp; split; split <;> simp; split; split <;> simp; simp
theorem all_take {α : Type} {p : α → Prop} {l : List α} {y : Nat} {x : α} (h : ∀ u ∈ l.take y, p u) (e : l.take (y + 1) = l.take y ++ [x]) (hx : p x) : ∀ u ∈ l.take (y + 1), p u := by
 intro u hu
 rw [e] at hu
 rcases List.mem_append.1 hu with h1 | h1
 ·exact h u h1
 ·rw [List.mem_singleton] at h1; subst h1; exact hx
abbrev term_G (t : Tm) : Prop := ∀ {w : World} {m : Mem} {p : Pg} {vs_p : List Value} {vs_t : List Value} {o_l : Option Addr} {c_l : Nat} {l : List Str} (hA : Agree w m) (h_p : PgR m p vs_p) (h_t : TmR m t vs_t) (h_l : Strs m o_l l.length c_l l) (hbo : zBA p.effects ≤ 1000000000) (hbig : l.length + zt t ≤ 1000000000), FnV Tryd.prog 51 #[.agg vs_p.toArray, .agg vs_t.toArray, .slice o_l l.length c_l] w m (fun _ m v => (MP.termB t).p m v)
set_option maxHeartbeats 800000 in
theorem term_s {t : Tm} (ihk : ∀ u ∈ t.kids, term_G u) (iha : ∀ a ∈ t.arms, term_G a.body) {w : World} {m : Mem} {p : Pg} {vs_p : List Value} {vs_t : List Value} {o_l : Option Addr} {c_l : Nat} {l : List Str} (hA : Agree w m) (h_p : PgR m p vs_p) (h_t : TmR m t vs_t) (h_l : Strs m o_l l.length c_l l) (hbo : zBA p.effects ≤ 1000000000) (hbig : l.length + zt t ≤ 1000000000) : FnV Tryd.prog 51 #[.agg vs_p.toArray, .agg vs_t.toArray, .slice o_l l.length c_l] w m (fun _ m v => (MP.termB t).p m v) := by
 obtain ⟨oE_p, cE_p, oD_p, cD_p, bs_p, rfl, hef_p, hda_p, hpb_p⟩ := id h_p
 have hbe_p := hef_p.big; have hce_p := hef_p.cap; have hbda_p := hda_p.big; have hcd_p := hda_p.cap
 obtain ⟨⟨oK_pb, cK_pb, oA_pb, cA_pb, oR_pb, cR_pb, t0_pb, t1_pb, t2_pb, t3_pb, t4_pb, t5_pb, u0_pb, u1_pb, u2_pb, u3_pb, u4_pb, u5_pb⟩, rfl, hon_pb, hkk_pb, haa_pb, hrr_pb⟩ := hpb_p.open_
 dsimp only at hkk_pb haa_pb hrr_pb
 have hbg_pb := hkk_pb.big; have hcp_pb := hkk_pb.cap; have hbh_pb := haa_pb.big; have hcq_pb := haa_pb.cap
 obtain ⟨⟨oK_t, cK_t, oA_t, cA_t, oR_t, cR_t, t0_t, t1_t, t2_t, t3_t, t4_t, t5_t, u0_t, u1_t, u2_t, u3_t, u4_t, u5_t⟩, rfl, hon_t, hkk_t, haa_t, hrr_t⟩ := h_t.open_
 dsimp only at hkk_t haa_t hrr_t
 have hbg_t := hkk_t.big; have hcp_t := hkk_t.cap; have hbh_t := haa_t.big; have hcq_t := haa_t.cap
 have hb_l := h_l.big; have hc_l := h_l.cap
 refine zX (vs := [_, _, _]) func51 rfl rfl rfl fun a0 hfr0 => ?_
 have hst0 := zW hA (zf [] _ w m)
 have hM : MLe m m := MLe.refl m
 have hbk := fun u (hu : u ∈ t.kids) => bulk_kid hu
 have hba := fun a (ha : a ∈ t.arms) => bulk_arm ha
 refine zB fun _ hK1 => ?_
 refine rp0 hst0 hfr0 (.cons rfl (zv rfl rfl) <| .cons rfl (zv rfl rfl) <| .cons rfl (zC rfl) <| .cons rfl (zC rfl) <| .nil) fun a1 w1 m1 hst1 hle1 hk1 => ?_
 have hfr1 := hk1.fr (.o 2 <| .nil)
 obtain ⟨g2, e2, hc3⟩ := hk1.ex 3 rfl
 replace hfr1 := hfr1.cons e2
 obtain ⟨g3, e3, hc4⟩ := hk1.ex 4 rfl
 replace hfr1 := hfr1.cons e3
 replace h_p := h_p.mono hle1
 replace h_t := h_t.mono hle1
 replace hkk_t := hkk_t.mono hle1
 replace haa_t := haa_t.mono hle1
 replace h_l := h_l.mono hle1
 clear hst0 hfr0 hk1
 refine hK1 _ _ ?_
 refine zB fun _ hK4 => ?_
 refine zB fun _ hK5 => ?_
 refine rp0 hst1 hfr1 (.cons rfl (zO rfl hc3 isAgg35 sizeOf35 rfl rfl) <| .cons rfl (zO rfl hc4 isAgg33 sizeOf33 rfl rfl) <| .cons rfl (zD rfl) <| .cons rfl (zi (φ := MP.oneB t) rfl (.cons rfl <| .cons rfl <| .cons rfl <| .nil) call63 (fun w m hK => by have hle_ := KC.le hK; have hA := KC.agree hK; have h_p := h_p.mono hle_; have h_t := h_t.mono hle_; have h_l := h_l.mono hle_; exact FnG.mono (one_c hA h_p h_t h_l hbo) fun _ _ _ _ h => h)) <| .cons rfl (zh 17 rfl rfl rfl fun y17 => Zn rfl) <| .nil) fun a2 w2 m2 hst2 hle2 hk2 => ?_
 have hfr2 := hk2.fr (.o 2 <| .o 3 <| .o 4 <| .nil)
 obtain ⟨b18, e6, hr18⟩ := hk2.ex 18 rfl
 replace hfr2 := hfr2.cons e6
 replace h_p := h_p.mono hle2
 replace h_t := h_t.mono hle2
 replace hkk_t := hkk_t.mono hle2
 replace haa_t := haa_t.mono hle2
 replace h_l := h_l.mono hle2
 replace hc3 := hc3.mono hle2
 replace hc4 := hc4.mono hle2
 clear hst1 hfr1 hk2
 refine hK5 _ _ ?_
 refine zG hfr2 rfl rfl (fun hb18 => ?_) (fun hb18 => ?_)
 ·try simp only [nqs] at hb18
  refine zB fun _ hK7 => ?_
  refine rp0 hst2 hfr2 (.cons rfl (zA (off := 1) rfl underlying33 rfl rfl sizeOf3 rfl) <| .cons rfl (zE rfl hc4 isAgg3 rfl) <| .cons rfl (zC rfl) <| .cons rfl (zC rfl) <| .nil) fun a3 w3 m3 hst3 hle3 hk3 => ?_
  have hfr3 := hk3.fr (.n 6 <| .n 7 <| .nil)
  clear hst2 hfr2 hk3
  refine hK7 _ _ ?_
  refine zK ?_
  repeat (with_reducible first | refine zI ?_ | refine zF ?_)
  exact zL hst3 hfr3 rfl (.tmp rfl <| .tmp rfl <| .nil) (⟨(_, false), rfl, fun h => by cases h⟩)
 ·try simp only [nqs] at hb18
  have hone9 : zCy t := hr18 (cast (Bool.not_eq_false' b18) hb18)
  refine zJ ?_
  refine hK4 _ _ ?_
  refine zB fun _ hK9 => ?_
  refine zB fun _ hK10 => ?_
  refine rp0 hst2 hfr2 (.cons rfl (zC rfl) <| .nil) fun a3 w3 m3 hst3 hle3 hk3 => ?_
  have hfr3 := hk3.fr (.o 2 <| .o 3 <| .o 4 <| .n 8 <| .nil)
  clear hst2 hfr2 hk3
  refine hK10 _ _ ?_
  refine zN ?_
  refine ze (T := [(2, _), (3, _), (4, _)]) (fun (y : Nat) => ([(8, .int .i64 (y : Int))] : List (Nat × Value))) (fun _ => _) (fun (y : Nat) m => (y ≤ t.kids.length) ∧ (∀ u ∈ t.kids.take y, RtT u)) (fun y => t.kids.length - y) (0) ⟨hst3, MLe.refl _, hfr3.sub (.c <| .c <| .c <| .c <| .nil), ⟨Nat.zero_le _, by simp⟩⟩ fun y a4 w4 m4 hh4 => ?_
  have hst4 := hh4.st; have hle4 := hh4.le; have hfr4 := hh4.fr; have hrel := hh4.rel; clear hh4
  clear hst3 hfr3
  obtain ⟨hyn, hall⟩ := hrel
  have hlh4 := hle4
  refine zB fun _ hK12 => ?_
  refine zB fun _ hK13 => ?_
  have zq1 := hle3.trans hle4
  replace hc4 := hc4.mono zq1
  refine rp0 hst4 hfr4 (.cons rfl (zD rfl) <| .cons rfl (zA (off := 5) rfl underlying33 rfl rfl sizeOf24 rfl) <| .cons rfl (zE rfl hc4 isAgg24 rfl) <| .cons rfl (zY rfl underlying24) <| .cons rfl (z7 rfl rfl) <| .nil) fun a5 w5 m5 hst5 hle5 hk5 => ?_
  have hfr5 := hk5.fr (.o 8 <| .o 2 <| .o 3 <| .o 4 <| .n 25 <| .nil)
  clear hst4 hfr4 hk5
  refine hK13 _ _ ?_
  refine zG hfr5 rfl rfl (fun hb25 => ?_) (fun hb25 => ?_)
  ·try simp only [nqs] at hb25
   refine zJ ?_
   refine hK12 _ _ ?_
   refine zB fun _ hK14 => ?_
   refine zN ?_
   refine zB fun _ hK15 => ?_
   have hbl9 := boundR_len t.kind t.name t.param y
   have zq2 := zq1.trans hle5
   replace hkk_t := hkk_t.mono zq2
   obtain ⟨p16, vs16, x16, ho16, hd16, hm_x16, ht16, hcv16, hl16, hv16⟩ := hkk_t.nth (k := y) (by omega)
   cases ho16
   obtain ⟨⟨oK16, cK16, oA16, cA16, oR16, cR16, t016, t116, t216, t316, t416, t516, u016, u116, u216, u316, u416, u516⟩, rfl, hon16, hkk16, haa16, hrr16⟩ := hv16.open_
   dsimp only at hkk16 haa16 hrr16
   have hbg16 := hkk16.big; have hcp16 := hkk16.cap; have hbh16 := haa16.big; have hcq16 := haa16.cap
   replace h_p := h_p.mono zq2
   replace h_t := h_t.mono zq2
   replace h_l := h_l.mono zq2
   replace hc3 := hc3.mono zq2
   replace hc4 := hc4.mono hle5
   refine zz (tch := []) (fun _ => mixed) hst5 hfr5 (by kernel_rfl) (by kernel_rfl) (by kernel_rfl) (.cons rfl (zO rfl hc3 isAgg35 sizeOf35 rfl rfl) <| .cons rfl (zA (off := 5) rfl underlying33 rfl rfl sizeOf24 rfl) <| .cons rfl (zE rfl hc4 isAgg24 rfl) <| .cons rfl (zD rfl) <| .cons rfl (zH (k := y) rfl rfl underlying24 sizeOf33 rfl (by omega)) <| .cons rfl (zO rfl hcv16 isAgg33 sizeOf33 rfl rfl) <| .cons rfl (zD rfl) <| .cons rfl (zO rfl hc4 isAgg33 sizeOf33 rfl rfl) <| .cons rfl (zD rfl) <| .cons rfl (zi (φ := MP.strs (z1 t.kind t.name t.param y)) rfl (.cons rfl <| .cons rfl <| .nil) call65 (fun w m hK => by have hle_ := KC.le hK; have hA := KC.agree hK; have h_t := h_t.mono hle_; exact FnG.mono (bound_c (t := t) (i := y) hA h_t) fun _ _ _ _ h => h)) <| .cons rfl (Z6 38 rfl rfl rfl fun y38 => zi (φ := MP.strs (l ++ z1 t.kind t.name t.param y)) rfl (.cons rfl <| .cons rfl <| .nil) call64 (fun w m hK => by have hle_ := KC.le hK; have hA := KC.agree hK; have hr0_ := hK.2; have h_l := h_l.mono hle_; exact FnG.mono (withN_c (l := l) (k := z1 t.kind t.name t.param y) hA h_l hr0_ (by have := hbk _ hm_x16; omega)) fun _ _ _ _ h => h)) <| .cons rfl (Z6 39 rfl rfl rfl fun y39 => zi (φ := MP.termB x16) rfl (.cons rfl <| .cons rfl <| .cons rfl <| .nil) call51 (fun w m hK => by have hle_ := KC.le hK; have hA := KC.agree hK; have hr0_ := hK.2; have h_p := h_p.mono hle_; have hv16 := hv16.mono hle_; exact FnG.mono (ihk x16 hm_x16 hA h_p hv16 hr0_ hbo (by have := hbk _ hm_x16; rw [List.length_append]; omega)) fun _ _ _ _ h => h)) <| .cons rfl (zh 40 rfl rfl rfl fun y40 => zD rfl) <| .cons rfl (zh 28 rfl rfl rfl fun y28 => zS rfl rfl) <| .cons rfl (zh 28 rfl rfl rfl fun y28 => zS rfl rfl) <| .consA 41 rfl rfl <| .consA 42 rfl rfl <| .nil) fun a6 w6 m6 hst6 hle6 hk6 => ?_
   have hfr6 := hk6.fr (.o 8 <| .o 2 <| .o 3 <| .o 4 <| .nil)
   obtain ⟨⟨a41, b41⟩, e17, _⟩ := hk6.ex 41 rfl
   obtain ⟨⟨a42, b42⟩, e18, hr42⟩ := hk6.ex 42 rfl
   replace hfr6 := hfr6.cons (hk6.same 9 rfl e17)
   replace hfr6 := hfr6.cons (hk6.same 10 rfl e18)
   clear hst5 hfr5 hk6
   refine hK15 _ _ ?_
   refine zB fun _ hK19 => ?_
   refine rp0 hst6 hfr6 (.cons rfl (zD rfl) <| .cons rfl (Zn rfl) <| .nil) fun a7 w7 m7 hst7 hle7 hk7 => ?_
   have hfr7 := hk7.fr (.o 8 <| .o 2 <| .o 3 <| .o 4 <| .o 9 <| .n 44 <| .nil)
   clear hst6 hfr6 hk7
   refine hK19 _ _ ?_
   refine zG hfr7 rfl rfl (fun hb44 => ?_) (fun hb44 => ?_)
   ·try simp only [nqs] at hb44
    refine zB fun _ hK20 => ?_
    refine rp0 hst7 hfr7 (.cons rfl (zD rfl) <| .cons rfl (zC rfl) <| .cons rfl (zC rfl) <| .nil) fun a8 w8 m8 hst8 hle8 hk8 => ?_
    have hfr8 := hk8.fr (.o 8 <| .n 6 <| .n 7 <| .nil)
    clear hst7 hfr7 hk8
    refine hK20 _ _ ?_
    refine zK ?_
    repeat (with_reducible first | refine zI ?_ | refine zF ?_)
    exact zL hst8 hfr8 rfl (.tmp rfl <| .tmp rfl <| .nil) (⟨(_, false), rfl, fun h => by cases h⟩)
   ·try simp only [nqs] at hb44
    refine zJ ?_
    refine hK14 _ _ ?_
    refine rp0 hst7 hfr7 (.cons rfl (zD rfl) <| .cons rfl (zk rfl rfl ⟨by omega, by omega⟩) <| .cons rfl (zC rfl) <| .nil) fun a8 w8 m8 hst8 hle8 hk8 => ?_
    have hfr8 := hk8.fr (.o 2 <| .o 3 <| .o 4 <| .n 8 <| .nil)
    clear hst7 hfr7 hk8
    have zq3 := hle7.trans hle8
    have zq4 := hle6.trans zq3
    have zq5 := hle5.trans zq4
    have hlh8 := hlh4.trans zq5
    exact ⟨y + 1, m8, by show t.kids.length - (y + 1) < t.kids.length - y; omega, ⟨hst8, hlh8, hfr8.sub (.c <| .c <| .c <| .c <| .nil), ⟨by show y + 1 ≤ t.kids.length; omega, all_take hall ht16 (hr42 hb44)⟩⟩⟩
  ·try simp only [nqs] at hb25
   have hge : y = t.kids.length := by omega
   rw [List.take_of_length_le (by omega)] at hall
   have hkk9 := hall
   refine zg ?_
   refine hK9 _ _ ?_
   refine zB fun _ hK22 => ?_
   refine zB fun _ hK23 => ?_
   refine rp0 hst5 hfr5 (.cons rfl (zC rfl) <| .nil) fun a6 w6 m6 hst6 hle6 hk6 => ?_
   have hfr6 := hk6.fr (.o 8 <| .o 2 <| .o 3 <| .o 4 <| .n 11 <| .nil)
   clear hst5 hfr5 hk6
   refine hK23 _ _ ?_
   refine zN ?_
   have zq6 := hle5.trans hle6
   have hlh6 := hlh4.trans zq6
   have hlq24 := hlh6
   refine ze (T := [(8, _), (2, _), (3, _), (4, _)]) (fun (y : Nat) => ([(11, .int .i64 (y : Int))] : List (Nat × Value))) (fun _ => _) (fun (y : Nat) m => (y ≤ t.arms.length) ∧ (∀ u ∈ t.arms.take y, RtT u.body)) (fun y => t.arms.length - y) (0) ⟨hst6, MLe.refl _, hfr6.sub (.c <| .c <| .c <| .c <| .c <| .nil), ⟨Nat.zero_le _, by simp⟩⟩ fun y a7 w7 m7 hh7 => ?_
   have hst7 := hh7.st; have hle7 := hh7.le; have hfr7 := hh7.fr; have hrel := hh7.rel; clear hh7
   clear hst6 hfr6
   obtain ⟨hyn, hall⟩ := hrel
   have hlh7 := hle7
   refine zB fun _ hK25 => ?_
   refine zB fun _ hK26 => ?_
   have zq7 := zq6.trans hle7
   replace hc4 := hc4.mono zq7
   refine rp0 hst7 hfr7 (.cons rfl (zD rfl) <| .cons rfl (zA (off := 6) rfl underlying33 rfl rfl sizeOf25 rfl) <| .cons rfl (zE rfl hc4 isAgg25 rfl) <| .cons rfl (zY rfl underlying25) <| .cons rfl (z7 rfl rfl) <| .nil) fun a8 w8 m8 hst8 hle8 hk8 => ?_
   have hfr8 := hk8.fr (.o 11 <| .o 8 <| .o 2 <| .o 3 <| .o 4 <| .n 50 <| .nil)
   clear hst7 hfr7 hk8
   refine hK26 _ _ ?_
   refine zG hfr8 rfl rfl (fun hb50 => ?_) (fun hb50 => ?_)
   ·try simp only [nqs] at hb50
    refine zJ ?_
    refine hK25 _ _ ?_
    refine zB fun _ hK27 => ?_
    refine zN ?_
    refine zB fun _ hK28 => ?_
    have zq8 := zq7.trans hle8
    have zq9 := zq1.trans zq8
    replace haa_t := haa_t.mono zq9
    obtain ⟨p29, vs29, x29, ho29, hd29, hm_x29, ht29, hcv29, hl29, hv29⟩ := haa_t.nth (k := y) (by omega)
    cases ho29
    obtain ⟨oV29, cV29, bs29, rfl, hva29, hbd29⟩ := hv29.open_
    have hbv29 := hva29.big; have hcv29_ := hva29.cap
    obtain ⟨⟨oK29b, cK29b, oA29b, cA29b, oR29b, cR29b, t029b, t129b, t229b, t329b, t429b, t529b, u029b, u129b, u229b, u329b, u429b, u529b⟩, rfl, hon29b, hkk29b, haa29b, hrr29b⟩ := hbd29.open_
    dsimp only at hkk29b haa29b hrr29b
    have hbg29b := hkk29b.big; have hcp29b := hkk29b.cap; have hbh29b := haa29b.big; have hcq29b := haa29b.cap
    replace h_p := h_p.mono zq9
    replace h_l := h_l.mono zq9
    replace hc3 := hc3.mono zq9
    replace hc4 := hc4.mono hle8
    refine zz (tch := []) (fun _ => mixed) hst8 hfr8 (by kernel_rfl) (by kernel_rfl) (by kernel_rfl) (.cons rfl (zO rfl hc3 isAgg35 sizeOf35 rfl rfl) <| .cons rfl (zA (off := 6) rfl underlying33 rfl rfl sizeOf25 rfl) <| .cons rfl (zE rfl hc4 isAgg25 rfl) <| .cons rfl (zD rfl) <| .cons rfl (zH (k := y) rfl rfl underlying25 sizeOf72 rfl (by omega)) <| .cons rfl (zA (off := 2) rfl underlying72 rfl rfl sizeOf33 rfl) <| .cons rfl (Zt rfl hcv29 isAgg33 sizeOf33 rfl rfl) <| .cons rfl (zD rfl) <| .cons rfl (zA (off := 6) rfl underlying33 rfl rfl sizeOf25 rfl) <| .cons rfl (zE rfl hc4 isAgg25 rfl) <| .cons rfl (zD rfl) <| .cons rfl (zH (k := y) rfl rfl underlying25 sizeOf72 rfl (by omega)) <| .cons rfl (zA (off := 1) rfl underlying72 rfl rfl sizeOf27 rfl) <| .cons rfl (zE rfl hcv29 isAgg27 rfl) <| .cons rfl (zi (φ := MP.strs (l ++ x29.vars)) rfl (.cons rfl <| .cons rfl <| .nil) call64 (fun w m hK => by have hle_ := KC.le hK; have hA := KC.agree hK; have h_l := h_l.mono hle_; have hva29 := hva29.mono hle_; exact FnG.mono (withN_c (l := l) (k := x29.vars) hA h_l hva29 (by have := hba _ hm_x29; omega)) fun _ _ _ _ h => h)) <| .cons rfl (Z6 68 rfl rfl rfl fun y68 => zi (φ := MP.termB x29.body) rfl (.cons rfl <| .cons rfl <| .cons rfl <| .nil) call51 (fun w m hK => by have hle_ := KC.le hK; have hA := KC.agree hK; have hr0_ := hK.2; have h_p := h_p.mono hle_; have hbd29 := hbd29.mono hle_; exact FnG.mono (iha x29 hm_x29 hA h_p hbd29 hr0_ hbo (by have := hba _ hm_x29; rw [List.length_append]; omega)) fun _ _ _ _ h => h)) <| .cons rfl (zh 69 rfl rfl rfl fun y69 => zD rfl) <| .cons rfl (zh 53 rfl rfl rfl fun y53 => zS rfl rfl) <| .cons rfl (zh 53 rfl rfl rfl fun y53 => zS rfl rfl) <| .consA 70 rfl rfl <| .consA 71 rfl rfl <| .nil) fun a9 w9 m9 hst9 hle9 hk9 => ?_
    have hfr9 := hk9.fr (.o 11 <| .o 8 <| .o 2 <| .o 3 <| .o 4 <| .nil)
    obtain ⟨⟨a70, b70⟩, e30, _⟩ := hk9.ex 70 rfl
    obtain ⟨⟨a71, b71⟩, e31, hr71⟩ := hk9.ex 71 rfl
    replace hfr9 := hfr9.cons (hk9.same 12 rfl e30)
    replace hfr9 := hfr9.cons (hk9.same 13 rfl e31)
    clear hst8 hfr8 hk9
    refine hK28 _ _ ?_
    refine zB fun _ hK32 => ?_
    refine rp0 hst9 hfr9 (.cons rfl (zD rfl) <| .cons rfl (Zn rfl) <| .nil) fun a10 w10 m10 hst10 hle10 hk10 => ?_
    have hfr10 := hk10.fr (.o 11 <| .o 8 <| .o 2 <| .o 3 <| .o 4 <| .o 12 <| .n 73 <| .nil)
    clear hst9 hfr9 hk10
    refine hK32 _ _ ?_
    refine zG hfr10 rfl rfl (fun hb73 => ?_) (fun hb73 => ?_)
    ·try simp only [nqs] at hb73
     refine zB fun _ hK33 => ?_
     refine rp0 hst10 hfr10 (.cons rfl (zD rfl) <| .cons rfl (zC rfl) <| .cons rfl (zC rfl) <| .nil) fun a11 w11 m11 hst11 hle11 hk11 => ?_
     have hfr11 := hk11.fr (.o 11 <| .o 8 <| .n 6 <| .n 7 <| .nil)
     clear hst10 hfr10 hk11
     refine hK33 _ _ ?_
     refine zK ?_
     repeat (with_reducible first | refine zI ?_ | refine zF ?_)
     exact zL hst11 hfr11 rfl (.tmp rfl <| .tmp rfl <| .nil) (⟨(_, false), rfl, fun h => by cases h⟩)
    ·try simp only [nqs] at hb73
     refine zJ ?_
     refine hK27 _ _ ?_
     refine rp0 hst10 hfr10 (.cons rfl (zD rfl) <| .cons rfl (zk rfl rfl ⟨by omega, by omega⟩) <| .cons rfl (zC rfl) <| .nil) fun a11 w11 m11 hst11 hle11 hk11 => ?_
     have hfr11 := hk11.fr (.o 8 <| .o 2 <| .o 3 <| .o 4 <| .n 11 <| .nil)
     clear hst10 hfr10 hk11
     have zq10 := hle10.trans hle11
     have zq11 := hle9.trans zq10
     have zq12 := hle8.trans zq11
     have hlh11 := hlh7.trans zq12
     exact ⟨y + 1, m11, by show t.arms.length - (y + 1) < t.arms.length - y; omega, ⟨hst11, hlh11, hfr11.sub (.c <| .c <| .c <| .c <| .c <| .nil), ⟨by show y + 1 ≤ t.arms.length; omega, all_take (p := fun a : Ar => RtT a.body) hall ht29 (hr71 hb73)⟩⟩⟩
   ·try simp only [nqs] at hb50
    have hge : y = t.arms.length := by omega
    rw [List.take_of_length_le (by omega)] at hall
    have haa9 := hall
    refine zg ?_
    refine hK22 _ _ ?_
    refine zB fun _ hK35 => ?_
    refine rp0 hst8 hfr8 (.cons rfl (zC rfl) <| .cons rfl (zC rfl) <| .nil) fun a9 w9 m9 hst9 hle9 hk9 => ?_
    have hfr9 := hk9.fr (.o 11 <| .o 8 <| .n 6 <| .n 7 <| .nil)
    clear hst8 hfr8 hk9
    refine hK35 _ _ ?_
    refine zK ?_
    repeat (with_reducible first | refine zI ?_ | refine zF ?_)
    exact zL hst9 hfr9 rfl (.tmp rfl <| .tmp rfl <| .nil) (⟨(_, true), rfl, fun _ => .mk hone9 hkk9 haa9⟩)
theorem term_c (t : Tm) : term_G t := Tm.rec_ (p := term_G) (fun t ihk iha => term_s ihk iha) t
set_option maxHeartbeats 400000 in
theorem check_c {w : World} {m : Mem} {p : Pg} {vs_p : List Value} (hA : Agree w m) (h_p : PgR m p vs_p) (hbo : zBA p.effects ≤ 1000000000) (hbc : consN p.datas ≤ 1000000000) (hbd : p.datas.length ≤ 1000000000) (hbig : zt p.body ≤ 1000000000) : FnV Tryd.prog 35 #[.agg vs_p.toArray] w m (fun _ m v => (MP.chkB p.body).p m v) := by
 obtain ⟨oE_p, cE_p, oD_p, cD_p, bs_p, rfl, hef_p, hda_p, hpb_p⟩ := id h_p
 have hbe_p := hef_p.big; have hce_p := hef_p.cap; have hbda_p := hda_p.big; have hcd_p := hda_p.cap
 obtain ⟨⟨oK_pb, cK_pb, oA_pb, cA_pb, oR_pb, cR_pb, t0_pb, t1_pb, t2_pb, t3_pb, t4_pb, t5_pb, u0_pb, u1_pb, u2_pb, u3_pb, u4_pb, u5_pb⟩, rfl, hon_pb, hkk_pb, haa_pb, hrr_pb⟩ := hpb_p.open_
 dsimp only at hkk_pb haa_pb hrr_pb
 have hbg_pb := hkk_pb.big; have hcp_pb := hkk_pb.cap; have hbh_pb := haa_pb.big; have hcq_pb := haa_pb.cap
 refine zX (vs := [_]) func35 rfl rfl rfl fun a0 hfr0 => ?_
 have hst0 := zW hA (zf [] _ w m)
 have hM : MLe m m := MLe.refl m
 refine zB fun _ hK1 => ?_
 refine rp0 hst0 hfr0 (.cons rfl (zv rfl rfl) <| .cons rfl (zC rfl) <| .cons rfl (zC rfl) <| .nil) fun a1 w1 m1 hst1 hle1 hk1 => ?_
 have hfr1 := hk1.fr (.nil)
 obtain ⟨g2, e2, hc1⟩ := hk1.ex 1 rfl
 replace hfr1 := hfr1.cons e2
 replace h_p := h_p.mono hle1
 replace hpb_p := hpb_p.mono hle1
 clear hst0 hfr0 hk1
 refine hK1 _ _ ?_
 refine zB fun _ hK3 => ?_
 refine ra0 (tch := []) hst1 hfr1 (.cons rfl (zO rfl hc1 isAgg35 sizeOf35 rfl rfl) <| .cons rfl (zi (φ := MP.anyI) rfl (.cons rfl <| .nil) call50 (fun w m hK => by have hle_ := KC.le hK; have hA := KC.agree hK; have h_p := h_p.mono hle_; exact FnG.mono (declared_c hA h_p (by omega) (by omega) (by omega)) fun _ _ _ _ h => h)) <| .consA 8 rfl rfl <| .nil) fun a2 w2 m2 hst2 hle2 hk2 => ?_
 have hfr2 := hk2.fr (.o 1 <| .nil)
 obtain ⟨y4, e4, hy4⟩ := hk2.ex 8 rfl
 replace hfr2 := hfr2.cons (hk2.same 4 rfl e4)
 replace h_p := h_p.mono hle2
 replace hpb_p := hpb_p.mono hle2
 replace hc1 := hc1.mono hle2
 clear hst1 hfr1 hk2
 refine hK3 _ _ ?_
 refine zB fun _ hK5 => ?_
 refine zB fun _ hK6 => ?_
 refine rp0 hst2 hfr2 (.cons rfl (zD rfl) <| .cons rfl (ZP rfl rfl) <| .nil) fun a3 w3 m3 hst3 hle3 hk3 => ?_
 have hfr3 := hk3.fr (.o 1 <| .o 4 <| .n 10 <| .nil)
 replace h_p := h_p.mono hle3
 replace hpb_p := hpb_p.mono hle3
 replace hc1 := hc1.mono hle3
 clear hst2 hfr2 hk3
 refine hK6 _ _ ?_
 refine zG hfr3 rfl rfl (fun hb10 => ?_) (fun hb10 => ?_)
 ·try simp only [nqs] at hb10
  refine zB fun _ hK7 => ?_
  refine rp0 hst3 hfr3 (.cons rfl (zD rfl) <| .cons rfl (zC rfl) <| .cons rfl (zC rfl) <| .nil) fun a4 w4 m4 hst4 hle4 hk4 => ?_
  have hfr4 := hk4.fr (.n 2 <| .n 3 <| .nil)
  clear hst3 hfr3 hk4
  refine hK7 _ _ ?_
  refine zK ?_
  repeat (with_reducible first | refine zI ?_ | refine zF ?_)
  exact zL hst4 hfr4 rfl (.tmp rfl <| .tmp rfl <| .nil) (⟨(_, _), rfl, fun h => absurd h hb10⟩)
 ·try simp only [nqs] at hb10
  refine zJ ?_
  refine hK5 _ _ ?_
  refine zB fun _ hK9 => ?_
  refine ra0 (tch := []) hst3 hfr3 (.cons rfl (zO rfl hc1 isAgg35 sizeOf35 rfl rfl) <| .cons rfl (zA (off := 2) rfl underlying35 rfl rfl sizeOf33 rfl) <| .cons rfl (Zt rfl hc1 isAgg33 sizeOf33 rfl rfl) <| .cons rfl (zi (φ := MP.termB p.body) rfl (.cons rfl <| .cons rfl <| .cons rfl <| .nil) call51 (fun w m hK => by have hle_ := KC.le hK; have hA := KC.agree hK; have h_p := h_p.mono hle_; have hpb_p := hpb_p.mono hle_; exact FnG.mono (term_c p.body (l := []) hA h_p hpb_p Sl.empty hbo (by simp only [List.length_nil]; omega)) fun _ _ _ _ h => h)) <| .cons rfl (zh 16 rfl rfl rfl fun y16 => zD rfl) <| .cons rfl (zh 12 rfl rfl rfl fun y12 => zS rfl rfl) <| .cons rfl (zh 12 rfl rfl rfl fun y12 => zS rfl rfl) <| .consA 17 rfl rfl <| .consA 18 rfl rfl <| .nil) fun a4 w4 m4 hst4 hle4 hk4 => ?_
  have hfr4 := hk4.fr (.nil)
  obtain ⟨⟨a17, b17⟩, e10, _⟩ := hk4.ex 17 rfl
  obtain ⟨⟨a18, b18⟩, e11, hr18⟩ := hk4.ex 18 rfl
  replace hfr4 := hfr4.cons (hk4.same 5 rfl e10)
  replace hfr4 := hfr4.cons (hk4.same 6 rfl e11)
  clear hst3 hfr3 hk4
  refine hK9 _ _ ?_
  refine zB fun _ hK12 => ?_
  refine zB fun _ hK13 => ?_
  refine rp0 hst4 hfr4 (.cons rfl (zD rfl) <| .cons rfl (Zn rfl) <| .nil) fun a5 w5 m5 hst5 hle5 hk5 => ?_
  have hfr5 := hk5.fr (.o 5 <| .n 20 <| .nil)
  clear hst4 hfr4 hk5
  refine hK13 _ _ ?_
  refine zG hfr5 rfl rfl (fun hb20 => ?_) (fun hb20 => ?_)
  ·try simp only [nqs] at hb20
   refine zB fun _ hK14 => ?_
   refine rp0 hst5 hfr5 (.cons rfl (zD rfl) <| .cons rfl (zC rfl) <| .cons rfl (zC rfl) <| .nil) fun a6 w6 m6 hst6 hle6 hk6 => ?_
   have hfr6 := hk6.fr (.n 2 <| .n 3 <| .nil)
   clear hst5 hfr5 hk6
   refine hK14 _ _ ?_
   refine zK ?_
   repeat (with_reducible first | refine zI ?_ | refine zF ?_)
   exact zL hst6 hfr6 rfl (.tmp rfl <| .tmp rfl <| .nil) (⟨(_, 4), rfl, fun h => by cases h⟩)
  ·try simp only [nqs] at hb20
   refine zJ ?_
   refine hK12 _ _ ?_
   refine zB fun _ hK16 => ?_
   refine rp0 hst5 hfr5 (.cons rfl (zC rfl) <| .cons rfl (zC rfl) <| .nil) fun a6 w6 m6 hst6 hle6 hk6 => ?_
   have hfr6 := hk6.fr (.n 2 <| .n 3 <| .nil)
   clear hst5 hfr5 hk6
   refine hK16 _ _ ?_
   refine zK ?_
   repeat (with_reducible first | refine zI ?_ | refine zF ?_)
   exact zL hst6 hfr6 rfl (.tmp rfl <| .tmp rfl <| .nil) (⟨(_, 0), rfl, fun _ => hr18 hb20⟩)
abbrev zDQ (t : Tm) : Prop := ∀ {w : World} {m : Mem} {vs_t : List Value} (hA : Agree w m) (h_t : TmR m t vs_t) (hb : zP t ≤ 1073741824), FnV Tryd.prog 34 #[.agg vs_t.toArray] w m (fun _ _ v => v = .int .i64 (zP t : Int))
set_option maxHeartbeats 400000 in
theorem count_s {t : Tm} (ihk : ∀ u ∈ t.kids, zDQ u) (iha : ∀ a ∈ t.arms, zDQ a.body) {w : World} {m : Mem} {vs_t : List Value} (hA : Agree w m) (h_t : TmR m t vs_t) (hb : zP t ≤ 1073741824) : FnV Tryd.prog 34 #[.agg vs_t.toArray] w m (fun _ _ v => v = .int .i64 (zP t : Int)) := by
 obtain ⟨⟨oK_t, cK_t, oA_t, cA_t, oR_t, cR_t, t0_t, t1_t, t2_t, t3_t, t4_t, t5_t, u0_t, u1_t, u2_t, u3_t, u4_t, u5_t⟩, rfl, hon_t, hkk_t, haa_t, hrr_t⟩ := h_t.open_
 dsimp only at hkk_t haa_t hrr_t
 have hbg_t := hkk_t.big; have hcp_t := hkk_t.cap; have hbh_t := haa_t.big; have hcq_t := haa_t.cap
 refine zX (vs := [_]) func34 rfl rfl rfl fun a0 hfr0 => ?_
 have hst0 := zW hA (zf [] _ w m)
 have hM : MLe m m := MLe.refl m
 have hce := zr t
 refine zB fun _ hK1 => ?_
 refine rp0 hst0 hfr0 (.cons rfl (zv rfl rfl) <| .cons rfl (zC rfl) <| .nil) fun a1 w1 m1 hst1 hle1 hk1 => ?_
 have hfr1 := hk1.fr (.nil)
 obtain ⟨g2, e2, hc1⟩ := hk1.ex 1 rfl
 replace hfr1 := hfr1.cons e2
 replace h_t := h_t.mono hle1
 replace hkk_t := hkk_t.mono hle1
 replace haa_t := haa_t.mono hle1
 replace hrr_t := hrr_t.mono hle1
 clear hst0 hfr0 hk1
 refine hK1 _ _ ?_
 refine zB fun _ hK3 => ?_
 refine rp0 hst1 hfr1 (.cons rfl (zC rfl) <| .nil) fun a2 w2 m2 hst2 hle2 hk2 => ?_
 have hfr2 := hk2.fr (.o 1 <| .n 3 <| .nil)
 replace h_t := h_t.mono hle2
 replace hkk_t := hkk_t.mono hle2
 replace haa_t := haa_t.mono hle2
 replace hrr_t := hrr_t.mono hle2
 replace hc1 := hc1.mono hle2
 clear hst1 hfr1 hk2
 refine hK3 _ _ ?_
 refine zB fun _ hK4 => ?_
 refine zB fun _ hK5 => ?_
 refine rp0 hst2 hfr2 (.cons rfl (zC rfl) <| .nil) fun a3 w3 m3 hst3 hle3 hk3 => ?_
 have hfr3 := hk3.fr (.o 1 <| .o 3 <| .n 4 <| .nil)
 replace h_t := h_t.mono hle3
 replace hkk_t := hkk_t.mono hle3
 replace haa_t := haa_t.mono hle3
 replace hrr_t := hrr_t.mono hle3
 replace hc1 := hc1.mono hle3
 clear hst2 hfr2 hk3
 refine hK5 _ _ ?_
 refine zN ?_
 refine ze (T := [(1, _)]) (fun (y : Nat × Int) => ([(3, .int .i64 y.2), (4, .int .i64 (y.1 : Int))] : List (Nat × Value))) (fun _ => _) (fun (y : Nat × Int) m => (fun (y : Nat) (a : Int) => (y ≤ t.kids.length) ∧ (a + zR (t.kids.drop y) = ((1 + zR t.kids : Nat) : Int)) ∧ (0 ≤ a)) y.1 y.2) (fun y => t.kids.length - y.1) ((0, 1)) ⟨hst3, MLe.refl _, hfr3.sub (.c <| .c <| .c <| .nil), ⟨Nat.zero_le _, by rw [List.drop_zero]; omega, by omega⟩⟩ fun y a4 w4 m4 hh4 => ?_
 have hst4 := hh4.st; have hle4 := hh4.le; have hfr4 := hh4.fr; have hrel := hh4.rel; clear hh4
 replace h_t := h_t.mono hle4
 replace hkk_t := hkk_t.mono hle4
 replace haa_t := haa_t.mono hle4
 replace hrr_t := hrr_t.mono hle4
 replace hc1 := hc1.mono hle4
 clear hst3 hfr3
 obtain ⟨y, a⟩ := y
 dsimp only at hrel hfr4 hst4
 obtain ⟨hyn, ha, ha0⟩ := hrel
 have hlh4 := hle4
 refine zB fun _ hK7 => ?_
 refine zB fun _ hK8 => ?_
 refine rp0 hst4 hfr4 (.cons rfl (zD rfl) <| .cons rfl (zA (off := 5) rfl underlying33 rfl rfl sizeOf24 rfl) <| .cons rfl (zE rfl hc1 isAgg24 rfl) <| .cons rfl (zY rfl underlying24) <| .cons rfl (z7 rfl rfl) <| .nil) fun a5 w5 m5 hst5 hle5 hk5 => ?_
 have hfr5 := hk5.fr (.o 3 <| .o 4 <| .o 1 <| .n 10 <| .nil)
 replace h_t := h_t.mono hle5
 replace hkk_t := hkk_t.mono hle5
 replace haa_t := haa_t.mono hle5
 replace hrr_t := hrr_t.mono hle5
 replace hc1 := hc1.mono hle5
 have hlh5 := hlh4.trans hle5
 clear hst4 hfr4 hk5
 refine hK8 _ _ ?_
 refine zG hfr5 rfl rfl (fun hb10 => ?_) (fun hb10 => ?_)
 ·try simp only [nqs] at hb10
  refine zJ ?_
  refine hK7 _ _ ?_
  refine zB fun _ hK9 => ?_
  refine zN ?_
  obtain ⟨p10, vs10, x10, ho10, hd10, hm_x10, ht10, hcv10, hl10, hv10⟩ := hkk_t.nth (k := y) (by omega)
  cases ho10
  obtain ⟨⟨oK10, cK10, oA10, cA10, oR10, cR10, t010, t110, t210, t310, t410, t510, u010, u110, u210, u310, u410, u510⟩, rfl, hon10, hkk10, haa10, hrr10⟩ := hv10.open_
  dsimp only at hkk10 haa10 hrr10
  have hbg10 := hkk10.big; have hcp10 := hkk10.cap; have hbh10 := haa10.big; have hcq10 := haa10.cap
  rw [hd10, zR] at ha
  refine rp0 hst5 hfr5 (.cons rfl (zD rfl) <| .cons rfl (zA (off := 5) rfl underlying33 rfl rfl sizeOf24 rfl) <| .cons rfl (zE rfl hc1 isAgg24 rfl) <| .cons rfl (zD rfl) <| .cons rfl (zH (k := y) rfl rfl underlying24 sizeOf33 rfl (by omega)) <| .cons rfl (zO rfl hcv10 isAgg33 sizeOf33 rfl rfl) <| .cons rfl (zc rfl (.cons rfl <| .nil) call34 (fun w m hK => by have hle_ := KC.le hK; have hA := KC.agree hK; have h_t := h_t.mono hle_; have hkk_t := hkk_t.mono hle_; have haa_t := haa_t.mono hle_; have hrr_t := hrr_t.mono hle_; have hc1 := hc1.mono hle_; have hcv10 := hcv10.mono hle_; have hv10 := hv10.mono hle_; have hkk10 := hkk10.mono hle_; have haa10 := haa10.mono hle_; have hrr10 := hrr10.mono hle_; exact ihk _ (by assumption) hA (by assumption) (by omega))) <| .cons rfl (zk rfl rfl ⟨by omega, by omega⟩) <| .cons rfl (zC rfl) <| .nil) fun a6 w6 m6 hst6 hle6 hk6 => ?_
  have hfr6 := hk6.fr (.o 4 <| .o 1 <| .n 3 <| .nil)
  clear hst5 hfr5 hk6
  refine hK9 _ _ ?_
  refine rp0 hst6 hfr6 (.cons rfl (zD rfl) <| .cons rfl (zk rfl rfl ⟨by omega, by omega⟩) <| .cons rfl (zC rfl) <| .nil) fun a7 w7 m7 hst7 hle7 hk7 => ?_
  have hfr7 := hk7.fr (.o 1 <| .o 3 <| .n 4 <| .nil)
  clear hst6 hfr6 hk7
  have zq1 := hle6.trans hle7
  have hlh7 := hlh5.trans zq1
  exact ⟨(y + 1, (a + (zP x10 : Int))), m7, by show t.kids.length - (y + 1) < t.kids.length - y; omega, ⟨hst7, hlh7, hfr7.sub (.c <| .c <| .c <| .nil), ⟨by show y + 1 ≤ t.kids.length; omega, by show a + (zP x10 : Int) + ((zR (t.kids.drop (y + 1)) : Nat) : Int) = ((1 + zR t.kids : Nat) : Int); omega, by show 0 ≤ a + (zP x10 : Int); omega⟩⟩⟩
 ·try simp only [nqs] at hb10
  have hge : y = t.kids.length := by omega
  rw [List.drop_of_length_le (by omega), zR] at ha
  obtain rfl : a = ((1 + zR t.kids : Nat) : Int) := by omega
  refine zg ?_
  refine hK4 _ _ ?_
  refine zB fun _ hK11 => ?_
  refine zB fun _ hK12 => ?_
  refine rp0 hst5 hfr5 (.cons rfl (zC rfl) <| .nil) fun a6 w6 m6 hst6 hle6 hk6 => ?_
  have hfr6 := hk6.fr (.o 3 <| .o 4 <| .o 1 <| .n 5 <| .nil)
  clear hst5 hfr5 hk6
  refine hK12 _ _ ?_
  refine zN ?_
  have hlh6 := hlh5.trans hle6
  have hlq13 := hlh6
  refine ze (T := [(4, _), (1, _)]) (fun (y : Nat × Int) => ([(3, .int .i64 y.2), (5, .int .i64 (y.1 : Int))] : List (Nat × Value))) (fun _ => _) (fun (y : Nat × Int) m => (fun (y : Nat) (b : Int) => (y ≤ t.arms.length) ∧ (b + zo (t.arms.drop y) = (zP t : Int)) ∧ (0 ≤ b)) y.1 y.2) (fun y => t.arms.length - y.1) ((0, ((1 + zR t.kids : Nat) : Int))) ⟨hst6, MLe.refl _, hfr6.sub (.c <| .c <| .c <| .c <| .nil), ⟨Nat.zero_le _, by rw [List.drop_zero]; omega, by omega⟩⟩ fun y a7 w7 m7 hh7 => ?_
  have hst7 := hh7.st; have hle7 := hh7.le; have hfr7 := hh7.fr; have hrel := hh7.rel; clear hh7
  clear hst6 hfr6
  obtain ⟨y, b⟩ := y
  dsimp only at hrel hfr7 hst7
  obtain ⟨hyn, hb_, hb0⟩ := hrel
  have hlh7 := hle7
  refine zB fun _ hK14 => ?_
  refine zB fun _ hK15 => ?_
  have zq2 := hle6.trans hle7
  replace hc1 := hc1.mono zq2
  refine rp0 hst7 hfr7 (.cons rfl (zD rfl) <| .cons rfl (zA (off := 6) rfl underlying33 rfl rfl sizeOf25 rfl) <| .cons rfl (zE rfl hc1 isAgg25 rfl) <| .cons rfl (zY rfl underlying25) <| .cons rfl (z7 rfl rfl) <| .nil) fun a8 w8 m8 hst8 hle8 hk8 => ?_
  have hfr8 := hk8.fr (.o 3 <| .o 5 <| .o 4 <| .o 1 <| .n 25 <| .nil)
  clear hst7 hfr7 hk8
  refine hK15 _ _ ?_
  refine zG hfr8 rfl rfl (fun hb25 => ?_) (fun hb25 => ?_)
  ·try simp only [nqs] at hb25
   refine zJ ?_
   refine hK14 _ _ ?_
   refine zB fun _ hK16 => ?_
   refine zN ?_
   have zq3 := zq2.trans hle8
   replace haa_t := haa_t.mono zq3
   obtain ⟨p17, vs17, x17, ho17, hd17, hm_x17, ht17, hcv17, hl17, hv17⟩ := haa_t.nth (k := y) (by omega)
   cases ho17
   obtain ⟨oV17, cV17, bs17, rfl, hva17, hbd17⟩ := hv17.open_
   have hbv17 := hva17.big; have hcv17_ := hva17.cap
   obtain ⟨⟨oK17b, cK17b, oA17b, cA17b, oR17b, cR17b, t017b, t117b, t217b, t317b, t417b, t517b, u017b, u117b, u217b, u317b, u417b, u517b⟩, rfl, hon17b, hkk17b, haa17b, hrr17b⟩ := hbd17.open_
   dsimp only at hkk17b haa17b hrr17b
   have hbg17b := hkk17b.big; have hcp17b := hkk17b.cap; have hbh17b := haa17b.big; have hcq17b := haa17b.cap
   rw [hd17, ZD] at hb_
   replace h_t := h_t.mono zq3
   replace hkk_t := hkk_t.mono zq3
   replace hrr_t := hrr_t.mono zq3
   replace hc1 := hc1.mono hle8
   refine rp0 hst8 hfr8 (.cons rfl (zD rfl) <| .cons rfl (zA (off := 6) rfl underlying33 rfl rfl sizeOf25 rfl) <| .cons rfl (zE rfl hc1 isAgg25 rfl) <| .cons rfl (zD rfl) <| .cons rfl (zH (k := y) rfl rfl underlying25 sizeOf72 rfl (by omega)) <| .cons rfl (zA (off := 2) rfl underlying72 rfl rfl sizeOf33 rfl) <| .cons rfl (Zt rfl hcv17 isAgg33 sizeOf33 rfl rfl) <| .cons rfl (zc rfl (.cons rfl <| .nil) call34 (fun w m hK => by have hle_ := KC.le hK; have hA := KC.agree hK; have h_t := h_t.mono hle_; have hkk_t := hkk_t.mono hle_; have haa_t := haa_t.mono hle_; have hrr_t := hrr_t.mono hle_; have hc1 := hc1.mono hle_; have hcv17 := hcv17.mono hle_; have hv17 := hv17.mono hle_; have hva17 := hva17.mono hle_; have hbd17 := hbd17.mono hle_; have hkk17b := hkk17b.mono hle_; have haa17b := haa17b.mono hle_; have hrr17b := hrr17b.mono hle_; exact iha _ (by assumption) hA (by assumption) (by omega))) <| .cons rfl (zk rfl rfl ⟨by omega, by omega⟩) <| .cons rfl (zC rfl) <| .nil) fun a9 w9 m9 hst9 hle9 hk9 => ?_
   have hfr9 := hk9.fr (.o 5 <| .o 4 <| .o 1 <| .n 3 <| .nil)
   clear hst8 hfr8 hk9
   refine hK16 _ _ ?_
   refine rp0 hst9 hfr9 (.cons rfl (zD rfl) <| .cons rfl (zk rfl rfl ⟨by omega, by omega⟩) <| .cons rfl (zC rfl) <| .nil) fun a10 w10 m10 hst10 hle10 hk10 => ?_
   have hfr10 := hk10.fr (.o 4 <| .o 1 <| .o 3 <| .n 5 <| .nil)
   clear hst9 hfr9 hk10
   have zq4 := hle9.trans hle10
   have zq5 := hle8.trans zq4
   have hlh10 := hlh7.trans zq5
   exact ⟨(y + 1, (b + (zP x17.body : Int))), m10, by show t.arms.length - (y + 1) < t.arms.length - y; omega, ⟨hst10, hlh10, hfr10.sub (.c <| .c <| .c <| .c <| .nil), ⟨by show y + 1 ≤ t.arms.length; omega, by show b + (zP x17.body : Int) + ((zo (t.arms.drop (y + 1)) : Nat) : Int) = _; omega, by show 0 ≤ b + (zP x17.body : Int); omega⟩⟩⟩
  ·try simp only [nqs] at hb25
   have hge : y = t.arms.length := by omega
   rw [List.drop_of_length_le (by omega), zo] at hb_
   refine zg ?_
   refine hK11 _ _ ?_
   refine zB fun _ hK18 => ?_
   refine rp0 hst8 hfr8 (.cons rfl (zD rfl) <| .cons rfl (zC rfl) <| .nil) fun a9 w9 m9 hst9 hle9 hk9 => ?_
   have hfr9 := hk9.fr (.o 3 <| .o 5 <| .o 4 <| .n 2 <| .nil)
   clear hst8 hfr8 hk9
   refine hK18 _ _ ?_
   refine zK ?_
   repeat (with_reducible first | refine zI ?_ | refine zF ?_)
   exact zL hst9 hfr9 rfl (.tmp rfl <| .nil) (by refine congrArg (Value.int _) ?_; omega)
theorem count_c (t : Tm) : zDQ t := Tm.rec_ (p := zDQ) (fun t ihk iha => count_s ihk iha) t
end Go.Proofs.YtmdhhjmomilhjaaDoor
namespace Go.Proofs.YtmdhhjmomilhjaaDoor
set_option linter.all false
open Go.RowKit
def MP.reads {α : Type} (R : Mem → List Value → α → Prop) [RepR R] (sz : Nat) (l : List α) : MP := MP.mem (fun xs : List Value => .agg xs.toArray) (fun xs m => Reads R sz m xs l) fun hm h => h.mono hm
theorem MP.reads_p {α : Type} {R : Mem → List Value → α → Prop} [RepR R] {sz : Nat} {l : List α} {m : Mem} {xs : List Value} : (MP.reads R sz l).p m (.agg xs.toArray) ↔ Reads R sz m xs l := by
 constructor
 ·rintro ⟨y, e, h⟩
  change Value.agg xs.toArray = Value.agg (List.toArray y) at e
  injection e with e2
  have : xs = y := congrArg Array.toList e2
  subst this; exact h
 ·exact fun h => ⟨xs, rfl, h⟩
def MP.slx {α : Type} (R : Mem → List Value → α → Prop) [hR : RepR R] (sz : Nat) (l : List α) : MP := MP.mem (fun y : Option Addr × Nat => .slice y.1 l.length y.2) (fun y m => Sl R sz m y.1 l.length y.2 l) fun hm h => Sl.mono h (fun _ _ e => hR.mono hm e) hm
section
variable {α : Type} {R : Mem → List Value → α → Prop} [hR : RepR R] {sz : Nat} {m : Mem} {l : List α} {xs : List Value}
theorem zAP {w : World} {e : TypeId} : (Res.rowx (.slice none 0 0) 0 sz e (MP.reads R sz [])).holds w m := ⟨[], ⟨by simp, .inl ⟨rfl, rfl⟩⟩, MP.reads_p.2 Reads.nil⟩
end
section
variable {P : Program} {K : World → Mem → Prop} {m0 : Mem} {L : List Res} {us : List Nat} {ch : List (Nat × Bool)} {pre : List Ent} {T : List (Nat × Value)}
variable {dst : Option Nat} {ty : TypeId} {pos : String} {af : Array Edge} {gd : Option (Nat × Bool)}
variable {α : Type} {R : Mem → List Value → α → Prop} [hR : RepR R]
theorem ZZ [hK : KC K m0 L] {d : Nat} {t e : TypeId} {i : TypeInfo} {z : Value} {size bytes n k c c0 : Nat} {o A : Option Addr} {l l' : List α} {x y : Operand} {r : (Nat → Value) → Res} (hv : ev us ch pre T x = some (.slice o n c0)) (hy : ev us ch pre T y = some (.slice A k c))
  (hrr : ∀ σ, r σ = .rowx (nz (ZG σ x)) n size e (MP.reads R size l) ∨ r σ = .rowx (nz (.slice o n c0)) n size e (MP.reads R size l) ∨ (r σ = .free ∧ c0 = 0 ∧ n = 0 ∧ l = []))
  (ht : P.underlying t = some (.slice e)) (hi : P.info? e = some i) (hz : i.zero = some z) (hsize : i.size = size) (hby : i.bytes = bytes) (hzs : z.cells.size = size)
  (hx : ∀ w m, K w m → Sl R size m A k c l') (hn0 : l.length = n) (hsz : 0 < size) (h63 : n + k ≤ maxLen) (hbytes : (n + k) * bytes ≤ 140737488355328) :
  ObT P K us ch pre T r (fun v' => .rowx (nz v') (l ++ l').length size e (MP.reads R size (l ++ l'))) ⟨some d, .call { callee := .builtin .append, args := #[x, y], argTypes := #[t, t] }, ty, pos, af, gd⟩ (.ex (MP.slx R size (l ++ l'))) := fun σ w m hk hr hn => by
 have hsl := hx w m hk
 obtain ⟨news, hra, hrd, hnl⟩ := hsl.reads
 have hkl : l'.length = k := hsl.len
 have hle : (l ++ l').length = n + k := by rw [List.length_append, hn0, hkl]
 obtain ⟨olds, hro, hrp, hbl⟩ : ∃ olds, (Res.row (nz (.slice o n c0)) n size e olds).holds w m ∧ Reads R size m olds l ∧ ∀ g ∈ (Res.row (nz (.slice o n c0)) n size e olds).blocks, g ∈ (r σ).blocks := by
  rcases hrr σ with h | h | ⟨h, rfl, rfl, rfl⟩
  ·rw [h, hn.ev hv] at hr
   obtain ⟨olds, h1, h2⟩ := hr
   exact ⟨olds, h1, MP.reads_p.1 h2, by rw [h, hn.ev hv]; exact fun g hg => hg⟩
  ·rw [h] at hr
   obtain ⟨olds, h1, h2⟩ := hr
   exact ⟨olds, h1, MP.reads_p.1 h2, by rw [h]; exact fun g hg => hg⟩
  ·exact ⟨[], ⟨by simp, .inl ⟨rfl, rfl⟩⟩, Reads.nil, fun g hg => by cases hg⟩
 obtain ⟨o', cap, w', m', hrun, ht', hro', hle'⟩ := zCI (P := P) (ty := ty) (c := c) ht hi hz hsize hby hzs (hK.agree hk) hro hra hnl hsz (fun u hu => List.all_eq_true.1 hrd.one u hu) h63 hbytes
 have hr2 : (execOp (ZG σ) ⟨some d, .call { callee := .builtin .append, args := #[x, y], argTypes := #[t, t] }, ty, pos, af, gd⟩).run P w = .ok (.value (.slice o' (n + k) cap)) w' := by
  simp only [execOp, resolve, List.map_toArray, List.map_cons, List.map_nil, hn.ev hv, hn.ev hy, Sem.run_bind, Sem.run_pure, Result.andThen_ok, invoke, builtin]
  rw [hrun]; rfl
 have hrd' : Reads R size m' (olds ++ news) (l ++ l') := (hrp.app hrd).mono ht'.ext.le
 unfold Does; rw [hr2]
 rw [hle]
 have ht2 : Touch (r σ) (.rowx (nz (.slice o' (n + k) cap)) (n + k) size e (MP.reads R size (l ++ l'))) w m w' m' :=
  zAq (r := .row (nz (.slice o n c0)) n size e olds) ⟨ht'.ext, ⟨olds ++ news, ht'.now, MP.reads_p.2 hrd'⟩, ht'.nodup, ht'.where_⟩ hbl
 refine ⟨m', ht2, (o', cap), by show _ = Value.slice o' (l ++ l').length cap; rw [hle], ?_⟩
 show Sl R size m' o' (l ++ l').length cap (l ++ l')
 have hb : n + k ≤ 9223372036854775807 := by simp only [maxLen] at h63; omega
 rw [hle]
 exact hrd'.sl hro' hsz hle hle' hb
end
theorem zAt {α : Type} {rd : Option Nat} {P : Program} {Q : Exit → Act → World → Prop} {x y : Code} {n : FrN} {T : List (Nat × Value)} {G0 : List Nat} {W : World} {mE m0 : Mem} {a : Act} {w : World}
  (f : α → List (Nat × Value)) (Lf : α → List Res) (J : α → Mem → Prop) (y0 : α) (h0 : Head n T G0 W mE m0 f Lf (fun _ _ => True) y0 a w m0)
  (cont : ∀ (g : α) (a : Act) (w : World) (m : Mem), Head n T G0 W mE m0 f Lf J g a w m → y.wpIn (ZL rd) 0 P Q a w)
  (first : ∀ K : Act → World → Prop, (∀ (g : α) (a : Act) (w : World) (m : Mem), Head n T G0 W mE m0 f Lf J g a w m → K a w) → x.wpIn (ZL rd) 0 P (Exit.then K Q) a w) : (Code.seq x y).wpIn (ZL rd) 0 P Q a w :=
 zB fun K hK => first K fun g a w m h => hK a w (cont g a w m h)
theorem zDr : ∀ (l cs : List Value) (off : Nat), (putL cs off l).length = cs.length
 | [], _, _ => rfl
 | v :: l, cs, off => by rw [putL, zDr l, List.length_set]
theorem zCi : ∀ (l cs : List Value) (off i : Nat), off + l.length ≤ cs.length → (putL cs off l)[i]? = if off ≤ i ∧ i < off + l.length then l[i - off]? else cs[i]?
 | [], cs, off, i, _ => by rw [putL, if_neg (by simp only [List.length_nil]; omega)]
 | v :: l, cs, off, i, h => by
  simp only [List.length_cons] at h ⊢
  rw [putL, zCi l _ _ _ (by rw [List.length_set]; omega)]
  by_cases h1 : off + 1 ≤ i ∧ i < off + 1 + l.length
  ·rw [if_pos h1, if_pos (by omega), show i - off = (i - (off + 1)) + 1 by omega]; rfl
  ·rw [if_neg h1]
   by_cases h2 : i = off
   ·subst h2; rw [if_pos (by omega), Nat.sub_self, List.getElem?_set_self (by omega)]; rfl
   ·rw [if_neg (by omega), List.getElem?_set_ne (by omega)]
section
variable {P : Program} {K : World → Mem → Prop} {m0 : Mem} {L : List Res} {us : List Nat} {ch : List (Nat × Bool)} {pre : List Ent} {T : List (Nat × Value)}
variable {dst : Option Nat} {ty : TypeId} {pos : String} {af : Array Edge} {gd : Option (Nat × Bool)}
theorem z8 [hK : KC K m0 L] {t e : TypeId} {sz : Nat} {x : Operand} {vs : List Value} {z : Value} (hx : ev us ch pre T x = some (.agg vs.toArray)) (ht : P.underlying t = some (.slice e))
  (hsz : ∀ w, (sizeOf e).run P w = .ok sz w) (hz : ∀ w, (zeroValue e).run P w = .ok z w) (hl : Nat.beq vs.length sz = true) (hzs : Nat.beq z.cells.size sz = true) (hn : Nat.ble sz 16777216 = true) (h0 : Nat.beq sz 0 = false) :
  Ob P K us ch pre T ⟨dst, .buildSlice t 1 #[(0, x)], ty, pos, af, gd⟩ (.ex (MP.row 1 vs)) := by
 rw [Nat.beq_eq] at hl
 refine ZB (zero := z.cells.toList) (EvPs.cons hx .nil) ht hsz hz rfl (by rw [Nat.one_mul]; exact hn) (by rw [Nat.one_mul]; exact h0) ?_
 have hlen : ((List.range (1 * sz)).map fun i => z.cells.toList.toArray[i % z.cells.toList.toArray.size]!).length = sz := by simp
 have hc : (Value.agg vs.toArray).cells.toList = vs := rfl
 simp only [zCl, hc]
 have e1 : Nat.beq vs.length sz = true := by rw [Nat.beq_eq]; exact hl
 have e2 : Nat.ble (0 * sz + vs.length) ((List.range (1 * sz)).map fun i => z.cells.toList.toArray[i % z.cells.toList.toArray.size]!).length = true := by rw [hlen]; exact Nat.ble_eq_true_of_le (by omega)
 rw [e1, e2]
 simp only [Bool.not_true, Bool.or_self, cond_false]
 congr 1
 apply List.ext_getElem?
 intro i
 rw [zCi _ _ _ _ (by rw [hlen]; omega)]
 by_cases hi : i < sz
 ·rw [if_pos (by omega)]; simp
 ·rw [if_neg (by omega), List.getElem?_eq_none (by rw [hlen]; omega), List.getElem?_eq_none (by omega)]
theorem ob_storeK [hK : KC K m0 L] {t e : TypeId} {x y : Operand} {k g : Nat} {cs vs : List Value} {v : Value} {n : Nat} (hx : ev us ch pre T x = some (.pointer (some ((⟨g, 0, none⟩ : Addr).add k)))) (hy : ev us ch pre T y = some v)
  (hv : v.cells = vs.toArray) (hz : ∀ w, (sizeOf t).run P w = .ok n w) (hn : Nat.beq vs.length n = true) (hl : Nat.ble (k + n) cs.length = true) (h1 : ∀ w m, K w m → vs.all (·.oneCell') = true) :
  ObT P K us ch pre T (fun _ => .blk (.pointer (some ⟨g, 0, none⟩)) (.cells cs.toArray e)) (fun _ => .blk (.pointer (some ⟨g, 0, none⟩)) (.cells (cs.take k ++ vs ++ cs.drop (k + vs.length)).toArray e)) ⟨none, .store t x y, ty, pos, af, gd⟩ (.ex MP.any) := fun σ w m hk hr hkn =>
 ZE hx hy hv hz hn hl (h1 w m hk) σ w m hk hr hkn
theorem zd [hK : KC K m0 L] {t e : TypeId} {x : Operand} {n j g : Nat} {cs : List Value} {fz : Nat × Nat} (hx : ev us ch pre T x = some (.pointer (some ⟨g, 0, none⟩)))
  (hL : L[j]? = some (.blk (.pointer (some ⟨g, 0, none⟩)) (.cells cs.toArray e fz))) (ha : ∀ w, (isAgg t).run P w = .ok true w) (hz : ∀ w, (sizeOf t).run P w = .ok n w) (hn' : Nat.beq cs.length n = true) :
  Ob P K us ch pre T ⟨dst, .load t x, ty, pos, af, gd⟩ (.eq (.agg cs.toArray)) := ob_loadLS' hx hL ha hz (by rw [Nat.beq_eq] at hn'; rw [← hn', List.take_length]) (by rw [Nat.beq_eq] at hn'; exact hn')
theorem Zj [hK : KC K m0 L] {t e : TypeId} {p : Nat} {y : Operand} {g : Nat} {cs vs : List Value} {v : Value} {n : Nat} (hst : zBD (.store t (.tmp p) y) = some p) (hf : (Zp pre p).isSome = true) (hx : evT us ch pre T p = some (.pointer (some ⟨g, 0, none⟩))) (hy : ev us ch pre T y = some v)
  (hv : v.cells = vs.toArray) (hz : ∀ w, (sizeOf t).run P w = .ok n w) (hn : Nat.beq vs.length n = true) (hl : Nat.ble (0 + n) cs.length = true) (h1 : ∀ w m, K w m → vs.all (·.oneCell') = true) :
  ObT P K us ch pre T (fun σ => .blk (σ p) (.cells cs.toArray e)) (fun x => .blk x (.cells (cs.take 0 ++ vs ++ cs.drop (0 + vs.length)).toArray e)) ⟨none, .store t (.tmp p) y, ty, pos, af, gd⟩ (.ex MP.any) := fun σ w m hk hr hkn =>
 zb hst hf hx hy hv hz hn hl (h1 w m hk) σ w m hk hr hkn
end
end Go.Proofs.YtmdhhjmomilhjaaDoor
