/-
  Texts that the law rests on: Mach10, Mach11, Mach12, LetsA, LetsB, LetsC. Conditions: those of each theorem.
-/
import Derived.Test.YtnppknioifgdfaaSqD
import Derived.ProofKit
import Derived.Carry
import Derived.ChangeSame
import Derived.ShutString
import Derived.Deep.Slices
import Derived.Deep.Fields
import Derived.Lib.ItoaLen
import Derived.Test.YtnppknioifgdfaaRows
namespace Go.Proofs.Ytnppknioifgdfaa
open Go.Proofs.Try
set_option linter.all false
set_option maxRecDepth 4000
open Go.RowKit
theorem Vl.kid_lt {v u : Vl} (h : u ∈ v.kids) : SizeOf.sizeOf u < SizeOf.sizeOf v := by
 obtain ⟨k, n, s, ks, f, fs⟩ := v
 have := List.sizeOf_lt_of_mem h
 simp only [Vl.kids] at this
 simp only [Vl.mk.sizeOf_spec]; omega
theorem Vl.rec_ {p : Vl → Prop} (h : ∀ v, (∀ u ∈ v.kids, p u) → p v) (v : Vl) : p v := h v fun u hu => Vl.rec_ h u
termination_by SizeOf.sizeOf v
decreasing_by exact Vl.kid_lt hu
mutual
/-- All of a value. -/
def ZY : Vl → VT
 | ⟨k, n, s, ks, _, _⟩ => ⟨k, n, s, zAb ks⟩
def zAb : List Vl → List VT
 | [] => []
 | v :: l => ZY v :: zAb l
end
theorem zDe (v : Vl) : ZY v = ⟨v.kind, v.n, v.name, zAb v.kids⟩ := by obtain ⟨k, n, s, ks, f, fs⟩ := v; rw [ZY]; rfl
mutual
/-- How many pieces a value has, so many and one at most. -/
def ZH : Vl → Int → Int
 | ⟨_, _, _, ks, _, _⟩, k => ZL ks 1 k
def ZL : List Vl → Int → Int → Int
 | [], n, _ => n
 | v :: l, n, k => if k < n then n else ZL l (n + ZH v (k - n)) k
end
theorem zAp (v : Vl) (k : Int) : ZH v k = ZL v.kids 1 k := by obtain ⟨a, n, s, ks, f, fs⟩ := v; rw [ZH]; rfl
theorem piecesL_over : ∀ (l : List Vl) {n k : Int}, k < n → ZL l n k = n
 | [], _, _, _ => by rw [ZL]
 | v :: l, n, k, h => by rw [ZL, if_pos h]
theorem zCN {k : Int} : ∀ (l : List Vl), (∀ u ∈ l, ∀ k : Int, 0 ≤ k → 1 ≤ ZH u k ∧ ZH u k ≤ k + 1) → ∀ n : Int, n ≤ k + 1 → n ≤ ZL l n k ∧ ZL l n k ≤ k + 1
 | [], _, n, h2 => by rw [ZL]; exact ⟨Int.le_refl _, h2⟩
 | u :: l, hu, n, h2 => by
  rw [ZL]
  split
  ·exact ⟨Int.le_refl _, h2⟩
  ·have h3 := hu u (.head _) (k - n) (by omega)
   have h4 := zCN (k := k) l (fun x hx => hu x (.tail _ hx)) (n + ZH u (k - n)) (by omega)
   omega
theorem zCC : ∀ (v : Vl) (k : Int), 0 ≤ k → 1 ≤ ZH v k ∧ ZH v k ≤ k + 1 := by
 refine Vl.rec_ fun v ih => fun k hk => ?_
 rw [zAp]
 exact zCN v.kids ih 1 (by omega)
mutual
/-- How many pieces there are. -/
def zBq : Vl → Nat
 | ⟨_, _, _, ks, _, _⟩ => 1 + zAv ks
def zAv : List Vl → Nat
 | [] => 0
 | v :: l => zBq v + zAv l
end
theorem zEw (v : Vl) : zBq v = 1 + zAv v.kids := by obtain ⟨a, n, s, ks, f, fs⟩ := v; rw [zBq]; rfl
theorem zFO : ∀ {l : List Vl} {u : Vl}, u ∈ l → zBq u ≤ zAv l
 | v :: l, u, h => by
  rw [zAv]
  rcases List.mem_cons.1 h with rfl | h
  ·omega
  ·have := zFO h; omega
theorem zEi : ∀ (l : List Vl), l.length ≤ zAv l
 | [] => by simp
 | v :: l => by rw [zAv, List.length_cons]; have := zEi l; have := zEw v; omega
theorem pieces_size : ∀ (v : Vl) (k : Int), 0 ≤ k → ZH v k ≤ k → (zBq v : Int) = ZH v k := by
 refine Vl.rec_ fun v ih => fun k hk h => ?_
 rw [zAp] at h ⊢
 have key : ∀ (l : List Vl), (∀ u ∈ l, ∀ k : Int, 0 ≤ k → ZH u k ≤ k → (zBq u : Int) = ZH u k) → ∀ n : Int, ZL l n k ≤ k → ZL l n k = n + (zAv l : Int) := by
  intro l
  induction l with
  | nil => intro _ n _; rw [ZL, zAv]; simp
  | cons u l ihl =>
   intro hu n hn
   rw [ZL] at hn ⊢
   split at hn
   ·omega
   ·rename_i hkn
    rw [if_neg hkn]
    have h1 := zCC u (k - n) (by omega)
    have h2 := zCN (k := k) l (fun x _ k hk => zCC x k hk) (n + ZH u (k - n)) (by omega)
    have h3 := ihl (fun x hx => hu x (.tail _ hx)) _ hn
    have h4 := hu u (.head _) (k - n) (by omega) (by omega)
    rw [h3, zAv]; omega
 rw [key v.kids ih 1 h, zEw]; omega
def zBi (v : Vl) : VT := if 10000 < ZH v 10000 then ⟨v.kind, v.n, v.name, []⟩ else ZY v
theorem wholeV_bare (v : Vl) : ZY ⟨v.kind, v.n, v.name, [], v.clo, v.fs⟩ = ⟨v.kind, v.n, v.name, []⟩ := by rw [ZY, zAb]
theorem sizeV_bare (v : Vl) : zBq ⟨v.kind, v.n, v.name, [], v.clo, v.fs⟩ = 1 := by rw [zBq, zAv]
structure Ef where
 name : Str
 ops : List Str
def OpR (_ : Mem) (vs : List Value) (n : Str) : Prop := ∃ r1 r2 r3 r4 r5 r6 r7 r8 r9 r10 r11 r12 : Value, vs = [S n, r1, r2, r3, r4, r5, r6, r7, r8, r9, r10, r11, r12] ∧ [S n, r1, r2, r3, r4, r5, r6, r7, r8, r9, r10, r11, r12].all (·.oneCell') = true
abbrev Ops (m : Mem) (o : Option Addr) (n c : Nat) (l : List Str) : Prop := Sl (fun m vs s => OpR m vs s) 13 m o n c l
theorem OpR.mono {m m' : Mem} {s : Str} {vs : List Value} (h : OpR m vs s) (_ : MLe m m') : OpR m' vs s := h
theorem OpR.one {m : Mem} {s : Str} {vs : List Value} (h : OpR m vs s) : vs.all (·.oneCell') = true := by obtain ⟨r1, r2, r3, r4, r5, r6, r7, r8, r9, r10, r11, r12, rfl, h⟩ := h; exact h
instance : RepR (fun m vs s => OpR m vs s) := ⟨fun hm h => h.mono hm, fun h => h.one⟩
theorem Ops.mono {m m' : Mem} {o : Option Addr} {n c : Nat} {l : List Str} (h : Ops m o n c l) (hm : MLe m m') : Ops m' o n c l := Sl.mono h (fun _ _ e => OpR.mono e hm) hm
def EfR (m : Mem) (vs : List Value) (e : Ef) : Prop := ∃ o c, vs = [S e.name, .slice o e.ops.length c] ∧ Ops m o e.ops.length c e.ops
abbrev Efs (m : Mem) (o : Option Addr) (n c : Nat) (l : List Ef) : Prop := Sl (fun m vs e => EfR m vs e) 2 m o n c l
theorem EfR.mono {m m' : Mem} {e : Ef} {vs : List Value} (h : EfR m vs e) (hm : MLe m m') : EfR m' vs e := by obtain ⟨o, c, e1, h⟩ := h; exact ⟨o, c, e1, h.mono hm⟩
theorem EfR.one {m : Mem} {e : Ef} {vs : List Value} (h : EfR m vs e) : vs.all (·.oneCell') = true := by obtain ⟨o, c, rfl, h⟩ := h; rfl
instance : RepR (fun m vs e => EfR m vs e) := ⟨fun hm h => h.mono hm, fun h => h.one⟩
theorem Efs.mono {m m' : Mem} {o : Option Addr} {n c : Nat} {l : List Ef} (h : Efs m o n c l) (hm : MLe m m') : Efs m' o n c l := Sl.mono h (fun _ _ e => EfR.mono e hm) hm
theorem EfR.open_ {m : Mem} {vs : List Value} {e : Ef} (h : EfR m vs e) : ∃ o c, vs = [S e.name, .slice o e.ops.length c] ∧ Ops m o e.ops.length c e.ops := h
theorem OpR.open_ {m : Mem} {vs : List Value} {n : Str} (h : OpR m vs n) : ∃ r1 r2 r3 r4 r5 r6 r7 r8 r9 r10 r11 r12 : Value, vs = [S n, r1, r2, r3, r4, r5, r6, r7, r8, r9, r10, r11, r12] ∧ [S n, r1, r2, r3, r4, r5, r6, r7, r8, r9, r10, r11, r12].all (·.oneCell') = true := h
def zBl (q : Str) : List Str → List (Str × Str) → List (Str × Str)
 | [], m => m
 | o :: l, m => zBl q l (zBH o q m)
def zBk (l : List Ef) (m : List (Str × Str)) : List (Str × Str) := l.reverse.foldl (fun m e => zBl e.name e.ops m) m
def zCD (l : List Ef) : List (Str × Str) := zBk l []
theorem effFrom_snoc (l : List Ef) (e : Ef) (m : List (Str × Str)) : zBk (l ++ [e]) m = zBk l (zBl e.name e.ops m) := by simp [zBk]
theorem eff_step {l : List Ef} {i : Nat} {e : Ef} {m : List (Str × Str)} (h : zCD l = zBk (l.take (l.length - i)) m) (hi : i < l.length) (hb : l[l.length - 1 - i]? = some e) : zCD l = zBk (l.take (l.length - (i + 1))) (zBl e.name e.ops m) := by
 rw [h, show l.length - i = l.length - 1 - i + 1 by omega, List.take_succ, hb, show l.length - (i + 1) = l.length - 1 - i by omega]
 exact effFrom_snoc _ _ _
def BackY (l : List Ef) (i : Nat) (m : Mem) (args : List Value) : Prop := ∃ (k : Int) (b : Ef) (vs : List Value), args = [.int .i64 k, .agg vs.toArray] ∧ EfR m vs b ∧ l[l.length - 1 - i]? = some b
def MP.backV (l : List Ef) : MP := MP.mem (fun y : Nat × Option Addr × Nat => .func (.func 44) #[] #[.pointer (some ⟨y.1, 0, none⟩)]) (fun y m => CellsAt m ⟨y.1, 0, none⟩ [.slice y.2.1 l.length y.2.2] ∧ Efs m y.2.1 l.length y.2.2 l) fun hm h => ⟨h.1.mono hm, h.2.mono hm⟩
theorem St.perm {G0 : List Nat} {W : World} {mE : Mem} {L L' : List Res} {w : World} {m : Mem} (h : St G0 W mE L w m) (hp : L.Perm L') : St G0 W mE L' w m :=
 have hf : (L.flatMap Res.blocks).Perm (L'.flatMap Res.blocks) := hp.flatMap_right Res.blocks
 ⟨h.ext, fun r hr => h.loc.all r (hp.mem_iff.2 hr), hf.nodup_iff.1 h.loc.apart, fun g hg => h.loc.own g (hf.mem_iff.2 hg)⟩
theorem St.fill {G0 : List Nat} {W : World} {mE : Mem} {L : List Res} {w : World} {m : Mem} {k : Nat} {r : Res} (h : St G0 W mE L w m) (hk : L[k]? = some .free) (hr : r.holds w m) (hb : r.blocks = []) : St G0 W mE (L.set k r) w m :=
 h.touch hk ⟨ExtG.refl _ h.agree, hr, by rw [hb]; exact List.nodup_nil, fun g hg => by rw [hb] at hg; cases hg⟩
def zBc (input : List Int) (eff : List (Str × Str)) : Mc := ⟨⟨0, [], [], 0, [], []⟩, .nil, false, Zt, .nil, 0, [], [], input, 0, [], 0, 0, eff⟩
abbrev iniY (oi : Option Addr) (ci gm : Nat) : McY := ⟨⟨none, 0, none, 0⟩, none, zDI, none, none, 0, none, 0, oi, ci, gm, none, 0⟩
theorem ini_R {m : Mem} {input : List Int} {eff : List (Str × Str)} {oi : Option Addr} {ci gm : Nat} (hi : Ints m oi input.length ci input) (hr : ∀ n ∈ input, zo n) (he : MapAt S m gm (zFB S eff)) : McR m (zBc input eff) (iniY oi ci gm) :=
 ⟨CdR.build in0_ in0_ Sl.empty Sl.empty, by simp only [zBc, EnvR], zFL, by simp only [zBc, EvR], Sl.empty, ⟨hi, hr⟩, in0_, in0_, he, in0_, in0_, Sl.empty⟩
structure Rn where
 kind : Int
 val : VT
 trace : List Int
 steps : Int
 konts : Int
def MP.rn (r : Rn) : MP := MP.mem (fun y : (Option Addr × Nat) × Option Addr × Nat => .agg #[.int .i64 r.kind, .int .i64 r.val.kind, .int .i64 r.val.n, S r.val.name, .slice y.1.1 r.val.kids.length y.1.2, .slice y.2.1 r.trace.length y.2.2, .int .i64 r.steps, .int .i64 r.konts]) (fun y m => VR m r.val (vtV r.val y.1.1 y.1.2) ∧ Ints m y.2.1 r.trace.length y.2.2 r.trace) fun hm h => ⟨h.1.mono hm, h.2.mono hm⟩
def endM (s : Mc) : Rn := if s.kind = 0 ∧ s.ended = true then ⟨1, zBi s.v, s.trace, s.steps, s.konts⟩ else ⟨s.kind, VT.z, s.trace, s.steps, s.konts⟩
def runR (c : Cd) (l : List Ef) (input : List Int) (fuel : Nat) : Option Rn := if ZB c then (match zCu fuel ((zBc input (zCD l)).goes c .nil) with
  | none => none
  | some s => some (endM s)) else some ⟨4, VT.z, [], 0, 0⟩
theorem looks_steps_k {s t : Mc} {b : Bool} (h : zAr s = some (t, b)) : t.steps = s.steps := by
 have hop : ∀ {name : Str} {l : List Vl} {b : Bool}, opM s name l = some (t, b) → t.steps = s.steps := fun {name l b} h => by
  rcases op_ways h with ⟨_, _, rfl, _⟩ | ⟨n, r, _, _, rfl, _⟩ | ⟨v, r, _, _, _, _, rfl, _⟩ | ⟨v, r, _, _, _, h⟩ | ⟨v, r, _, _, _, h⟩ | ⟨v, r, _, _, _, h⟩ | ⟨_, _, _, _, _, h⟩ | ⟨_, _, _, _, _, rfl, _⟩ | ⟨_, _, _, _, _, _, _, _, rfl, _⟩ | ⟨_, _, _, _, _, _, _, _, rfl, _⟩
  ·rfl
  ·rfl
  ·rfl
  rotate_left 4
  ·rfl
  ·rfl
  ·rfl
  all_goals
   by_cases hn : ∃ x y, l = [x, y] ∧ x.kind = 1 ∧ y.kind = 1
   ·obtain ⟨x, y, e, hx, hy⟩ := hn
    rw [e] at h
    rcases zDT h hx hy with ⟨v, _, rfl, _⟩ | ⟨_, ⟨_, rfl, _⟩ | ⟨_, rfl, _⟩⟩ <;> rfl
   ·rw [(zAT h hn).1]
 have hpu : ∀ {l : List Fm} {s t : Mc}, Zr s l = some t → t.steps = s.steps := fun {l} => by
  induction l with
  | nil => intro s t h; unfold Zr at h; injection h with h; rw [h]
  | cons f l ih =>
   intro s t h
   obtain ⟨u, h1, h2⟩ := zCX h
   rw [ih h2]
   cases f with
   | bound q n c e => obtain ⟨_, rfl⟩ := push_b h1; rfl
   | prompt q l e k => obtain ⟨_, rfl⟩ := push_p h1; rfl
   | restore v n => obtain ⟨_, rfl⟩ := push_r h1; rfl
 rcases zEx h with ⟨_, a, d, r, _, _, rfl, _⟩ | ⟨_, a, d, r, _, _, rfl, _⟩ | ⟨_, a, d, r, _, rfl, _⟩ | ⟨_, a, r, _, _, rfl, _⟩ | ⟨_, a, r, q, _, _, h⟩ | ⟨_, q, _, h⟩ | ⟨_, _, q, _, h⟩
 ·rfl
 ·rfl
 ·rfl
 ·rfl
 ·rcases h with ⟨_, rfl, _⟩ | ⟨v, _, h⟩
  ·rfl
  ·rcases if_ways h with ⟨_, _, d, _, rfl, _⟩ | ⟨_, rfl, _⟩ <;> rfl
 ·rcases h with ⟨_, rfl, _⟩ | ⟨v, _, rfl, _⟩ <;> rfl
 ·rcases h with ⟨_, rfl, _⟩ | ⟨l, _, h⟩
  ·rfl
  ·rcases app_ways h with ⟨_, f, v, r, _, h⟩ | ⟨_, h⟩ | ⟨_, rfl, _⟩ | ⟨_, v, r, _, h⟩ | ⟨_, _, _, _, v, r, _, h⟩
   ·cases hc : f.clo with
    | mk p q bd e => obtain ⟨rfl, _⟩ := zDK h hc; rfl
    | none =>
     rcases zCT h hc with ⟨_, rfl, _⟩ | ⟨g, r, t, _, ht, rfl, _⟩
     ·rfl
     ·show t.steps = s.steps; exact hpu ht
   ·exact hop h
   ·rfl
   ·cases hf : List.find? (Zo v) s.c.arms with
    | none => obtain ⟨rfl, _⟩ := zCx h hf; rfl
    | some a => obtain ⟨rfl, _⟩ := zDJ h hf; rfl
   ·cases h1 : z5 s.c.name s.eff with
    | none => obtain ⟨rfl, _⟩ := zCQ h h1; rfl
    | some q =>
     cases h2 : Zf q s.ev with
     | nil => obtain ⟨rfl, _⟩ := zCW h h1 h2; rfl
     | cons q8 k l e o =>
      obtain ⟨a0, r, _, h3⟩ := zBn h h1 h2
      rcases h3 with ⟨_, rfl, _⟩ | ⟨a, x, xs, _, _, _, ⟨_, rfl, _⟩ | ⟨_, ⟨_, rfl, _⟩ | ⟨n, y, ys, _, _, rfl, _⟩⟩⟩ <;> rfl
theorem gets_steps {s s2 : Mc} (h : s.gets = some s2) : s2.steps = s.steps := by
 obtain ⟨fl, f, _, h2⟩ := zCR h
 cases f with
 | bound q n c e => injection h2 with h2; rw [← h2]; rfl
 | prompt q l e k => obtain ⟨a, lr, x, vr, _, _, rfl⟩ := zBC h2; rfl
 | restore v n => injection h2 with h2; rw [← h2]
theorem step_at {u t : Mc} (h : zDB u = some t) (ha : u.at_ = true) : ∃ t' b, zAr u = some (t', b) ∧ t = if b then t' else t'.ends 4 := by
 unfold zDB at h; rw [if_pos ha] at h
 cases hl : zAr u with
 | none => rw [hl] at h; cases h
 | some p => obtain ⟨t', b⟩ := p; rw [hl] at h; injection h with h; exact ⟨t', b, rfl, h.symm⟩
theorem step_not {u t : Mc} (h : zDB u = some t) (ha : u.at_ = false) : u.gets = some t := by
 unfold zDB at h; rw [if_neg (by rw [ha]; decide)] at h; exact h
theorem run_step {s sF : Mc} {k : Nat} (h : zCu (k + 1) s = some sF) (hn : s.ended = false) : (s.at_ = true ∧ ∃ t b, zAr { s with steps := s.steps + 1 } = some (t, b) ∧ zCu k (if b then t else t.ends 4) = some sF ∧ t.steps = s.steps + 1) ∨ (s.at_ = false ∧ ∃ t, ({ s with steps := s.steps + 1 } : Mc).gets = some t ∧ zCu k t = some sF ∧ t.steps = s.steps + 1) := by
 unfold zCu at h
 rw [hn, if_neg (by decide)] at h
 cases hs : zDB { s with steps := s.steps + 1 } with
 | none => rw [hs] at h; cases h
 | some t =>
  rw [hs] at h
  rcases Bool.eq_false_or_eq_true s.at_ with ha | ha
  ·obtain ⟨t', b, hl, rfl⟩ := step_at hs ha
   exact .inl ⟨ha, t', b, hl, h, looks_steps_k hl⟩
  ·have hg := step_not hs ha
   exact .inr ⟨ha, t, hg, h, gets_steps hg⟩
theorem run_end {s sF : Mc} {k : Nat} (h : zCu k s = some sF) (hn : k = 0 ∨ s.ended = true) : sF = s := by
 cases k with
 | zero => unfold zCu at h; injection h with h; exact h.symm
 | succ k =>
  rcases hn with hn | hn
  ·cases hn
  ·unfold zCu at h; rw [if_pos hn] at h; injection h with h; exact h.symm
theorem perm3 {a b c : Res} {r : List Res} : (a :: b :: c :: r).Perm (c :: b :: a :: r) := (List.Perm.swap b a (c :: r)).trans (((List.Perm.swap c a r).cons b).trans (List.Perm.swap c b (a :: r)))
theorem perm7 {a b c d e f g : Res} : [a, b, c, d, e, f, g].Perm [a, b, g, d, e, f, c] :=
 .cons a (.cons b ((List.perm_middle (a := g) (l₁ := [c, d, e, f]) (l₂ := [])).trans (.cons g (List.perm_append_comm (l₁ := [c]) (l₂ := [d, e, f])))))
theorem end_yes {s : Mc} (h1 : s.kind = 0) (h2 : s.ended = true) : endM s = ⟨1, zBi s.v, s.trace, s.steps, s.konts⟩ := by unfold endM; rw [if_pos ⟨h1, h2⟩]
theorem end_no {s : Mc} (h1 : ¬ (s.kind = 0 ∧ s.ended = true)) : endM s = ⟨s.kind, VT.z, s.trace, s.steps, s.konts⟩ := by unfold endM; rw [if_neg h1]
theorem st_re3 {G0 : List Nat} {W : World} {mE : Mem} {a b b' c c' : Res} {r : List Res} {w : World} {m : Mem} (h : St G0 W mE (a :: b :: c :: r) w m) (e : b = b') (e2 : c = c') : St G0 W mE (a :: b' :: c' :: r) w m := by subst e; subst e2; exact h
set_option maxHeartbeats 400000 in
theorem cloneI_c {w : World} {m : Mem} {o_l : Option Addr} {c_l : Nat} {l : List Int} (hA : Agree w m) (h_l : Ints m o_l l.length c_l l) (hb : l.length ≤ 1000000) : FnV Try.prog 29 #[.slice o_l l.length c_l] w m (fun _ m v => (MP.ints l).p m v) := by
 have hb_l := h_l.big; have hc_l := h_l.cap
 refine zZ (vs := [_]) func29 rfl rfl rfl fun a0 hfr0 => ?_
 have hst0 := zW hA (zg [] _ w m)
 have hM : MLe m m := MLe.refl m
 refine zB fun _ hK1 => ?_
 refine rp0 hst0 hfr0 (.cons rfl (zD rfl) <| .nil) fun a1 w1 m1 hst1 hle1 hk1 => ?_
 have hfr1 := hk1.fr (.o 0 <| .nil)
 replace h_l := h_l.mono hle1
 clear hst0 hfr0 hk1
 refine hK1 _ _ ?_
 refine zB fun _ hK2 => ?_
 refine zB fun _ hK3 => ?_
 refine rp0 hst1 hfr1 (.cons rfl (zC rfl) <| .cons rfl (ob_slnil rfl underlying26) <| .nil) fun a2 w2 m2 hst2 hle2 hk2 => ?_
 have hfr2 := hk2.fr (.o 0 <| .n 4 <| .nil)
 replace h_l := h_l.mono hle2
 clear hst1 hfr1 hk2
 refine hK3 _ _ ?_
 refine zE hfr2 rfl rfl (fun hb4 => ?_) (fun hb4 => ?_)
 ·try simp only [nqs] at hb4
  have hn9 : o_l = none := by cases o_l with | none => rfl | some p => simp at hb4
  subst hn9
  have hl9 : l = [] := h_l.none_nil
  refine zB fun _ hK4 => ?_
  refine rp0 hst2 hfr2 (.cons rfl (zD rfl) <| .nil) fun a3 w3 m3 hst3 hle3 hk3 => ?_
  have hfr3 := hk3.fr (.n 2 <| .nil)
  clear hst2 hfr2 hk3
  refine hK4 _ _ ?_
  refine zN ?_
  repeat (with_reducible first | refine zH ?_ | refine zG ?_)
  exact zO hst3 hfr3 rfl (.tmp rfl <| .nil) (by rw [hl9]; exact ⟨(none, 0), rfl, Sl.empty⟩)
 ·try simp only [nqs] at hb4
  refine zR ?_
  refine hK2 _ _ ?_
  refine zB fun _ hK6 => ?_
  obtain ⟨cs_7, hrw_7, hrd_7, hcl_7⟩ := h_l.reads
  replace hst2 := hst2.more (r := .free) trivial List.nodup_nil (by simp [Res.blocks])
  refine ra0 (tch := [(2, 0, (fun v => .row (nz v) _ _ _ _))]) hst2 hfr2 (.cons rfl (Zx underlying26 sizeOf3) <| .cons rfl (zC rfl) <| .consT rfl rfl (fun _ => rfl) rfl (zb 5 rfl rfl rfl fun y5 => zCk (size := 1) (bytes := 8) rfl rfl (fun _ => .inr ⟨rfl, rfl, rfl, rfl⟩) underlying26 type3 rfl rfl rfl rfl (fun w m hK => hrw_7.mono (KC.le hK)) hcl_7 (by decide) hrd_7.one (by simp only [maxLen]; omega) (by omega)) <| .consA 7 rfl rfl <| .nil) fun a3 w3 m3 hst3 hle3 hk3 => ?_
  have hfr3 := hk3.fr (.nil)
  obtain ⟨⟨oz7, cz7⟩, e8, hrz7, hcz7⟩ := hk3.ex 7 rfl
  replace e8 : zV a3 7 = .slice oz7 (l).length cz7 := by rw [e8]; refine congrArg (fun q => Value.slice _ q _) ?_; first | omega | (simp only [List.length_append, List.length_cons, List.length_nil, List.nil_append, List.length_take, List.length_drop]; try omega)
  replace hfr3 := hfr3.cons (hk3.same 2 rfl e8)
  replace hst3 := hst3.fin (L' := [_]) (.cons e8 <| .nil)
  clear hst2 hfr2 hk3
  replace hrd_7 := hrd_7.mono hle3
  have hsz7 : Ints m3 oz7 (l).length cz7 l := Reads.sl (Reads.nil.app hrd_7) hrz7 (by decide) rfl (by have h := hcz7; first | omega | (simp only [List.length_append, List.length_cons, List.length_nil, List.nil_append, List.length_take, List.length_drop] at h ⊢; omega)) (by first | omega | (simp only [List.length_append, List.length_cons, List.length_nil, List.nil_append, List.length_take, List.length_drop]; omega))
  refine hK6 _ _ ?_
  refine zN ?_
  repeat (with_reducible first | refine zH ?_ | refine zG ?_)
  exact zO hst3 hfr3 rfl (.tmp rfl <| .nil) (⟨(oz7, cz7), rfl, (show Ints _ _ _ _ _ from hsz7)⟩)
set_option maxHeartbeats 400000 in
theorem back_c {w : World} {m : Mem} {o_l : Option Addr} {c_l : Nat} {l : List Ef} (hA : Agree w m) (h_l : Efs m o_l l.length c_l l) : FnV Try.prog 30 #[.slice o_l l.length c_l] w m (fun _ m v => (MP.backV l).p m v) := by
 have hb_l := h_l.big; have hc_l := h_l.cap
 refine zZ (vs := [_]) func30 rfl rfl rfl fun a0 hfr0 => ?_
 have hst0 := zW hA (zg [] _ w m)
 have hM : MLe m m := MLe.refl m
 refine zB fun _ hK1 => ?_
 refine rp0 hst0 hfr0 (.cons rfl (zr rfl rfl) <| .cons rfl (zD rfl) <| .nil) fun a1 w1 m1 hst1 hle1 hk1 => ?_
 have hfr1 := hk1.fr (.nil)
 obtain ⟨g9, e2, hg9⟩ := hk1.ex 1 rfl
 replace hfr1 := hfr1.cons e2
 replace h_l := h_l.mono hle1
 clear hst0 hfr0 hk1
 refine hK1 _ _ ?_
 refine zB fun _ hK3 => ?_
 refine rp0 hst1 hfr1 (.cons rfl (ZN (.cons rfl <| .nil)) <| .cons rfl (zD rfl) <| .nil) fun a2 w2 m2 hst2 hle2 hk2 => ?_
 have hfr2 := hk2.fr (.n 2 <| .nil)
 replace h_l := h_l.mono hle2
 replace hg9 := hg9.mono hle2
 clear hst1 hfr1 hk2
 refine hK3 _ _ ?_
 refine zN ?_
 repeat (with_reducible first | refine zH ?_ | refine zG ?_)
 exact zO hst2 hfr2 rfl (.tmp rfl <| .nil) (⟨(g9, _, _), rfl, hg9, h_l⟩)
set_option maxHeartbeats 800000 in
theorem back1_c {w : World} {m : Mem} {ly : Nat} {bs : List Nat} {Ψ : Nat → World → Mem → Prop} {Ψx : World → Mem → Prop} {mY : Mem} {q : Addr} {o : Option Addr} {c : Nat} {l : List Ef} (hA : Agree w m) (hq : CellsAt m q [.slice o l.length c]) (h_l : Efs m o l.length c l) (hmY : MLe mY m) (hbs : bs.Nodup) (hp : (Res.pack bs (Ψ 0)).holds w m) (hy : ∀ i, i < l.length → YieldW Try.prog ly bs mY (BackY l i) (Ψ i) (Ψ (i + 1)) Ψx) : FnG Try.prog 44 #[.func (.yield ly) #[] #[], .pointer (some q)] bs w m (fun w m _ => (Res.pack bs fun w m => Ψ l.length w m ∨ Ψx w m).holds w m) := by
 have hb_l := h_l.big; have hc_l := h_l.cap
 refine zZ (vs := [_, _]) func44 rfl rfl rfl fun a0 hfr0 => ?_
 have hst0 := zW hA (zAN hp hbs)
 have hM : MLe m m := MLe.refl m
 refine zB fun _ hK1 => ?_
 refine rp0 hst0 hfr0 (.cons rfl (zk rfl hq isAgg37 rfl) <| .cons rfl (zl rfl underlying37) <| .cons rfl (zAZ rfl rfl ⟨by omega, by omega⟩) <| .cons rfl (zD rfl) <| .nil) fun a1 w1 m1 hst1 hle1 hk1 => ?_
 have hfr1 := hk1.fr (.o 0 <| .o 1 <| .n 3 <| .nil)
 replace hq := hq.mono hle1
 replace h_l := h_l.mono hle1
 replace hM := hM.trans hle1
 clear hst0 hfr0 hk1
 rw [show (l.length : Int) - 1 = (l.length : Int) - 1 - ((0 : Nat) : Int) by omega] at hfr1
 refine hK1 _ _ ?_
 refine zT ?_
 refine zx (T := [(0, _), (1, _)]) (fun (y : Nat) => ([(3, .int .i64 ((l.length : Int) - 1 - (y : Int)))] : List (Nat × Value))) (fun y => [.pack bs (Ψ y)]) (fun (y : Nat) m => (y ≤ l.length)) (fun y => l.length - y) (0) ⟨hst1, MLe.refl _, hfr1.sub (.c <| .c <| .c <| .nil), Nat.zero_le _⟩ fun y a2 w2 m2 hh2 => ?_
 have hst2 := hh2.st; have hle2 := hh2.le; have hfr2 := hh2.fr; have hrel := hh2.rel; clear hh2
 replace hq := hq.mono hle2
 replace h_l := h_l.mono hle2
 clear hst1 hfr1
 replace hM := hM.trans hle2
 have hyn := hrel
 have hlh2 := hle2
 refine zB fun _ hK3 => ?_
 refine zB fun _ hK4 => ?_
 refine rp0 hst2 hfr2 (.cons rfl (zC rfl) <| .cons rfl (zDi rfl rfl) <| .nil) fun a3 w3 m3 hst3 hle3 hk3 => ?_
 have hfr3 := hk3.fr (.o 3 <| .o 0 <| .o 1 <| .n 8 <| .nil)
 replace hq := hq.mono hle3
 replace h_l := h_l.mono hle3
 have hlh3 := hlh2.trans hle3
 replace hM := hM.trans hle3
 clear hst2 hfr2 hk3
 refine hK4 _ _ ?_
 refine zE hfr3 rfl rfl (fun hb8 => ?_) (fun hb8 => ?_)
 ·try simp only [nqs] at hb8
  have hy9 : y < l.length := by omega
  rw [show (l.length : Int) - 1 - (y : Int) = ((l.length - 1 - y : Nat) : Int) by omega] at hfr3
  refine zR ?_
  refine hK3 _ _ ?_
  refine zB fun _ hK5 => ?_
  refine zT ?_
  refine zB fun _ hK6 => ?_
  obtain ⟨p7, vs7, x7, ho7, hd7, hm_x7, ht7, hcv7, hl7, hv7⟩ := h_l.nth (k := (l.length - 1 - y)) (by omega)
  cases ho7
  obtain ⟨oE7, cE7, rfl, hop7⟩ := hv7.open_
  have hbo7 := hop7.big; have hco7 := hop7.cap
  obtain ⟨p8, vs8, x8, ho8, hd8, hm_x8, ht8, hcv8, hl8, hv8⟩ := h_l.nth (k := l.length - 1 - y) (by omega)
  cases ho8
  obtain ⟨oE8, cE8, rfl, hop8⟩ := hv8.open_
  have hbo8 := hop8.big; have hco8 := hop8.cap
  refine ra0 (tch := [(6, 0, (fun v => .pack bs _))]) hst3 hfr3 (.cons rfl (zC rfl) <| .cons rfl (zC rfl) <| .cons rfl (zk rfl hq isAgg37 rfl) <| .cons rfl (zC rfl) <| .cons rfl (zI (k := l.length - 1 - y) rfl rfl underlying37 sizeOf85 rfl (by omega)) <| .cons rfl (zY rfl hcv8 isAgg85 sizeOf85 rfl rfl) <| .consT rfl rfl (fun _ => rfl) rfl (zEp rfl (.cons rfl <| .cons rfl <| .nil) (hy y hy9) (hmY.trans hM) hbs (fun w m hK => ⟨_, x8, _, rfl, hv8.mono (KC.le hK), zAl hd8⟩)) <| .consN 17 notV rfl rfl (zDY rfl rfl) <| .nil) fun a4 w4 m4 hst4 hle4 hk4 => ?_
  have hfr4 := hk4.fr (.o 3 <| .o 0 <| .o 1 <| .nil)
  obtain ⟨b17, e9, _⟩ := hk4.ex 17 rfl
  replace hfr4 := hfr4.cons (hk4.made 18 rfl e9)
  replace hst4 := hst4.fin (L' := [_]) (.cons e9 <| .nil)
  clear hst3 hfr3 hk4
  refine hK6 _ _ ?_
  refine zE hfr4 rfl rfl (fun hb18 => ?_) (fun hb18 => ?_)
  ·try simp only [nqs] at hb18
   have hst9 := hst4.weaken (k := 0) (r' := .pack bs (Ψx)) rfl rfl (fun h => ZK h fun w m h => h.elim (fun h => by have h1 : Value.bool b17 = Value.bool true := h.1; injection h1 with h1; rw [h1] at hb18; exact absurd hb18 (by decide)) (fun h => h.2))
   simp only [List.set_cons_zero] at hst9
   clear hst4; have hst4 := hst9; clear hst9
   refine zN ?_
   repeat (with_reducible first | refine zH ?_ | refine zG ?_)
   exact zO hst4 hfr4 rfl (.nil) (ZK (hst4.loc.at_ (k := 0) rfl) fun w m h => .inr h)
  ·try simp only [nqs] at hb18
   have hst9 := hst4.weaken (k := 0) (r' := .pack bs (Ψ (y + 1))) rfl rfl (fun h => ZK h fun w m h => h.elim (fun h => h.2) (fun h => by have h1 : Value.bool b17 = Value.bool false := h.1; injection h1 with h1; rw [h1] at hb18; exact absurd hb18 (by decide)))
   simp only [List.set_cons_zero] at hst9
   clear hst4; have hst4 := hst9; clear hst9
   refine zR ?_
   refine hK5 _ _ ?_
   refine rp0 hst4 hfr4 (.cons rfl (zC rfl) <| .cons rfl (zAZ rfl rfl ⟨by omega, by omega⟩) <| .cons rfl (zD rfl) <| .nil) fun a5 w5 m5 hst5 hle5 hk5 => ?_
   have hfr5 := hk5.fr (.o 0 <| .o 1 <| .n 3 <| .nil)
   clear hst4 hfr4 hk5
   rw [show (((l.length - 1 - y : Nat) : Int) - 1) = (l.length : Int) - 1 - ((y + 1 : Nat) : Int) by omega] at hfr5
   have zq1 := hle4.trans hle5
   have hlh5 := hlh3.trans zq1
   exact ⟨y + 1, m5, by show l.length - (y + 1) < l.length - y; omega, ⟨hst5, hlh5, hfr5.sub (.c <| .c <| .c <| .nil), by show y + 1 ≤ l.length; omega⟩⟩
 ·try simp only [nqs] at hb8
  have hge : y = l.length := by omega
  subst hge
  refine zv ?_
  repeat (with_reducible first | refine Zi ?_ | refine ZT ?_ | refine ZD ?_)
  exact fn_end hst3 hfr3 rfl (.nil) (ZK (hst3.loc.at_ (k := 0) rfl) fun w m h => .inl h)
theorem back_iter {m : Mem} {q : Addr} {o : Option Addr} {c : Nat} {l : List Ef} (hq : CellsAt m q [.slice o l.length c]) (h_l : Efs m o l.length c l) : IterC Try.prog 44 [.pointer (some q)] l.length (BackY l) m :=
 fun l bs Ψ Ψx w m' hA hm hbs hp hy => back1_c hA (hq.mono hm) (h_l.mono hm) hm hbs hp hy
abbrev zFK (v : Vl) : Prop := ∀ {w : World} {m : Mem} {vs_v : List Value} {k : Int} (hA : Agree w m) (h_v : VlR m v vs_v) (hk0 : 0 ≤ k) (hk1 : k ≤ 10000), FnV Try.prog 57 #[.agg vs_v.toArray, .int .i64 k] w m (fun _ _ u => u = .int .i64 (ZH v k))
set_option maxHeartbeats 1600000 in
theorem pieces_s {v : Vl} (ih : ∀ u ∈ v.kids, zFK u) {w : World} {m : Mem} {vs_v : List Value} {k : Int} (hA : Agree w m) (h_v : VlR m v vs_v) (hk0 : 0 ≤ k) (hk1 : k ≤ 10000) : FnV Try.prog 57 #[.agg vs_v.toArray, .int .i64 k] w m (fun _ _ u => u = .int .i64 (ZH v k)) := by
 obtain ⟨⟨oa_v, ca_v, pf_v, ob_v, cb_v⟩, rfl, ⟨hi_v, hj_v⟩, hvk_v, hcl_v, hfm_v, hnl_v⟩ := h_v.open_
 have hbk_v := hvk_v.big; have hbf_v := hfm_v.big
 refine zZ (vs := [_, _]) func57 rfl rfl rfl fun a0 hfr0 => ?_
 have hst0 := zW hA (zg [] _ w m)
 have hM : MLe m m := MLe.refl m
 have hpe := zAp v k
 refine zB fun _ hK1 => ?_
 refine rp0 hst0 hfr0 (.cons rfl (zr rfl rfl) <| .cons rfl (zD rfl) <| .nil) fun a1 w1 m1 hst1 hle1 hk1 => ?_
 have hfr1 := hk1.fr (.o 1 <| .nil)
 obtain ⟨g2, e2, hc2⟩ := hk1.ex 2 rfl
 replace hfr1 := hfr1.cons e2
 replace hvk_v := hvk_v.mono hle1
 clear hst0 hfr0 hk1
 refine hK1 _ _ ?_
 refine zB fun _ hK3 => ?_
 refine rp0 hst1 hfr1 (.cons rfl (zD rfl) <| .nil) fun a2 w2 m2 hst2 hle2 hk2 => ?_
 have hfr2 := hk2.fr (.o 1 <| .o 2 <| .n 5 <| .nil)
 replace hvk_v := hvk_v.mono hle2
 replace hc2 := hc2.mono hle2
 clear hst1 hfr1 hk2
 refine hK3 _ _ ?_
 refine zB fun _ hK4 => ?_
 refine zB fun _ hK5 => ?_
 refine rp0 hst2 hfr2 (.cons rfl (zA (off := 4) rfl underlying72 rfl rfl sizeOf68 rfl) <| .cons rfl (zJ rfl hc2 isAgg68 rfl) <| .cons rfl (zl rfl underlying68) <| .cons rfl (zC rfl) <| .nil) fun a3 w3 m3 hst3 hle3 hk3 => ?_
 have hfr3 := hk3.fr (.o 1 <| .o 5 <| .n 9 <| .n 10 <| .n 11 <| .nil)
 replace hvk_v := hvk_v.mono hle3
 clear hst2 hfr2 hk3
 refine hK5 _ _ ?_
 refine zT ?_
 refine zx (T := [(1, _), (9, _), (10, _)]) (fun (y : Nat × Int) => ([(5, .int .i64 y.2), (11, .int .i64 (y.1 : Int))] : List (Nat × Value))) (fun _ => _) (fun (y : Nat × Int) m => (fun (y : Nat) (n9 : Int) => (y ≤ v.kids.length) ∧ (ZH v k = ZL (v.kids.drop y) n9 k) ∧ (1 ≤ n9) ∧ (n9 ≤ k + 1)) y.1 y.2) (fun y => v.kids.length - y.1) ((0, 1)) ⟨hst3, MLe.refl _, hfr3.sub (.c <| .c <| .c <| .c <| .c <| .nil), ⟨Nat.zero_le _, by rw [hpe]; rfl, by omega, by omega⟩⟩ fun y a4 w4 m4 hh4 => ?_
 have hst4 := hh4.st; have hle4 := hh4.le; have hfr4 := hh4.fr; have hrel := hh4.rel; clear hh4
 replace hvk_v := hvk_v.mono hle4
 clear hst3 hfr3
 obtain ⟨y, n9⟩ := y
 dsimp only at hrel hfr4 hst4
 obtain ⟨hyn, hpl, hn1, hn2⟩ := hrel
 have hlh4 := hle4
 refine zB fun _ hK7 => ?_
 refine rp0 hst4 hfr4 (.cons rfl (ZA rfl rfl) <| .nil) fun a5 w5 m5 hst5 hle5 hk5 => ?_
 have hfr5 := hk5.fr (.o 5 <| .o 11 <| .o 1 <| .o 9 <| .o 10 <| .n 12 <| .nil)
 replace hvk_v := hvk_v.mono hle5
 have hlh5 := hlh4.trans hle5
 clear hst4 hfr4 hk5
 refine hK7 _ _ ?_
 refine zB fun _ hK8 => ?_
 refine zE hfr5 rfl rfl (fun hb12 => ?_) (fun hb12 => ?_)
 ·try simp only [nqs] at hb12
  refine zR ?_
  refine hK8 _ _ ?_
  refine zB fun _ hK9 => ?_
  refine zT ?_
  refine zB fun _ hK10 => ?_
  obtain ⟨p11, vs11, x11, ho11, hd11, hm_x11, ht11, hcv11, hl11, hv11⟩ := hvk_v.nth (k := y) (by omega)
  cases ho11
  obtain ⟨⟨oa11, ca11, pf11, ob11, cb11⟩, rfl, ⟨hi11, hj11⟩, hvk11, hcl11, hfm11, hnl11⟩ := hv11.open_
  have hbk11 := hvk11.big; have hbf11 := hfm11.big
  replace hst5 := hst5.more (r := .free) trivial List.nodup_nil (by simp [Res.blocks])
  refine ra0 (tch := [(2, 0, (fun v => .blk v _)), (3, 0, (fun v => .blk v _))]) hst5 hfr5 (.cons rfl (zI (k := y) rfl rfl underlying68 sizeOf72 rfl (by omega)) <| .cons rfl (zY rfl hcv11 isAgg72 sizeOf72 rfl rfl) <| .consT rfl rfl (fun _ => rfl) rfl (zP zeroValue72 rfl) <| .consT rfl rfl (fun _ => rfl) rfl (zb 7 rfl rfl rfl fun y7 => za rfl rfl rfl rfl rfl sizeOf72 rfl rfl hv11.one) <| .nil) fun a6 w6 m6 hst6 hle6 hk6 => ?_
  have hfr6 := hk6.fr (.o 5 <| .o 11 <| .o 1 <| .o 9 <| .o 10 <| .nil)
  obtain ⟨g12, e12, _⟩ := hk6.ex 7 rfl
  replace hfr6 := hfr6.cons e12
  replace hst6 := hst6.fin (L' := [_]) (.cons e12 <| .cons e12 <| .nil)
  try simp only [List.take_succ_cons, List.take_zero, List.drop_succ_cons, List.drop_zero, List.cons_append, List.nil_append, List.append_nil, List.length_cons, List.length_nil, Nat.zero_add, Nat.reduceAdd] at hst6
  clear hst5 hfr5 hk6
  refine hK10 _ _ ?_
  refine zB fun _ hK13 => ?_
  refine zB fun _ hK14 => ?_
  refine rp0 hst6 hfr6 (.cons rfl (zC rfl) <| .cons rfl (zC rfl) <| .cons rfl (zFI rfl rfl) <| .nil) fun a7 w7 m7 hst7 hle7 hk7 => ?_
  have hfr7 := hk7.fr (.o 5 <| .o 11 <| .o 1 <| .o 9 <| .o 10 <| .o 7 <| .n 17 <| .nil)
  clear hst6 hfr6 hk7
  refine hK14 _ _ ?_
  refine zE hfr7 rfl rfl (fun hb17 => ?_) (fun hb17 => ?_)
  ·try simp only [nqs] at hb17
   rw [piecesL_over _ (by omega)] at hpl
   refine zv ?_
   refine hK4 _ _ ?_
   refine zB fun _ hK15 => ?_
   refine rp0 hst7 hfr7 (.cons rfl (zC rfl) <| .cons rfl (zD rfl) <| .nil) fun a8 w8 m8 hst8 hle8 hk8 => ?_
   have hfr8 := hk8.fr (.o 5 <| .o 11 <| .n 4 <| .nil)
   clear hst7 hfr7 hk8
   refine hK15 _ _ ?_
   refine zN ?_
   repeat (with_reducible first | refine zH ?_ | refine zG ?_)
   exact zO hst8 hfr8 rfl (.tmp rfl <| .nil) (by rw [hpl]; rfl)
  ·try simp only [nqs] at hb17
   rw [hd11, ZL, if_neg (by omega)] at hpl
   have hpr9 := zCC x11 (k - n9) (by omega)
   refine zR ?_
   refine hK13 _ _ ?_
   have zq1 := hle6.trans hle7
   replace hv11 := hv11.mono zq1
   refine rp0 hst7 hfr7 (.cons rfl (zC rfl) <| .cons rfl (zh (j := 0) rfl rfl isAgg72 sizeOf72 rfl) <| .cons rfl (zC rfl) <| .cons rfl (zC rfl) <| .cons rfl (zAZ rfl rfl ⟨by omega, by omega⟩) <| .cons rfl (zX rfl (.cons rfl <| .cons rfl <| .nil) call57 (fun w m hK => by have hle_ := KC.le hK; have hA := KC.agree hK; have hv11 := hv11.mono hle_; exact ih _ hm_x11 hA hv11 (by omega) (by omega))) <| .cons rfl (z6 rfl rfl ⟨by omega, by omega⟩) <| .cons rfl (zD rfl) <| .nil) fun a8 w8 m8 hst8 hle8 hk8 => ?_
   have hfr8 := hk8.fr (.o 11 <| .o 1 <| .o 9 <| .o 10 <| .n 5 <| .nil)
   clear hst7 hfr7 hk8
   refine hK9 _ _ ?_
   refine rp0 hst8 hfr8 (.cons rfl (z6 rfl rfl ⟨by omega, by omega⟩) <| .cons rfl (zC rfl) <| .nil) fun a9 w9 m9 hst9 hle9 hk9 => ?_
   have hfr9 := hk9.fr (.o 1 <| .o 9 <| .o 10 <| .o 5 <| .n 11 <| .nil)
   clear hst8 hfr8 hk9
   have hst9 := hst9.take 0
   have zq2 := hle8.trans hle9
   have zq3 := zq1.trans zq2
   have hlh9 := hlh5.trans zq3
   exact ⟨(y + 1, (n9 + ZH x11 (k - n9))), m9, by show v.kids.length - (y + 1) < v.kids.length - y; omega, ⟨hst9, hlh9, hfr9.sub (.c <| .c <| .c <| .c <| .c <| .nil), ⟨by show y + 1 ≤ v.kids.length; omega, hpl, by omega, by omega⟩⟩⟩
 ·try simp only [nqs] at hb12
  have hge : y = v.kids.length := by omega
  rw [List.drop_of_length_le (by omega), ZL] at hpl
  refine zv ?_
  refine hK4 _ _ ?_
  refine zB fun _ hK17 => ?_
  refine rp0 hst5 hfr5 (.cons rfl (zC rfl) <| .cons rfl (zD rfl) <| .nil) fun a6 w6 m6 hst6 hle6 hk6 => ?_
  have hfr6 := hk6.fr (.o 5 <| .o 11 <| .n 4 <| .nil)
  clear hst5 hfr5 hk6
  refine hK17 _ _ ?_
  refine zN ?_
  repeat (with_reducible first | refine zH ?_ | refine zG ?_)
  exact zO hst6 hfr6 rfl (.tmp rfl <| .nil) (by rw [hpl]; rfl)
theorem pieces_c (v : Vl) : zFK v := Vl.rec_ (p := zFK) (fun v ih => pieces_s ih) v
abbrev whole_G (v : Vl) : Prop := ∀ {w : World} {m : Mem} {vs_v : List Value} (hA : Agree w m) (h_v : VlR m v vs_v) (hsz : zBq v ≤ 10000), FnV Try.prog 58 #[.agg vs_v.toArray] w m (fun _ m u => (MP.vt (ZY v)).p m u)
set_option maxHeartbeats 1600000 in
theorem whole_s {v : Vl} (ih : ∀ u ∈ v.kids, whole_G u) {w : World} {m : Mem} {vs_v : List Value} (hA : Agree w m) (h_v : VlR m v vs_v) (hsz : zBq v ≤ 10000) : FnV Try.prog 58 #[.agg vs_v.toArray] w m (fun _ m u => (MP.vt (ZY v)).p m u) := by
 obtain ⟨⟨oa_v, ca_v, pf_v, ob_v, cb_v⟩, rfl, ⟨hi_v, hj_v⟩, hvk_v, hcl_v, hfm_v, hnl_v⟩ := h_v.open_
 have hbk_v := hvk_v.big; have hbf_v := hfm_v.big
 refine zZ (vs := [_]) func58 rfl rfl rfl fun a0 hfr0 => ?_
 have hst0 := zW hA (zg [] _ w m)
 have hM : MLe m m := MLe.refl m
 have hse := zEw v
 have hsl := zEi v.kids
 refine zB fun _ hK1 => ?_
 replace hst0 := hst0.more (r := .free) trivial List.nodup_nil (by simp [Res.blocks])
 refine ra0 (tch := [(1, 0, (fun v => .blk v _))]) hst0 hfr0 (.cons rfl (zr rfl rfl) <| .consT rfl rfl (fun _ => rfl) rfl (zP zeroValue31 rfl) <| .nil) fun a1 w1 m1 hst1 hle1 hk1 => ?_
 have hfr1 := hk1.fr (.nil)
 obtain ⟨g2, e2, hc1⟩ := hk1.ex 1 rfl
 replace hfr1 := hfr1.cons e2
 obtain ⟨g2, e3, _⟩ := hk1.ex 2 rfl
 replace hfr1 := hfr1.cons e3
 replace hst1 := hst1.fin (L' := [_]) (.cons e3 <| .nil)
 replace hvk_v := hvk_v.mono hle1
 clear hst0 hfr0 hk1
 refine hK1 _ _ ?_
 refine zB fun _ hK4 => ?_
 replace hst1 := hst1.more (r := .free) trivial List.nodup_nil (by simp [Res.blocks])
 refine ra0 (tch := [(2, 1, (fun v => .blk v _)), (3, 1, (fun v => .blk v _))]) hst1 hfr1 (.cons rfl (zA (off := 0) rfl underlying72 rfl rfl sizeOf31 rfl) <| .cons rfl (Zk rfl hc1 isAgg31 sizeOf31 rfl rfl) <| .consT rfl rfl (fun _ => rfl) rfl (zP zeroValue31 rfl) <| .consT rfl rfl (fun _ => rfl) rfl (zb 3 rfl rfl rfl fun y3 => za rfl rfl rfl rfl rfl sizeOf31 rfl rfl rfl) <| .nil) fun a2 w2 m2 hst2 hle2 hk2 => ?_
 have hfr2 := hk2.fr (.o 1 <| .o 2 <| .nil)
 obtain ⟨g3, e5, _⟩ := hk2.ex 3 rfl
 replace hfr2 := hfr2.cons e5
 replace hst2 := hst2.fin (L' := [_, _]) (.cons e5 <| .cons e5 <| .nil)
 try simp only [List.take_succ_cons, List.take_zero, List.drop_succ_cons, List.drop_zero, List.cons_append, List.nil_append, List.append_nil, List.length_cons, List.length_nil, Nat.zero_add, Nat.reduceAdd] at hst2
 replace hvk_v := hvk_v.mono hle2
 replace hc1 := hc1.mono hle2
 clear hst1 hfr1 hk2
 have hst2 := hst2.more (r := .rowx (.slice none 0 0) 0 4 31 (MP.reads (fun m vs t => VR m t vs) 4 [])) zEK List.nodup_nil (by simp [Res.blocks, ZC])
 have hsl_K : VKids m2 none ([] : List VT).length 0 ([] : List VT) := Sl.empty
 refine hK4 _ _ ?_
 refine zB fun _ hK6 => ?_
 refine zB fun _ hK7 => ?_
 refine rp0 hst2 hfr2 (.cons rfl (zA (off := 4) rfl underlying72 rfl rfl sizeOf68 rfl) <| .cons rfl (zJ rfl hc1 isAgg68 rfl) <| .cons rfl (zl rfl underlying68) <| .cons rfl (zC rfl) <| .nil) fun a3 w3 m3 hst3 hle3 hk3 => ?_
 have hfr3 := hk3.fr (.o 2 <| .o 3 <| .n 9 <| .n 10 <| .n 11 <| .nil)
 replace hvk_v := hvk_v.mono hle3
 replace hsl_K := hsl_K.mono hle3
 clear hst2 hfr2 hk3
 refine hK7 _ _ ?_
 refine zT ?_
 refine zx (T := [(2, _), (3, _), (9, _), (10, _)]) (fun (y : Nat × Option Addr × Nat × List VT) => ([(11, .int .i64 (y.1 : Int))] : List (Nat × Value))) (fun y => [_, .blk (.pointer (some ⟨g3, 0, none⟩)) (.cells (vtV ⟨v.kind, v.n, v.name, y.2.2.2⟩ y.2.1 y.2.2.1).toArray 31), .rowx (nz (.slice y.2.1 y.2.2.2.length y.2.2.1)) y.2.2.2.length 4 31 (MP.reads (fun m vs t => VR m t vs) 4 y.2.2.2)]) (fun (y : Nat × Option Addr × Nat × List VT) m => (fun (y : Nat) (klo : Option Addr) (klp : Nat) (kl : List VT) => (y ≤ v.kids.length) ∧ (VKids m klo kl.length klp kl) ∧ (zAb v.kids = kl ++ zAb (v.kids.drop y) ∧ kl.length = y)) y.1 y.2.1 y.2.2.1 y.2.2.2) (fun y => v.kids.length - y.1) ((0, none, 0, ([] : List VT))) ⟨hst3, MLe.refl _, hfr3.sub (.c <| .c <| .c <| .c <| .c <| .nil), ⟨Nat.zero_le _, hsl_K, ⟨rfl, rfl⟩⟩⟩ fun y a4 w4 m4 hh4 => ?_
 have hst4 := hh4.st; have hle4 := hh4.le; have hfr4 := hh4.fr; have hrel := hh4.rel; clear hh4
 replace hvk_v := hvk_v.mono hle4
 clear hst3 hfr3
 obtain ⟨y, klo, klp, kl⟩ := y
 dsimp only at hrel hfr4 hst4
 obtain ⟨hyn, hsl_kl, hlen_kl⟩ := hrel
 have hlh4 := hle4
 refine zB fun _ hK9 => ?_
 refine rp0 hst4 hfr4 (.cons rfl (ZA rfl rfl) <| .nil) fun a5 w5 m5 hst5 hle5 hk5 => ?_
 have hfr5 := hk5.fr (.o 11 <| .o 2 <| .o 3 <| .o 9 <| .o 10 <| .n 12 <| .nil)
 replace hvk_v := hvk_v.mono hle5
 replace hsl_kl := hsl_kl.mono hle5
 have hlh5 := hlh4.trans hle5
 clear hst4 hfr4 hk5
 refine hK9 _ _ ?_
 refine zB fun _ hK10 => ?_
 refine zE hfr5 rfl rfl (fun hb12 => ?_) (fun hb12 => ?_)
 ·try simp only [nqs] at hb12
  refine zR ?_
  refine hK10 _ _ ?_
  refine zB fun _ hK11 => ?_
  refine zT ?_
  refine zB fun _ hK12 => ?_
  obtain ⟨p13, vs13, x13, ho13, hd13, hm_x13, ht13, hcv13, hl13, hv13⟩ := hvk_v.nth (k := y) (by omega)
  cases ho13
  obtain ⟨⟨oa13, ca13, pf13, ob13, cb13⟩, rfl, ⟨hi13, hj13⟩, hvk13, hcl13, hfm13, hnl13⟩ := hv13.open_
  have hbk13 := hvk13.big; have hbf13 := hfm13.big
  rw [hd13, zAb] at hlen_kl
  replace hst5 := hst5.more (r := .free) trivial List.nodup_nil (by simp [Res.blocks])
  refine ra0 (tch := [(2, 3, (fun v => .blk v _)), (3, 3, (fun v => .blk v _))]) hst5 hfr5 (.cons rfl (zI (k := y) rfl rfl underlying68 sizeOf72 rfl (by omega)) <| .cons rfl (zY rfl hcv13 isAgg72 sizeOf72 rfl rfl) <| .consT rfl rfl (fun _ => rfl) rfl (zP zeroValue72 rfl) <| .consT rfl rfl (fun _ => rfl) rfl (zb 5 rfl rfl rfl fun y5 => za rfl rfl rfl rfl rfl sizeOf72 rfl rfl hv13.one) <| .nil) fun a6 w6 m6 hst6 hle6 hk6 => ?_
  have hfr6 := hk6.fr (.o 11 <| .o 2 <| .o 3 <| .o 9 <| .o 10 <| .nil)
  obtain ⟨g5, e14, _⟩ := hk6.ex 5 rfl
  replace hfr6 := hfr6.cons e14
  replace hst6 := hst6.fin (L' := [_, _, _, _]) (.cons e14 <| .cons e14 <| .nil)
  try simp only [List.take_succ_cons, List.take_zero, List.drop_succ_cons, List.drop_zero, List.cons_append, List.nil_append, List.append_nil, List.length_cons, List.length_nil, Nat.zero_add, Nat.reduceAdd] at hst6
  clear hst5 hfr5 hk6
  refine hK12 _ _ ?_
  replace hv13 := hv13.mono hle6
  refine zc (tch := [(5, 2, (fun v => .rowx (nz v) _ _ _ _)), (7, 1, (fun u => .blk _ (.cells (_ ++ [u] ++ _).toArray _)))]) (fun _ => zw) hst6 hfr6 (by kernel_rfl) (by kernel_rfl) (by kernel_rfl) (.cons rfl (zA (off := 3) rfl underlying31 rfl rfl sizeOf29 rfl) <| .cons rfl (zK (j := 1) rfl rfl isAgg29 rfl) <| .cons rfl (zh (j := 3) rfl rfl isAgg72 sizeOf72 rfl) <| .cons rfl (zm (φ := MP.vt (ZY x13)) rfl (.cons rfl <| .nil) call58 (fun w m hK => by have hle_ := KC.le hK; have hA := KC.agree hK; have hv13 := hv13.mono hle_; exact FnG.mono (ih _ hm_x13 hA hv13 (by have := zFO hm_x13; omega)) fun _ _ _ _ h => h)) <| .cons rfl (zBA 18 rfl rfl rfl fun y18 => ZV rfl underlying29 sizeOf31 zeroValue31 rfl rfl rfl rfl) <| .consT rfl rfl (fun _ => rfl) rfl (zb 19 rfl rfl rfl fun y19 => zCm (size := 4) (bytes := 56) (l := kl) (l' := [ZY x13]) rfl rfl (fun _ => by first | exact .inl rfl | exact .inr (.inl rfl)) underlying29 type31 rfl rfl rfl rfl (fun w m hK => Sl.one (R := fun m vs t => VR m t vs) hK.2.2 hK.2.1.len hK.2.1) rfl (by decide) (by simp only [maxLen]; omega) (by omega)) <| .cons rfl (zA (off := 3) rfl underlying31 rfl rfl sizeOf29 rfl) <| .consT rfl rfl (fun _ => rfl) rfl (zb 20 rfl rfl rfl fun y20 => zAj rfl rfl rfl rfl rfl sizeOf29 rfl rfl rfl) <| .nil) fun a7 w7 m7 hst7 hle7 hk7 => ?_
  have hfr7 := hk7.fr (.o 11 <| .o 2 <| .o 3 <| .o 9 <| .o 10 <| .nil)
  obtain ⟨⟨K_15o, K_15p⟩, e16, hsl_K_15⟩ := hk7.ex 20 rfl
  replace hst7 := hst7.fin (L' := [_, _, _, _]) (.cons e16 <| .cons e16 <| .nil)
  try simp only [List.take_succ_cons, List.take_zero, List.drop_succ_cons, List.drop_zero, List.cons_append, List.nil_append, List.append_nil, List.length_cons, List.length_nil, Nat.zero_add, Nat.reduceAdd] at hst7
  clear hst6 hfr6 hk7
  replace hsl_K_15 : VKids m7 K_15o (kl ++ [ZY x13]).length K_15p (kl ++ [ZY x13]) := hsl_K_15
  refine hK11 _ _ ?_
  refine rp0 hst7 hfr7 (.cons rfl (z6 rfl rfl ⟨by omega, by omega⟩) <| .cons rfl (zC rfl) <| .nil) fun a8 w8 m8 hst8 hle8 hk8 => ?_
  have hfr8 := hk8.fr (.o 2 <| .o 3 <| .o 9 <| .o 10 <| .n 11 <| .nil)
  clear hst7 hfr7 hk8
  have hst8 := hst8.take 3
  replace hsl_K_15 := hsl_K_15.mono hle8
  have zq1 := hle7.trans hle8
  have zq2 := hle6.trans zq1
  have hlh8 := hlh5.trans zq2
  exact ⟨(y + 1, K_15o, K_15p, (kl ++ [ZY x13])), m8, by show v.kids.length - (y + 1) < v.kids.length - y; omega, ⟨hst8, hlh8, hfr8.sub (.c <| .c <| .c <| .c <| .c <| .nil), ⟨by show y + 1 ≤ v.kids.length; omega, hsl_K_15, ⟨by rw [hlen_kl.1]; simp, by show (kl ++ [_]).length = y + 1; simp; exact hlen_kl.2⟩⟩⟩⟩
 ·try simp only [nqs] at hb12
  have hge : y = v.kids.length := by omega
  rw [List.drop_of_length_le (by omega), zAb, List.append_nil] at hlen_kl
  refine zv ?_
  refine hK6 _ _ ?_
  refine zB fun _ hK17 => ?_
  have hout : VR m5 ⟨v.kind, v.n, v.name, kl⟩ (vtV ⟨v.kind, v.n, v.name, kl⟩ klo klp) := VR.build hsl_kl hi_v hj_v
  have hfin : ZY v = ⟨v.kind, v.n, v.name, kl⟩ := by rw [zDe, hlen_kl.1]
  refine ra0 (tch := [(1, 0, (fun _ => .blk _ _))]) hst5 hfr5 (.cons rfl (zh (j := 1) rfl rfl isAgg31 sizeOf31 rfl) <| .consT rfl rfl (fun _ => rfl) rfl (ze rfl rfl rfl sizeOf31 rfl rfl hout.one) <| .nil) fun a6 w6 m6 hst6 hle6 hk6 => ?_
  have hfr6 := hk6.fr (.o 11 <| .o 2 <| .nil)
  replace hst6 := hst6.fin (L' := [_, _, _]) (.cons rfl <| .nil)
  try simp only [List.take_succ_cons, List.take_zero, List.drop_succ_cons, List.drop_zero, List.cons_append, List.nil_append, List.append_nil, List.length_cons, List.length_nil, Nat.zero_add, Nat.reduceAdd] at hst6
  clear hst5 hfr5 hk6
  refine hK17 _ _ ?_
  refine zN ?_
  repeat (with_reducible first | refine zH ?_ | refine zG ?_)
  replace hout := hout.mono hle6
  exact zO hst6 hfr6 rfl (.cell rfl (zi (zf (hst6.loc.at_ (k := 0) rfl)) isAgg31 sizeOf31) <| .nil) (⟨(klo, klp), by rw [hfin]; rfl, by rw [hfin]; exact hout⟩)
theorem whole_c (v : Vl) : whole_G v := Vl.rec_ (p := whole_G) (fun v ih => whole_s ih) v
set_option maxHeartbeats 800000 in
theorem shownv_c {w : World} {m : Mem} {v : Vl} {vs_v : List Value} (hA : Agree w m) (h_v : VlR m v vs_v) : FnV Try.prog 36 #[.agg vs_v.toArray] w m (fun _ m u => (MP.vt (zBi v)).p m u) := by
 obtain ⟨⟨oa_v, ca_v, pf_v, ob_v, cb_v⟩, rfl, ⟨hi_v, hj_v⟩, hvk_v, hcl_v, hfm_v, hnl_v⟩ := h_v.open_
 have hbk_v := hvk_v.big; have hbf_v := hfm_v.big
 refine zZ (vs := [_]) func36 rfl rfl rfl fun a0 hfr0 => ?_
 have hst0 := zW hA (zg [] _ w m)
 have hM : MLe m m := MLe.refl m
 refine zB fun _ hK1 => ?_
 replace hst0 := hst0.more (r := .free) trivial List.nodup_nil (by simp [Res.blocks])
 replace hst0 := hst0.more (r := .free) trivial List.nodup_nil (by simp [Res.blocks])
 refine ra0 (tch := [(0, 0, (fun v => .blk v _)), (1, 1, (fun v => .blk v _))]) hst0 hfr0 (.consT rfl rfl (fun _ => rfl) rfl (zEB rfl rfl) <| .consT rfl rfl (fun _ => rfl) rfl (zP zeroValue31 rfl) <| .nil) fun a1 w1 m1 hst1 hle1 hk1 => ?_
 have hfr1 := hk1.fr (.nil)
 obtain ⟨g1, e2, _⟩ := hk1.ex 1 rfl
 replace hfr1 := hfr1.cons e2
 obtain ⟨g2, e3, _⟩ := hk1.ex 2 rfl
 replace hfr1 := hfr1.cons e3
 replace hst1 := hst1.fin (L' := [_, _]) (.cons e2 <| .cons e3 <| .nil)
 replace h_v := h_v.mono hle1
 replace hcl_v := hcl_v.mono hle1
 replace hfm_v := hfm_v.mono hle1
 clear hst0 hfr0 hk1
 refine hK1 _ _ ?_
 refine zB fun _ hK4 => ?_
 refine zB fun _ hK5 => ?_
 refine rp0 hst1 hfr1 (.cons rfl (zh (j := 0) rfl rfl isAgg72 sizeOf72 rfl) <| .cons rfl (zX rfl (.cons rfl <| .cons rfl <| .nil) call57 (fun w m hK => by have hle_ := KC.le hK; have hA := KC.agree hK; have h_v := h_v.mono hle_; exact pieces_c v hA h_v (by omega) (by omega))) <| .cons rfl (zFI rfl rfl) <| .nil) fun a2 w2 m2 hst2 hle2 hk2 => ?_
 have hfr2 := hk2.fr (.o 1 <| .o 2 <| .n 5 <| .nil)
 replace h_v := h_v.mono hle2
 replace hcl_v := hcl_v.mono hle2
 replace hfm_v := hfm_v.mono hle2
 clear hst1 hfr1 hk2
 refine hK5 _ _ ?_
 refine zE hfr2 rfl rfl (fun hb5 => ?_) (fun hb5 => ?_)
 ·try simp only [nqs] at hb5
  have hsh9 : zBi v = ZY ⟨v.kind, v.n, v.name, [], v.clo, v.fs⟩ := by rw [wholeV_bare]; exact if_pos hb5
  have hbr9 : VlR m2 ⟨v.kind, v.n, v.name, [], v.clo, v.fs⟩ (vlV ⟨v.kind, v.n, v.name, [], v.clo, v.fs⟩ ⟨none, 0, pf_v, ob_v, cb_v⟩) := VlR.build hi_v hj_v Sl.empty hcl_v hfm_v hnl_v
  have hsz9 : zBq ⟨v.kind, v.n, v.name, [], v.clo, v.fs⟩ ≤ 10000 := by rw [sizeV_bare]; decide
  refine ra0 (tch := [(1, 0, (fun _ => .blk _ _))]) hst2 hfr2 (.cons rfl (zA (off := 4) rfl underlying72 rfl rfl sizeOf68 rfl) <| .consT rfl rfl (fun _ => rfl) rfl (z1 rfl rfl rfl sizeOf68 rfl rfl rfl) <| .nil) fun a3 w3 m3 hst3 hle3 hk3 => ?_
  have hfr3 := hk3.fr (.o 1 <| .o 2 <| .nil)
  replace hst3 := hst3.fin (L' := [_, _]) (.cons rfl <| .nil)
  try simp only [List.take_succ_cons, List.take_zero, List.drop_succ_cons, List.drop_zero, List.cons_append, List.nil_append, List.append_nil, List.length_cons, List.length_nil, Nat.zero_add, Nat.reduceAdd] at hst3
  clear hst2 hfr2 hk3
  refine hK4 _ _ ?_
  refine zB fun _ hK6 => ?_
  replace hbr9 := hbr9.mono hle3
  refine ra0 (tch := [(2, 1, (fun _ => .blkx _ _ _))]) hst3 hfr3 (.cons rfl (zh (j := 0) rfl rfl isAgg72 sizeOf72 rfl) <| .cons rfl (zm (φ := MP.vt (ZY (⟨v.kind, v.n, v.name, [], v.clo, v.fs⟩ : Vl))) rfl (.cons rfl <| .nil) call58 (fun w m hK => by have hle_ := KC.le hK; have hA := KC.agree hK; have hbr9 := hbr9.mono hle_; exact FnG.mono (whole_c (⟨v.kind, v.n, v.name, [], v.clo, v.fs⟩ : Vl) hA hbr9 hsz9) fun _ _ _ _ h => h)) <| .consT rfl rfl (fun _ => rfl) rfl (z8 8 rfl rfl rfl fun y8 => ze rfl rfl rfl sizeOf31 rfl rfl rfl) <| .nil) fun a4 w4 m4 hst4 hle4 hk4 => ?_
  have hfr4 := hk4.fr (.o 2 <| .nil)
  replace hst4 := hst4.fin (L' := [_, _]) (.cons rfl <| .nil)
  try simp only [List.take_succ_cons, List.take_zero, List.drop_succ_cons, List.drop_zero, List.cons_append, List.nil_append, List.append_nil, List.length_cons, List.length_nil, Nat.zero_add, Nat.reduceAdd] at hst4
  obtain ⟨y9, hy9, hst4⟩ := hst4.unx (k := 1) rfl (fun _ => rfl)
  clear hst3 hfr3 hk4
  refine hK6 _ _ ?_
  refine zN ?_
  repeat (with_reducible first | refine zH ?_ | refine zG ?_)
  exact zO hst4 hfr4 rfl (.cell rfl (zi (zf (hst4.loc.at_ (k := 1) rfl)) isAgg31 sizeOf31) <| .nil) (⟨y9, by rw [hsh9]; rfl, by rw [hsh9]; exact hy9⟩)
 ·try simp only [nqs] at hb5
  have hsh9 : zBi v = ZY v := if_neg hb5
  have hsz9 : zBq v ≤ 10000 := by have := pieces_size v 10000 (by omega) (by omega); omega
  refine zR ?_
  refine hK4 _ _ ?_
  refine zB fun _ hK9 => ?_
  refine ra0 (tch := [(2, 1, (fun _ => .blkx _ _ _))]) hst2 hfr2 (.cons rfl (zh (j := 0) rfl rfl isAgg72 sizeOf72 rfl) <| .cons rfl (zm (φ := MP.vt (ZY v)) rfl (.cons rfl <| .nil) call58 (fun w m hK => by have hle_ := KC.le hK; have hA := KC.agree hK; have h_v := h_v.mono hle_; exact FnG.mono (whole_c v hA h_v hsz9) fun _ _ _ _ h => h)) <| .consT rfl rfl (fun _ => rfl) rfl (z8 8 rfl rfl rfl fun y8 => ze rfl rfl rfl sizeOf31 rfl rfl rfl) <| .nil) fun a3 w3 m3 hst3 hle3 hk3 => ?_
  have hfr3 := hk3.fr (.o 2 <| .nil)
  replace hst3 := hst3.fin (L' := [_, _]) (.cons rfl <| .nil)
  try simp only [List.take_succ_cons, List.take_zero, List.drop_succ_cons, List.drop_zero, List.cons_append, List.nil_append, List.append_nil, List.length_cons, List.length_nil, Nat.zero_add, Nat.reduceAdd] at hst3
  obtain ⟨y9, hy9, hst3⟩ := hst3.unx (k := 1) rfl (fun _ => rfl)
  clear hst2 hfr2 hk3
  refine hK9 _ _ ?_
  refine zN ?_
  repeat (with_reducible first | refine zH ?_ | refine zG ?_)
  exact zO hst3 hfr3 rfl (.cell rfl (zi (zf (hst3.loc.at_ (k := 1) rfl)) isAgg31 sizeOf31) <| .nil) (⟨y9, by rw [hsh9]; rfl, by rw [hsh9]; exact hy9⟩)
end Go.Proofs.Ytnppknioifgdfaa
namespace Go.Proofs.Ytnppknioifgdfaa
open Go.Proofs.Try
set_option linter.all false
set_option maxRecDepth 4000
open Go.RowKit
set_option maxHeartbeats 12800000 in
theorem run_c {w : World} {m : Mem} {c : Cd} {vs_c : List Value} {o_es : Option Addr} {c_es : Nat} {es : List Ef} {o_input : Option Addr} {c_input : Nat} {input : List Int} {fuel : Nat} {r : Rn} (hA : Agree w m) (h_c : CdR m c vs_c) (h_es : Efs m o_es es.length c_es es) (h_input : Ints m o_input input.length c_input input) (hin0 : ∀ n ∈ input, zo n) (hrun : runR c es input fuel = some r) (hli : input.length ≤ 1000000) (hfu : fuel ≤ 1000000) : FnV Try.prog 14 #[.agg vs_c.toArray, .slice o_es es.length c_es, .slice o_input input.length c_input, .int .i64 (fuel : Int)] w m (fun _ m v => (MP.rn r).p m v) := by
 obtain ⟨⟨oK_c, cK_c, oA_c, cA_c⟩, rfl, ⟨hik_c, hin_c⟩, hkk_c, haa_c⟩ := h_c.open_
 dsimp only at hkk_c haa_c
 have hbg_c := hkk_c.big; have hcp_c := hkk_c.cap; have hbh_c := haa_c.big; have hcq_c := haa_c.cap
 have hb_es := h_es.big; have hc_es := h_es.cap
 have hb_input := h_input.big; have hc_input := h_input.cap
 refine fn_enterM (vs := [_, _, _, _]) func14 rfl rfl fun a0 hfr0 => ?_
 have hst0 := zW hA (zg [] _ w m)
 have hM : MLe m m := MLe.refl m
 refine zB fun _ hK1 => ?_
 replace hst0 := hst0.more (r := .free) trivial List.nodup_nil (by simp [Res.blocks])
 refine ra0 (tch := [(1, 0, (fun v => .blk v _))]) hst0 hfr0 (.cons rfl (zr rfl rfl) <| .consT rfl rfl (fun _ => rfl) rfl (zP zeroValue35 rfl) <| .nil) fun a1 w1 m1 hst1 hle1 hk1 => ?_
 have hfr1 := hk1.fr (.o 0 <| .o 1 <| .o 2 <| .o 3 <| .nil)
 obtain ⟨g4, e2, hc4⟩ := hk1.ex 4 rfl
 replace hfr1 := hfr1.cons e2
 obtain ⟨g8, e3, _⟩ := hk1.ex 8 rfl
 replace hfr1 := hfr1.cons e3
 replace hst1 := hst1.fin (L' := [_]) (.cons e3 <| .nil)
 replace h_c := h_c.mono hle1
 replace hkk_c := hkk_c.mono hle1
 replace haa_c := haa_c.mono hle1
 replace h_es := h_es.mono hle1
 replace h_input := h_input.mono hle1
 replace hM := hM.trans hle1
 clear hst0 hfr0 hk1
 refine hK1 _ _ ?_
 refine zB fun _ hK4 => ?_
 refine zB fun _ hK5 => ?_
 refine rp0 hst1 hfr1 (.cons rfl (zY rfl hc4 isAgg25 sizeOf25 rfl rfl) <| .cons rfl (zX rfl (.cons rfl <| .nil) call28 (fun w m hK => by have hle_ := KC.le hK; have hA := KC.agree hK; have h_c := h_c.mono hle_; exact right_c c hA h_c)) <| .cons rfl (z2 rfl) <| .nil) fun a2 w2 m2 hst2 hle2 hk2 => ?_
 have hfr2 := hk2.fr (.o 0 <| .o 1 <| .o 2 <| .o 3 <| .o 4 <| .o 8 <| .n 17 <| .nil)
 replace h_c := h_c.mono hle2
 replace hkk_c := hkk_c.mono hle2
 replace haa_c := haa_c.mono hle2
 replace h_es := h_es.mono hle2
 replace h_input := h_input.mono hle2
 replace hc4 := hc4.mono hle2
 replace hM := hM.trans hle2
 clear hst1 hfr1 hk2
 refine hK5 _ _ ?_
 refine zE hfr2 rfl rfl (fun hb17 => ?_) (fun hb17 => ?_)
 ·try simp only [nqs] at hb17
  have hr0 : r = ⟨4, VT.z, [], 0, 0⟩ := by unfold runR at hrun; rw [if_neg (by rw [hb17]; decide)] at hrun; injection hrun with hrun; exact hrun.symm
  refine zB fun _ hK6 => ?_
  refine ra0 (tch := [(2, 0, (fun _ => .blk _ _))]) hst2 hfr2 (.cons rfl (zQ (.cons rfl <| .nil) underlying33 zeroValue33 (.cons sizeOf3 <| .cons sizeOf31 <| .nil) rfl) <| .cons rfl (zQ (.cons rfl <| .nil) underlying35 zeroValue35 (.cons sizeOf33 <| .cons sizeOf26 <| .cons sizeOf3 <| .cons sizeOf3 <| .nil) rfl) <| .consT rfl rfl (fun _ => rfl) rfl (ze rfl rfl rfl sizeOf35 rfl rfl rfl) <| .nil) fun a3 w3 m3 hst3 hle3 hk3 => ?_
  have hfr3 := hk3.fr (.o 0 <| .o 1 <| .o 2 <| .o 3 <| .o 4 <| .o 8 <| .nil)
  replace hst3 := hst3.fin (L' := [_]) (.cons rfl <| .nil)
  try simp only [List.take_succ_cons, List.take_zero, List.drop_succ_cons, List.drop_zero, List.cons_append, List.nil_append, List.append_nil, List.length_cons, List.length_nil, Nat.zero_add, Nat.reduceAdd] at hst3
  clear hst2 hfr2 hk3
  refine hK6 _ _ ?_
  refine zN ?_
  repeat (with_reducible first | refine zH ?_ | refine zG ?_)
  exact zCL hst3 hfr3 rfl (.cell rfl (zi (zf (hst3.loc.at_ (k := 0) rfl)) isAgg35 sizeOf35) <| .nil) (by rw [hr0]; exact ⟨((none, 0), none, 0), rfl, VR.leaf ⟨by decide, by decide⟩ ⟨by decide, by decide⟩, Sl.empty⟩)
 ·try simp only [nqs] at hb17
  obtain ⟨sF, hsF, heF⟩ : ∃ sF, zCu fuel ((zBc input (zCD es)).goes c .nil) = some sF ∧ endM sF = r := by unfold runR at hrun; rw [if_pos hb17] at hrun; cases hq : zCu fuel ((zBc input (zCD es)).goes c .nil) with | none => rw [hq] at hrun; cases hrun | some s => rw [hq] at hrun; injection hrun with hrun; exact ⟨s, rfl, hrun⟩
  refine zR ?_
  refine hK4 _ _ ?_
  refine zB fun _ hK8 => ?_
  refine z7 3 (by kernel_rfl) ?_
  replace hst2 := hst2.more (r := .free) trivial List.nodup_nil (by simp [Res.blocks])
  refine zq (tch := [(2, 1, (fun v => .map v _))]) hst2 hfr2 (by kernel_rfl) (by kernel_rfl) (by kernel_rfl) (.cons rfl (zC rfl) <| .cons rfl (zm (φ := MP.ints input) rfl (.cons rfl <| .nil) call29 (fun w m hK => by have hle_ := KC.le hK; have hA := KC.agree hK; have h_input := h_input.mono hle_; exact FnG.mono (cloneI_c hA h_input hli) fun _ _ _ _ h => h)) <| .consT rfl rfl (fun _ => rfl) rfl (zCG S) <| .nil) fun a3 w3 m3 hst3 hle3 hk3 => ?_
  have hfr3 := hk3.fr (.o 0 <| .o 1 <| .o 2 <| .o 3 <| .o 4 <| .o 8 <| .nil)
  obtain ⟨⟨oi9, ci9⟩, e9, hii9⟩ := hk3.ex 21 rfl
  replace hfr3 := hfr3.cons e9
  obtain ⟨gm9, e10, _⟩ := hk3.ex 22 rfl
  replace hfr3 := hfr3.cons e10
  replace hst3 := hst3.fin (L' := [_, _]) (.cons e10 <| .nil)
  clear hst2 hfr2 hk3
  dsimp only [MP.ints, MP.mapv, MP.mem] at hfr3 hii9
  refine zCO 2 (by kernel_rfl) ?_
  replace hst3 := hst3.more (r := .free) trivial List.nodup_nil (by simp [Res.blocks])
  refine zq (tch := [(1, 2, (fun v => .blk v _))]) hst3 hfr3 (by kernel_rfl) (by kernel_rfl) (by kernel_rfl) (.cons rfl (zQ (.cons rfl <| .cons rfl <| .nil) underlying79 zeroValue79 (.cons sizeOf77 <| .cons sizeOf70 <| .cons sizeOf68 <| .cons sizeOf26 <| .cons sizeOf66 <| .cons sizeOf35 <| .nil) rfl) <| .consT rfl rfl (fun _ => rfl) rfl (zEB rfl rfl) <| .nil) fun a4 w4 m4 hst4 hle4 hk4 => ?_
  have hfr4 := hk4.fr (.o 0 <| .o 1 <| .o 2 <| .o 3 <| .o 4 <| .o 8 <| .o 21 <| .o 22 <| .nil)
  obtain ⟨g24, e11, _⟩ := hk4.ex 24 rfl
  replace hfr4 := hfr4.cons e11
  replace hst4 := hst4.fin (L' := [_, _, _]) (.cons e11 <| .nil)
  clear hst3 hfr3 hk4
  replace hst4 := hst4.more (r := .free) trivial List.nodup_nil (by simp [Res.blocks])
  refine zq (tch := [(0, 3, (fun v => .blk v _)), (1, 3, (fun v => .blk v _))]) hst4 hfr4 (by kernel_rfl) (by kernel_rfl) (by kernel_rfl) (.consT rfl rfl (fun _ => rfl) rfl (zP zeroValue64 rfl) <| .consT rfl rfl (fun _ => rfl) rfl (zb 9 rfl rfl rfl fun y9 => za rfl rfl rfl rfl rfl sizeOf64 rfl rfl rfl) <| .nil) fun a5 w5 m5 hst5 hle5 hk5 => ?_
  have hfr5 := hk5.fr (.o 0 <| .o 1 <| .o 2 <| .o 3 <| .o 4 <| .o 8 <| .o 21 <| .o 22 <| .o 24 <| .nil)
  obtain ⟨g9, e12, _⟩ := hk5.ex 9 rfl
  replace hfr5 := hfr5.cons e12
  replace hst5 := hst5.fin (L' := [_, _, _, _]) (.cons e12 <| .cons e12 <| .nil)
  try simp only [List.take_succ_cons, List.take_zero, List.drop_succ_cons, List.drop_zero, List.cons_append, List.nil_append, List.append_nil, List.length_cons, List.length_nil, Nat.zero_add, Nat.reduceAdd] at hst5
  clear hst4 hfr4 hk5
  replace hst5 : St _ _ _ [_, .map (.map (some gm9)) (zAL S (zFB S [])), MB g24 (zBc input ([] : List (Str × Str))) (iniY oi9 ci9 gm9), _] _ _ := hst5
  refine hK8 _ _ ?_
  refine zB fun _ hK13 => ?_
  refine zB fun _ hK14 => ?_
  have zq1 := hle4.trans hle5
  have zq2 := hle3.trans zq1
  replace h_es := h_es.mono zq2
  refine rp0 hst5 hfr5 (.cons rfl (zC rfl) <| .cons rfl (zm (φ := MP.backV es) rfl (.cons rfl <| .nil) call30 (fun w m hK => by have hle_ := KC.le hK; have hA := KC.agree hK; have h_es := h_es.mono hle_; exact FnG.mono (back_c hA h_es) fun _ _ _ _ h => h)) <| .nil) fun a6 w6 m6 hst6 hle6 hk6 => ?_
  have hfr6 := hk6.fr (.o 0 <| .o 1 <| .o 2 <| .o 3 <| .o 4 <| .o 8 <| .o 21 <| .o 22 <| .o 24 <| .o 9 <| .nil)
  obtain ⟨⟨gq9, oq9, cq9⟩, e15, hq9, hlq9⟩ := hk6.ex 26 rfl
  replace hfr6 := hfr6.cons e15
  clear hst5 hfr5 hk6
  refine hK14 _ _ ?_
  refine zT ?_
  refine zBI (T := [(0, _), (1, _), (2, _), (3, _), (4, _), (8, _), (21, _), (22, _), (24, _), (9, _), (26, _)]) (fun (y : (List (Str × Str)) × (Unit)) => ([_, .map (.map (some gm9)) (zAL S (zFB S y.1)), MB g24 (zBc input ([] : List (Str × Str))) (iniY oi9 ci9 gm9), _] : List Res)) (es.length) (BackY es) (fun i (y : (List (Str × Str)) × (Unit)) m => (fun (cur : List (Str × Str)) (du : Unit) => (zCD es = zBk (es.take (es.length - i)) cur) ∧ (True)) y.1 y.2) (fun (y : (List (Str × Str)) × (Unit)) m => (fun (cur : List (Str × Str)) (du : Unit) => (False)) y.1 y.2) ([], ()) hst6 (hfr6.sub (.c <| .c <| .c <| .c <| .c <| .c <| .c <| .c <| .c <| .c <| .c <| .nil)) rfl call44 ⟨by decide, by decide⟩ (fun _ _ _ _ _ h => h) (fun _ _ _ _ h => h) (⟨by rw [Nat.sub_zero, List.take_length]; rfl, trivial⟩) (back_iter hq9 hlq9) (fun i hi y w7 m7 args l rc hle7 hY hrel _ => ?_) (fun y D l rc a7 w7 m7 hst7 hle7 hrel hfr7 => ?_) (fun y D l rc a7 w7 m7 hst7 hle7 hrel hfr7 => ?_)
  ·obtain ⟨cur, du⟩ := y
   dsimp only at hrel
   obtain ⟨hj9, _⟩ := hrel
   clear hst6 hfr6
   obtain ⟨k9, e9, ve9, rfl, hef9, hat9⟩ := hY
   obtain ⟨oE_e9, cE_e9, rfl, hop_e9⟩ := hef9.open_
   have hbo_e9 := hop_e9.big; have hco_e9 := hop_e9.cap
   refine ⟨rfl, fun G1 a7 hfr7 hst7 _ hKrf => ?_⟩
   replace hfr7 : Fr _ [(27, _), (28, _), (0, _), (1, _), (2, _), (3, _), (4, _), (8, _), (21, _), (22, _), (24, _), (9, _), (26, _)] a7 := hfr7
   replace hst7 : St G1 w7 m7 [_, _, _, _, _] w7 m7 := hst7
   replace hst7 := hst7.more (r := .free) trivial List.nodup_nil (by simp [Res.blocks])
   refine ra0 (tch := [(0, 5, (fun v => .blk v _)), (1, 5, (fun v => .blk v _))]) hst7 hfr7 (.consT rfl rfl (fun _ => rfl) rfl (zP zeroValue85 rfl) <| .consT rfl rfl (fun _ => rfl) rfl (zb 11 rfl rfl rfl fun y11 => za rfl rfl rfl rfl rfl sizeOf85 rfl rfl rfl) <| .nil) fun a8 w8 m8 hst8 hle8 hk8 => ?_
   have hfr8 := hk8.fr (.o 27 <| .o 28 <| .o 0 <| .o 1 <| .o 2 <| .o 3 <| .o 4 <| .o 8 <| .o 21 <| .o 22 <| .o 24 <| .o 9 <| .o 26 <| .nil)
   obtain ⟨g11, e16, _⟩ := hk8.ex 11 rfl
   replace hfr8 := hfr8.cons e16
   replace hst8 := hst8.fin (L' := [_, _, _, _, _, _]) (.cons e16 <| .cons e16 <| .nil)
   try simp only [List.take_succ_cons, List.take_zero, List.drop_succ_cons, List.drop_zero, List.cons_append, List.nil_append, List.append_nil, List.length_cons, List.length_nil, Nat.zero_add, Nat.reduceAdd] at hst8
   clear hst7 hfr7 hk8
   refine hKrf _ _ _ [_, _, _, _, _, _] 4 hst8 rfl fun w9 hst9 => ?_; clear hKrf
   simp only [List.set_cons_succ, List.set_cons_zero] at hst9
   have hfr9 := hfr8; obtain ⟨a9, rfl⟩ : ∃ a, a = a8 := ⟨_, rfl⟩; obtain ⟨m9, rfl⟩ : ∃ m, m = m8 := ⟨_, rfl⟩; clear hst8 hfr8
   refine zT ?_
   refine zB fun _ hK17 => ?_
   refine rp0 hst9 hfr9 (.cons rfl (zA (off := 1) rfl underlying85 rfl rfl sizeOf83 rfl) <| .cons rfl (zK (j := 5) rfl rfl isAgg83 rfl) <| .cons rfl (zl rfl underlying83) <| .cons rfl (zC rfl) <| .nil) fun a10 w10 m10 hst10 hle10 hk10 => ?_
   have hfr10 := hk10.fr (.o 27 <| .o 28 <| .o 0 <| .o 1 <| .o 2 <| .o 3 <| .o 4 <| .o 8 <| .o 21 <| .o 22 <| .o 24 <| .o 9 <| .o 26 <| .o 11 <| .n 30 <| .n 31 <| .n 32 <| .nil)
   clear hst9 hfr9 hk10
   refine hK17 _ _ ?_
   refine zT ?_
   refine zx (T := [(27, _), (28, _), (0, _), (1, _), (2, _), (3, _), (4, _), (8, _), (21, _), (22, _), (24, _), (9, _), (26, _), (11, _), (30, _), (31, _)]) (fun (y : Nat × List (Str × Str)) => ([(32, .int .i64 (y.1 : Int))] : List (Nat × Value))) (fun y => [_, .map (.map (some gm9)) (zAL S (zFB S y.2)), MB g24 (zBc input ([] : List (Str × Str))) (iniY oi9 ci9 gm9), _, _, _]) (fun (y : Nat × List (Str × Str)) m => (fun (y : Nat) (cu : List (Str × Str)) => (y ≤ e9.ops.length) ∧ (zBl e9.name e9.ops cur = zBl e9.name (e9.ops.drop y) cu)) y.1 y.2) (fun y => e9.ops.length - y.1) ((0, cur)) ⟨hst10, MLe.refl _, hfr10.sub (.c <| .c <| .c <| .c <| .c <| .c <| .c <| .c <| .c <| .c <| .c <| .c <| .c <| .c <| .c <| .c <| .c <| .nil), ⟨Nat.zero_le _, rfl⟩⟩ fun y a11 w11 m11 hh11 => ?_
   have hst11 := hh11.st; have hle11 := hh11.le; have hfr11 := hh11.fr; have hrel := hh11.rel; clear hh11
   clear hst10 hfr10
   obtain ⟨y, cu⟩ := y
   dsimp only at hrel hfr11 hst11
   obtain ⟨hyn, hcu9⟩ := hrel
   have hlh11 := hle11
   refine zB fun _ hK19 => ?_
   refine rp0 hst11 hfr11 (.cons rfl (ZA rfl rfl) <| .nil) fun a12 w12 m12 hst12 hle12 hk12 => ?_
   have hfr12 := hk12.fr (.o 32 <| .o 27 <| .o 28 <| .o 0 <| .o 1 <| .o 2 <| .o 3 <| .o 4 <| .o 8 <| .o 21 <| .o 22 <| .o 24 <| .o 9 <| .o 26 <| .o 11 <| .o 30 <| .o 31 <| .n 33 <| .nil)
   clear hst11 hfr11 hk12
   refine hK19 _ _ ?_
   refine zB fun _ hK20 => ?_
   refine zE hfr12 rfl rfl (fun hb33 => ?_) (fun hb33 => ?_)
   ·try simp only [nqs] at hb33
    refine zR ?_
    refine hK20 _ _ ?_
    refine zB fun _ hK21 => ?_
    refine zT ?_
    refine zB fun _ hK22 => ?_
    have zq3 := hle11.trans hle12
    have zq4 := hle10.trans zq3
    have zq5 := hle8.trans zq4
    replace hop_e9 := hop_e9.mono zq5
    obtain ⟨p23, vs23, x23, ho23, hd23, hm_x23, ht23, hcv23, hl23, hv23⟩ := hop_e9.nth (k := y) (by omega)
    cases ho23
    obtain ⟨q1_23, q2_23, q3_23, q4_23, q5_23, q6_23, q7_23, q8_23, q9_23, q10_23, q11_23, q12_23, rfl, hon23⟩ := hv23.open_
    replace hst12 := hst12.more (r := .free) trivial List.nodup_nil (by simp [Res.blocks])
    refine ra0 (tch := [(2, 6, (fun v => .blk v _)), (3, 6, (fun v => .blk v _))]) hst12 hfr12 (.cons rfl (zI (k := y) rfl rfl underlying83 sizeOf92 rfl (by omega)) <| .cons rfl (zY rfl hcv23 isAgg92 sizeOf92 rfl rfl) <| .consT rfl rfl (fun _ => rfl) rfl (zP zeroValue92 rfl) <| .consT rfl rfl (fun _ => rfl) rfl (zb 13 rfl rfl rfl fun y13 => za rfl rfl rfl rfl rfl sizeOf92 rfl rfl hon23) <| .nil) fun a13 w13 m13 hst13 hle13 hk13 => ?_
    have hfr13 := hk13.fr (.o 32 <| .o 27 <| .o 28 <| .o 0 <| .o 1 <| .o 2 <| .o 3 <| .o 4 <| .o 8 <| .o 21 <| .o 22 <| .o 24 <| .o 9 <| .o 26 <| .o 11 <| .o 30 <| .o 31 <| .nil)
    obtain ⟨g13, e24, _⟩ := hk13.ex 13 rfl
    replace hfr13 := hfr13.cons e24
    replace hst13 := hst13.fin (L' := [_, _, _, _, _, _, _]) (.cons e24 <| .cons e24 <| .nil)
    try simp only [List.take_succ_cons, List.take_zero, List.drop_succ_cons, List.drop_zero, List.cons_append, List.nil_append, List.append_nil, List.length_cons, List.length_nil, Nat.zero_add, Nat.reduceAdd] at hst13
    clear hst12 hfr12 hk13
    refine hK22 _ _ ?_
    refine zc (tch := [(8, 1, (fun _ => .map _ _))]) (fun _ => zw) hst13 hfr13 (by kernel_rfl) (by kernel_rfl) (by kernel_rfl) (.cons rfl (ZJ (j := 3) rfl rfl isAgg64 rfl) <| .cons rfl (zL rfl) <| .cons rfl (zA (off := 20) rfl underlying79 rfl rfl sizeOf66 rfl) <| .cons rfl (zK (j := 2) rfl rfl isAgg66 rfl) <| .cons rfl (zA (off := 0) rfl underlying92 rfl rfl sizeOf9 rfl) <| .cons rfl (zK (j := 6) rfl rfl isAgg9 rfl) <| .cons rfl (zA (off := 0) rfl underlying85 rfl rfl sizeOf9 rfl) <| .cons rfl (zK (j := 5) rfl rfl isAgg9 rfl) <| .consT rfl rfl (fun _ => rfl) rfl (ob_mapUpdate zAD rfl rfl rfl underlying66 underlying9) <| .nil) fun a14 w14 m14 hst14 hle14 hk14 => ?_
    have hfr14 := hk14.fr (.o 32 <| .o 27 <| .o 28 <| .o 0 <| .o 1 <| .o 2 <| .o 3 <| .o 4 <| .o 8 <| .o 21 <| .o 22 <| .o 24 <| .o 9 <| .o 26 <| .o 11 <| .o 30 <| .o 31 <| .o 13 <| .nil)
    replace hst14 := hst14.fin (L' := [_, _, _, _, _, _, _]) (.cons rfl <| .nil)
    clear hst13 hfr13 hk14
    rw [encW_set] at hst14
    refine hK21 _ _ ?_
    refine rp0 hst14 hfr14 (.cons rfl (z6 rfl rfl ⟨by omega, by omega⟩) <| .cons rfl (zC rfl) <| .nil) fun a15 w15 m15 hst15 hle15 hk15 => ?_
    have hfr15 := hk15.fr (.o 27 <| .o 28 <| .o 0 <| .o 1 <| .o 2 <| .o 3 <| .o 4 <| .o 8 <| .o 21 <| .o 22 <| .o 24 <| .o 9 <| .o 26 <| .o 11 <| .o 30 <| .o 31 <| .o 13 <| .n 32 <| .nil)
    clear hst14 hfr14 hk15
    have hst15 := hst15.take 6
    have zq6 := hle14.trans hle15
    have zq7 := hle13.trans zq6
    have zq8 := hle12.trans zq7
    have hlh15 := hlh11.trans zq8
    exact ⟨(y + 1, (zBH x23 e9.name cu)), m15, by show e9.ops.length - (y + 1) < e9.ops.length - y; omega, ⟨hst15, hlh15, hfr15.sub (.c <| .c <| .c <| .c <| .c <| .c <| .c <| .c <| .c <| .c <| .c <| .c <| .c <| .c <| .c <| .c <| .c <| .nil), ⟨by show y + 1 ≤ e9.ops.length; omega, by rw [hcu9, hd23, zBl]⟩⟩⟩
   ·try simp only [nqs] at hb33
    have hge : y = e9.ops.length := by omega
    rw [List.drop_of_length_le (by omega), zBl] at hcu9
    rw [← hcu9] at hst12
    refine zv ?_
    repeat (with_reducible first | refine Zi ?_ | refine ZT ?_ | refine ZD ?_)
    exact RoundQ.next ((zBl e9.name e9.ops cur), du) (n0 := 4) (k := 4) hst12 rfl rfl rfl (⟨eff_step hj9 hi hat9, trivial⟩)
  ·obtain ⟨cur, du⟩ := y
   dsimp only at hrel
   obtain ⟨hj9, _⟩ := hrel
   clear hst6 hfr6
   replace hst7 : St _ _ _ [_, _, _, _, ZX l rc, zBx D] w7 m7 := hst7
   rw [Nat.sub_self, List.take_zero] at hj9
   have hj8 : cur = zCD es := hj9.symm
   subst hj8
   refine hK13 _ _ ?_
   refine zB fun _ hK25 => ?_
   obtain ⟨m8, hle8, hst8, gF_ef, eF_ef, hm_ef⟩ := hst7.freezeMap (k := 1) rfl
   simp only [List.set_cons_succ, List.set_cons_zero] at hst8
   injection eF_ef with eF_ef; injection eF_ef with eF_ef; subst eF_ef
   have hfr8 := hfr7; obtain ⟨a8, rfl⟩ : ∃ a, a = a7 := ⟨_, rfl⟩; obtain ⟨w8, rfl⟩ : ∃ w, w = w7 := ⟨_, rfl⟩
   clear hst7 hfr7
   replace hst8 : St _ _ _ [_, .free, MB g24 (zBc input (zCD es)) (iniY oi9 ci9 gm9), _, _, _] _ _ := hst8
   replace hst8 := hst8.fill (k := 1) (r := .rowx (nz (.slice none 0 0)) 0 1 3 (MP.reads (fun _ vs (x : Int) => vs = [Value.int .i64 x]) 1 [])) rfl zEK rfl
   simp only [List.set_cons_succ, List.set_cons_zero] at hst8
   replace hst8 := hst8.perm perm3
   replace hst8 := hst8.more (r := .mrowx (.slice none 0 0) 0 7 72 (MP.reads (fun m vs v => VlR m v vs) 7 [])) mrowx_new List.nodup_nil (by simp [Res.blocks, Z3])
   replace hst8 := hst8.perm perm7
   have zq9 := hle7.trans hle8
   have zq10 := hle6.trans zq9
   have zq11 := zq1.trans zq10
   replace hii9 := hii9.mono zq11
   have hS0 : McR m8 (zBc input (zCD es)) (iniY oi9 ci9 gm9) := ini_R hii9 hin0 hm_ef
   have zq12 := zq2.trans zq10
   replace h_c := h_c.mono zq12
   replace hkk_c := hkk_c.mono zq12
   replace haa_c := haa_c.mono zq12
   replace h_input := h_input.mono zq12
   replace hc4 := hc4.mono zq12
   replace hM := hM.trans zq12
   replace h_es := h_es.mono zq10
   replace hq9 := hq9.mono zq9
   replace hlq9 := hlq9.mono zq9
   refine ra0 (tch := [(2, 0, (fun _ => MK g24 ((zBc input (zCD es)).goes c .nil) (iniY oi9 ci9 gm9)))]) hst8 hfr8 (.cons rfl (ZJ (j := 3) rfl rfl isAgg64 rfl) <| .cons rfl (zY rfl hc4 isAgg25 sizeOf25 rfl rfl) <| .consT rfl rfl (fun _ => rfl) rfl (zj rfl (.cons rfl <| .cons rfl <| .cons rfl <| .nil) call31 (κ := .eq (.bool true)) (fun σ w m hK hr hkn => by have hle_ := KC.le hK; have hA := KC.agree hK; have hM := hM.trans hle_; have h_c := h_c.mono hle_; have hkk_c := hkk_c.mono hle_; have haa_c := haa_c.mono hle_; have h_es := h_es.mono hle_; have h_input := h_input.mono hle_; have hc4 := hc4.mono hle_; have hii9 := hii9.mono hle_; have hq9 := hq9.mono hle_; have hlq9 := hlq9.mono hle_; have hm_ef := hm_ef.mono hle_; have hS0 := hS0.mono hle_; exact Zy (s := (zBc input (zCD es))) (zAQ (s := (zBc input (zCD es))) (y := (iniY oi9 ci9 gm9)) (e := .nil) (pe := none) hA hr hS0 h_c (by simp only [EnvR])))) <| .nil) fun a9 w9 m9 hst9 hle9 hk9 => ?_
   have hfr9 := hk9.fr (.o 0 <| .o 1 <| .o 2 <| .o 3 <| .o 4 <| .o 8 <| .o 21 <| .o 22 <| .o 24 <| .o 9 <| .o 26 <| .nil)
   replace hst9 := hst9.fin (L' := [_, _, _, _, _, _, _]) (.cons rfl <| .nil)
   clear hst8 hfr8 hk9
   obtain ⟨y0, hst9, hSz0, hKz0⟩ := zp (k := 0) hst9 rfl
   simp only [List.set_cons_zero] at hst9
   have hq0 : (.rowx (nz (.slice none 0 0)) 0 1 3 (MP.reads (fun _ vs (x : Int) => vs = [Value.int .i64 x]) 1 []) : Res) = Zh ((zBc input (zCD es)).goes c .nil) y0 := by simp only [Zh]; rw [hKz0.to, hKz0.tc]; rfl
   have hc0 : (.mrowx (.slice none 0 0) 0 7 72 (MP.reads (fun m vs v => VlR m v vs) 7 []) : Res) = Ze ((zBc input (zCD es)).goes c .nil) y0 := by simp only [Ze]; rw [hKz0.co, hKz0.cc]; rfl
   replace hst9 := st_re3 hst9 hq0 hc0
   refine hK25 _ _ ?_
   refine zB fun _ hK26 => ?_
   refine zT ?_
   refine zx (T := [(0, _), (1, _), (2, _), (3, _), (4, _), (8, _), (21, _), (22, _), (24, _), (9, _), (26, _)]) (fun (y : (Mc) × (McY) × (Nat)) => ([] : List (Nat × Value))) (fun y => [MB g24 y.1 y.2.1, Zh y.1 y.2.1, Ze y.1 y.2.1, _, _, _, _]) (fun (y : (Mc) × (McY) × (Nat)) m => (fun (sq : Mc) (yq : McY) (k : Nat) => (McR m sq yq) ∧ (zCu k sq = some sF) ∧ (sq.steps + (k : Int) = (fuel : Int))) y.1 y.2.1 y.2.2) (fun y => y.2.2) ((((zBc input (zCD es)).goes c .nil), y0, fuel)) ⟨hst9, MLe.refl _, hfr9.sub (.c <| .c <| .c <| .c <| .c <| .c <| .c <| .c <| .c <| .c <| .c <| .nil), ⟨hSz0, hsF, by show (0 : Int) + (fuel : Int) = (fuel : Int); omega⟩⟩ fun y a10 w10 m10 hh10 => ?_
   have hst10 := hh10.st; have hle10 := hh10.le; have hfr10 := hh10.fr; have hrel := hh10.rel; clear hh10
   clear hst9 hfr9
   obtain ⟨sq, yq, k⟩ := y
   dsimp only at hrel hfr10 hst10
   obtain ⟨hSq, hrk, hsk⟩ := hrel
   have hsr1 := hSq.steps.1; have hsr2 := hSq.steps.2
   have hlh10 := hle10
   refine zB fun _ hK28 => ?_
   refine zB fun _ hK29 => ?_
   refine rp0 hst10 hfr10 (.cons rfl (ZJ (j := 3) rfl rfl isAgg64 rfl) <| .cons rfl (zL rfl) <| .cons rfl (zA (off := 21) rfl underlying79 rfl rfl sizeOf35 rfl) <| .cons rfl (zA (off := 6) rfl underlying35 rfl rfl sizeOf3 rfl) <| .cons rfl (zK (k := 27) (j := 0) rfl rfl isAgg3 rfl) <| .cons rfl (zC rfl) <| .cons rfl (ZA rfl rfl) <| .cons rfl (zC rfl) <| .cons rfl (ZJ (j := 3) rfl rfl isAgg64 rfl) <| .cons rfl (zX rfl (.cons rfl <| .nil) call32 (fun w m hK => by have hle_ := KC.le hK; have hA := KC.agree hK; exact ended_c (s := sq) (y := yq) hA (KC.at_ hK (k := 0) rfl))) <| .cons rfl (z2 rfl) <| .cons rfl (zU rfl rfl rfl) <| .nil) fun a11 w11 m11 hst11 hle11 hk11 => ?_
   have hfr11 := hk11.fr (.o 0 <| .o 1 <| .o 2 <| .o 3 <| .o 4 <| .o 8 <| .o 21 <| .o 22 <| .o 24 <| .o 9 <| .o 26 <| .n 59 <| .nil)
   clear hst10 hfr10 hk11
   refine hK29 _ _ ?_
   refine zE hfr11 rfl rfl (fun hb59 => ?_) (fun hb59 => ?_)
   ·try simp only [nqs] at hb59
    obtain ⟨k9, rfl⟩ : ∃ k9, k = k9 + 1 := ⟨k - 1, by omega⟩
    have hwy9 := run_step hrk hb59.2
    refine zR ?_
    refine hK28 _ _ ?_
    refine zT ?_
    refine zB fun _ hK30 => ?_
    refine ra0 (tch := [(9, 0, (fun _ => .blk _ _))]) hst11 hfr11 (.cons rfl (ZJ (j := 3) rfl rfl isAgg64 rfl) <| .cons rfl (zL rfl) <| .cons rfl (zA (off := 21) rfl underlying79 rfl rfl sizeOf35 rfl) <| .cons rfl (zA (off := 6) rfl underlying35 rfl rfl sizeOf3 rfl) <| .cons rfl (zK (k := 27) (j := 0) rfl rfl isAgg3 rfl) <| .cons rfl (z6 rfl rfl ⟨by omega, by omega⟩) <| .cons rfl (zL rfl) <| .cons rfl (zA (off := 21) rfl underlying79 rfl rfl sizeOf35 rfl) <| .cons rfl (zA (off := 6) rfl underlying35 rfl rfl sizeOf3 rfl) <| .consT rfl rfl (fun _ => rfl) rfl (z1 (k := 27) rfl rfl rfl sizeOf3 rfl rfl rfl) <| .nil) fun a12 w12 m12 hst12 hle12 hk12 => ?_
    have hfr12 := hk12.fr (.o 0 <| .o 1 <| .o 2 <| .o 3 <| .o 4 <| .o 8 <| .o 21 <| .o 22 <| .o 24 <| .o 9 <| .o 26 <| .nil)
    replace hst12 := hst12.fin (L' := [_, _, _, _, _, _, _]) (.cons rfl <| .nil)
    try simp only [List.take_succ_cons, List.take_zero, List.drop_succ_cons, List.drop_zero, List.cons_append, List.nil_append, List.append_nil, List.length_cons, List.length_nil, Nat.zero_add, Nat.reduceAdd] at hst12
    clear hst11 hfr11 hk12
    have zq13 := hle11.trans hle12
    replace hSq := hSq.mono zq13
    have hS1 : McR m12 ({ sq with steps := sq.steps + 1 } : Mc) yq := ⟨hSq.c, hSq.e, hSq.v, hSq.ev, hSq.fr, hSq.inp, hSq.next, hSq.kind, hSq.eff, ⟨by show (-9223372036854775808 : Int) ≤ sq.steps + 1; omega, by show sq.steps + 1 ≤ (9223372036854775807 : Int); omega⟩, hSq.konts, hSq.tr⟩
    refine hK30 _ _ ?_
    refine zB fun _ hK31 => ?_
    refine rp0 hst12 hfr12 (.cons rfl (zD rfl) <| .nil) fun a13 w13 m13 hst13 hle13 hk13 => ?_
    have hfr13 := hk13.fr (.o 0 <| .o 1 <| .o 2 <| .o 3 <| .o 4 <| .o 8 <| .o 21 <| .o 22 <| .o 24 <| .o 9 <| .o 26 <| .n 14 <| .nil)
    clear hst12 hfr12 hk13
    refine hK31 _ _ ?_
    refine zB fun _ hK32 => ?_
    refine zB fun _ hK33 => ?_
    refine rp0 hst13 hfr13 (.cons rfl (ZJ (j := 3) rfl rfl isAgg64 rfl) <| .cons rfl (zL rfl) <| .cons rfl (zA (off := 0) rfl underlying79 rfl rfl sizeOf77 rfl) <| .cons rfl (zA (off := 7) rfl underlying77 rfl rfl sizeOf4 rfl) <| .cons rfl (zK (k := 7) (j := 0) rfl rfl isAgg4 rfl) <| .nil) fun a14 w14 m14 hst14 hle14 hk14 => ?_
    have hfr14 := hk14.fr (.o 0 <| .o 1 <| .o 2 <| .o 3 <| .o 4 <| .o 8 <| .o 21 <| .o 22 <| .o 24 <| .o 9 <| .o 26 <| .o 14 <| .n 73 <| .nil)
    clear hst13 hfr13 hk14
    refine hK33 _ _ ?_
    refine zE hfr14 rfl rfl (fun hb73 => ?_) (fun hb73 => ?_)
    ·try simp only [nqs] at hb73
     obtain ⟨-, t9, b9, hl9, hr9, hts9⟩ := hwy9.resolve_right (fun h => by rw [h.1] at hb73; cases hb73)
     refine z7 2 (by kernel_rfl) ?_
     refine zCO 1 (by kernel_rfl) ?_
     refine zq (tch := []) hst14 hfr14 (by kernel_rfl) (by kernel_rfl) (by kernel_rfl) (.cons rfl (ZJ (j := 3) rfl rfl isAgg64 rfl) <| .nil) fun a15 w15 m15 hst15 hle15 hk15 => ?_
     have hfr15 := hk15.fr (.o 0 <| .o 1 <| .o 2 <| .o 3 <| .o 4 <| .o 8 <| .o 21 <| .o 22 <| .o 24 <| .o 9 <| .o 26 <| .o 14 <| .n 74 <| .nil)
     clear hst14 hfr14 hk15
     have zq14 := hle14.trans hle15
     have zq15 := hle13.trans zq14
     replace hS1 := hS1.mono zq15
     refine zFA [] [_, _, _, _] [_, _, _] hst15 hfr15 rfl (.cons rfl <| .nil) call33 (looks_g (s := ({ sq with steps := sq.steps + 1 } : Mc)) (y := yq) hst15.agree (hst15.sub (A := []) (B := [_, _, _, _]) (rs := [_, _, _])) hS1 hl9) ?_
     intro vr16 w16 m16 rs16 hst16 hle16 hp16
     obtain ⟨y7, rfl, hS7, hvq9⟩ := hp16
     simp only [List.nil_append, List.cons_append] at hst16
     have hfr16 := (hfr15.sub (T' := [(0, _), (1, _), (2, _), (3, _), (4, _), (8, _), (21, _), (22, _), (24, _), (9, _), (26, _), (14, _), (74, _)]) (.cons rfl <| .cons rfl <| .cons rfl <| .cons rfl <| .cons rfl <| .cons rfl <| .cons rfl <| .cons rfl <| .cons rfl <| .cons rfl <| .cons rfl <| .cons rfl <| .cons rfl <| .nil)).put (d := 75) (v := vr16) (by kernel_rfl) rfl
     clear hst15 hfr15
     subst hvq9
     refine zq (tch := []) hst16 hfr16 (by kernel_rfl) (by kernel_rfl) (by kernel_rfl) (.cons rfl (zD rfl) <| .nil) fun a17 w17 m17 hst17 hle17 hk17 => ?_
     have hfr17 := hk17.fr (.o 75 <| .o 0 <| .o 1 <| .o 2 <| .o 3 <| .o 4 <| .o 8 <| .o 21 <| .o 22 <| .o 24 <| .o 9 <| .o 26 <| .o 74 <| .n 14 <| .nil)
     clear hst16 hfr16 hk17
     refine hK32 _ _ ?_
     refine zB fun _ hK34 => ?_
     refine rp0 hst17 hfr17 (.cons rfl (zC rfl) <| .cons rfl (z2 rfl) <| .nil) fun a18 w18 m18 hst18 hle18 hk18 => ?_
     have hfr18 := hk18.fr (.o 75 <| .o 0 <| .o 1 <| .o 2 <| .o 3 <| .o 4 <| .o 8 <| .o 21 <| .o 22 <| .o 24 <| .o 9 <| .o 26 <| .o 74 <| .o 14 <| .n 79 <| .nil)
     clear hst17 hfr17 hk18
     refine hK34 _ _ ?_
     refine zE hfr18 rfl rfl (fun hb79 => ?_) (fun hb79 => ?_)
     ·try simp only [nqs] at hb79
      simp only [hb79, Bool.false_eq_true, if_false] at hr9
      have zq16 := hle17.trans hle18
      have zq17 := hle16.trans zq16
      have zq18 := zq15.trans zq17
      have zq19 := zq13.trans zq18
      have zq20 := hle10.trans zq19
      have zq21 := hle9.trans zq20
      replace h_c := h_c.mono zq21
      replace hkk_c := hkk_c.mono zq21
      replace haa_c := haa_c.mono zq21
      replace h_es := h_es.mono zq21
      replace h_input := h_input.mono zq21
      replace hc4 := hc4.mono zq21
      replace hii9 := hii9.mono zq21
      replace hq9 := hq9.mono zq21
      replace hlq9 := hlq9.mono zq21
      replace hm_ef := hm_ef.mono zq21
      replace hS0 := hS0.mono zq21
      replace hM := hM.trans zq21
      replace hSz0 := hSz0.mono zq20
      replace hSq := hSq.mono zq18
      replace hS1 := hS1.mono zq17
      replace hS7 := hS7.mono zq16
      refine ra0 (tch := [(1, 0, (fun _ => MK g24 (t9.ends 4) y7))]) hst18 hfr18 (.cons rfl (ZJ (j := 3) rfl rfl isAgg64 rfl) <| .consT rfl rfl (fun _ => rfl) rfl (zj rfl (.cons rfl <| .cons rfl <| .nil) call35 (κ := .eq (.bool true)) (fun σ w m hK hr hkn => by have hle_ := KC.le hK; have hA := KC.agree hK; have hM := hM.trans hle_; have h_c := h_c.mono hle_; have hkk_c := hkk_c.mono hle_; have haa_c := haa_c.mono hle_; have h_es := h_es.mono hle_; have h_input := h_input.mono hle_; have hc4 := hc4.mono hle_; have hii9 := hii9.mono hle_; have hq9 := hq9.mono hle_; have hlq9 := hlq9.mono hle_; have hm_ef := hm_ef.mono hle_; have hS0 := hS0.mono hle_; have hSz0 := hSz0.mono hle_; have hSq := hSq.mono hle_; have hS1 := hS1.mono hle_; have hS7 := hS7.mono hle_; exact Zy (s := t9) (zDf (s := t9) (y := y7) hA hr hS7 ⟨by decide, by decide⟩))) <| .nil) fun a19 w19 m19 hst19 hle19 hk19 => ?_
      have hfr19 := hk19.fr (.o 75 <| .o 0 <| .o 1 <| .o 2 <| .o 3 <| .o 4 <| .o 8 <| .o 21 <| .o 22 <| .o 24 <| .o 9 <| .o 26 <| .o 74 <| .o 14 <| .nil)
      replace hst19 := hst19.fin (L' := [_, _, _, _, _, _, _]) (.cons rfl <| .nil)
      clear hst18 hfr18 hk19
      obtain ⟨y6, hst19, hSz6, hKz6⟩ := zp (k := 0) hst19 rfl
      simp only [List.set_cons_zero] at hst19
      have hq6 : Zh t9 y7 = Zh (t9.ends 4) y6 := by simp only [Zh]; rw [hKz6.to, hKz6.tc]; rfl
      have hc6 : Ze t9 y7 = Ze (t9.ends 4) y6 := by simp only [Ze]; rw [hKz6.co, hKz6.cc]; rfl
      replace hst19 := st_re3 hst19 hq6 hc6
      have zq22 := zq19.trans hle19
      have hlh19 := hlh10.trans zq22
      exact ⟨((t9.ends 4), y6, k9), m19, Nat.lt_succ_self _, ⟨hst19, hlh19, hfr19.sub (.c <| .c <| .c <| .c <| .c <| .c <| .c <| .c <| .c <| .c <| .c <| .nil), ⟨hSz6, hr9, by show t9.steps + (k9 : Int) = (fuel : Int); omega⟩⟩⟩
     ·try simp only [nqs] at hb79
      simp only [hb79, if_true] at hr9
      refine zR ?_
      have zq23 := hle17.trans hle18
      replace hS7 := hS7.mono zq23
      have zq24 := hle16.trans zq23
      have zq25 := zq15.trans zq24
      have zq26 := zq13.trans zq25
      have hlh18 := hlh10.trans zq26
      exact ⟨(t9, y7, k9), m18, Nat.lt_succ_self _, ⟨hst18, hlh18, hfr18.sub (.c <| .c <| .c <| .c <| .c <| .c <| .c <| .c <| .c <| .c <| .c <| .nil), ⟨hS7, hr9, by show t9.steps + (k9 : Int) = (fuel : Int); omega⟩⟩⟩
    ·try simp only [nqs] at hb73
     obtain ⟨-, t9, hg9, hr9, hts9⟩ := hwy9.resolve_left (fun h => by rw [h.1] at hb73; cases hb73)
     refine z7 2 (by kernel_rfl) ?_
     refine zCO 1 (by kernel_rfl) ?_
     refine zq (tch := []) hst14 hfr14 (by kernel_rfl) (by kernel_rfl) (by kernel_rfl) (.cons rfl (ZJ (j := 3) rfl rfl isAgg64 rfl) <| .nil) fun a15 w15 m15 hst15 hle15 hk15 => ?_
     have hfr15 := hk15.fr (.o 0 <| .o 1 <| .o 2 <| .o 3 <| .o 4 <| .o 8 <| .o 21 <| .o 22 <| .o 24 <| .o 9 <| .o 26 <| .o 14 <| .n 76 <| .nil)
     clear hst14 hfr14 hk15
     have zq27 := hle14.trans hle15
     have zq28 := hle13.trans zq27
     replace hS1 := hS1.mono zq28
     refine zFA [] [_, _, _, _, _, _] [_] hst15 hfr15 rfl (.cons rfl <| .nil) call34 (mc_R (s := ({ sq with steps := sq.steps + 1 } : Mc)) (y := yq) (gets_g (s := ({ sq with steps := sq.steps + 1 } : Mc)) (y := yq) hst15.agree (hst15.loc.at_ (k := 0) rfl) hS1 hg9)) ?_
     intro vr16 w16 m16 rs16 hst16 hle16 hp16
     obtain ⟨y7, rfl, hS7, hK7, hvq9⟩ := hp16
     simp only [List.nil_append, List.cons_append] at hst16
     have hfr16 := (hfr15.sub (T' := [(0, _), (1, _), (2, _), (3, _), (4, _), (8, _), (21, _), (22, _), (24, _), (9, _), (26, _), (14, _), (76, _)]) (.cons rfl <| .cons rfl <| .cons rfl <| .cons rfl <| .cons rfl <| .cons rfl <| .cons rfl <| .cons rfl <| .cons rfl <| .cons rfl <| .cons rfl <| .cons rfl <| .cons rfl <| .nil)).put (d := 77) (v := vr16) (by kernel_rfl) rfl
     clear hst15 hfr15
     subst hvq9
     have htr9 := gets_tr hg9
     have hq7 : Zh sq yq = Zh t9 y7 := by simp only [Zh]; rw [hK7.to, hK7.tc, htr9]
     have hce9 := gets_ce hg9
     have hc7 : Ze sq yq = Ze t9 y7 := by simp only [Ze]; rw [hK7.co, hK7.cc, hce9]
     replace hst16 := st_re3 hst16 hq7 hc7
     refine id ?_
     ·skip
      refine zq (tch := []) hst16 hfr16 (by kernel_rfl) (by kernel_rfl) (by kernel_rfl) (.cons rfl (zD rfl) <| .nil) fun a17 w17 m17 hst17 hle17 hk17 => ?_
      have hfr17 := hk17.fr (.o 77 <| .o 0 <| .o 1 <| .o 2 <| .o 3 <| .o 4 <| .o 8 <| .o 21 <| .o 22 <| .o 24 <| .o 9 <| .o 26 <| .o 76 <| .n 14 <| .nil)
      clear hst16 hfr16 hk17
      refine hK32 _ _ ?_
      refine zB fun _ hK35 => ?_
      refine rp0 hst17 hfr17 (.cons rfl (zC rfl) <| .cons rfl (z2 rfl) <| .nil) fun a18 w18 m18 hst18 hle18 hk18 => ?_
      have hfr18 := hk18.fr (.o 77 <| .o 0 <| .o 1 <| .o 2 <| .o 3 <| .o 4 <| .o 8 <| .o 21 <| .o 22 <| .o 24 <| .o 9 <| .o 26 <| .o 76 <| .o 14 <| .n 79 <| .nil)
      clear hst17 hfr17 hk18
      refine hK35 _ _ ?_
      refine zE hfr18 rfl rfl (fun hb79 => ?_) (fun hb79 => ?_)
      ·simp at hb79
      ·try simp only [nqs] at hb79
       refine zR ?_
       have zq29 := hle17.trans hle18
       replace hS7 := hS7.mono zq29
       have zq30 := hle16.trans zq29
       have zq31 := zq28.trans zq30
       have zq32 := zq13.trans zq31
       have hlh18 := hlh10.trans zq32
       exact ⟨(t9, y7, k9), m18, Nat.lt_succ_self _, ⟨hst18, hlh18, hfr18.sub (.c <| .c <| .c <| .c <| .c <| .c <| .c <| .c <| .c <| .c <| .c <| .nil), ⟨hS7, hr9, by show t9.steps + (k9 : Int) = (fuel : Int); omega⟩⟩⟩
   ·try simp only [nqs] at hb59
    have hsf9 : sF = sq := run_end hrk (hb59.elim (fun h => .inl (by omega)) (fun h => .inr h))
    rw [hsf9] at heF
    refine zv ?_
    refine hK26 _ _ ?_
    refine zB fun _ hK36 => ?_
    refine zB fun _ hK37 => ?_
    refine rp0 hst11 hfr11 (.cons rfl (ZJ (j := 3) rfl rfl isAgg64 rfl) <| .cons rfl (zL rfl) <| .cons rfl (zA (off := 21) rfl underlying79 rfl rfl sizeOf35 rfl) <| .cons rfl (zA (off := 0) rfl underlying35 rfl rfl sizeOf33 rfl) <| .cons rfl (zA (off := 0) rfl underlying33 rfl rfl sizeOf3 rfl) <| .cons rfl (zK (k := 21) (j := 0) rfl rfl isAgg3 rfl) <| .cons rfl (zS rfl rfl) <| .cons rfl (zC rfl) <| .cons rfl (ZJ (j := 3) rfl rfl isAgg64 rfl) <| .cons rfl (zX rfl (.cons rfl <| .nil) call32 (fun w m hK => by have hle_ := KC.le hK; have hA := KC.agree hK; exact ended_c (s := sq) (y := yq) hA (KC.at_ hK (k := 0) rfl))) <| .cons rfl (zU rfl rfl rfl) <| .nil) fun a12 w12 m12 hst12 hle12 hk12 => ?_
    have hfr12 := hk12.fr (.o 0 <| .o 1 <| .o 2 <| .o 3 <| .o 4 <| .o 8 <| .o 21 <| .o 22 <| .o 24 <| .o 9 <| .o 26 <| .n 92 <| .nil)
    clear hst11 hfr11 hk12
    refine hK37 _ _ ?_
    refine zE hfr12 rfl rfl (fun hb92 => ?_) (fun hb92 => ?_)
    ·try simp only [nqs] at hb92
     have hr0 := heF.symm.trans (end_yes hb92.1 hb92.2)
     have zq33 := hle11.trans hle12
     replace hSq := hSq.mono zq33
     refine zc (tch := [(11, 0, (fun _ => .blkx _ _ _))]) (fun _ => zw) hst12 hfr12 (by kernel_rfl) (by kernel_rfl) (by kernel_rfl) (.cons rfl (ZJ (j := 3) rfl rfl isAgg64 rfl) <| .cons rfl (ZJ (j := 3) rfl rfl isAgg64 rfl) <| .cons rfl (zL rfl) <| .cons rfl (zA (off := 0) rfl underlying79 rfl rfl sizeOf77 rfl) <| .cons rfl (zA (off := 8) rfl underlying77 rfl rfl sizeOf72 rfl) <| .cons rfl (zz (k := 8) (j := 0) rfl rfl isAgg72 sizeOf72 rfl rfl) <| .cons rfl (zm (φ := MP.vt (zBi sq.v)) rfl (.cons rfl <| .nil) call36 (fun w m hK => by have hle_ := KC.le hK; have hA := KC.agree hK; have hSq := hSq.mono hle_; exact FnG.mono (shownv_c hA hSq.v) fun _ _ _ _ h => h)) <| .cons rfl (zAI 99 rfl rfl rfl fun y99 => zQ (.cons rfl <| .cons rfl <| .nil) underlying33 zeroValue33 (.cons sizeOf3 <| .cons sizeOf31 <| .nil) rfl) <| .cons rfl (zL rfl) <| .cons rfl (zA (off := 21) rfl underlying79 rfl rfl sizeOf35 rfl) <| .cons rfl (zA (off := 0) rfl underlying35 rfl rfl sizeOf33 rfl) <| .consT rfl rfl (fun _ => rfl) rfl (z8 100 rfl rfl rfl fun y100 => z1 (k := 21) rfl rfl rfl sizeOf33 rfl rfl rfl) <| .nil) fun a13 w13 m13 hst13 hle13 hk13 => ?_
     have hfr13 := hk13.fr (.o 0 <| .o 1 <| .o 2 <| .o 3 <| .o 4 <| .o 8 <| .o 21 <| .o 22 <| .o 24 <| .o 9 <| .o 26 <| .nil)
     replace hst13 := hst13.fin (L' := [_, _, _, _, _, _, _]) (.cons rfl <| .nil)
     try simp only [List.take_succ_cons, List.take_zero, List.drop_succ_cons, List.drop_zero, List.cons_append, List.nil_append, List.append_nil, List.length_cons, List.length_nil, Nat.zero_add, Nat.reduceAdd] at hst13
     obtain ⟨yv9, hyv9, hst13⟩ := hst13.unx (k := 0) rfl (fun _ => rfl)
     clear hst12 hfr12 hk13
     refine hK36 _ _ ?_
     refine zB fun _ hK39 => ?_
     refine ra0 (tch := [(4, 6, (fun _ => .blk _ _))]) hst13 hfr13 (.cons rfl (ZJ (j := 3) rfl rfl isAgg64 rfl) <| .cons rfl (zL rfl) <| .cons rfl (zA (off := 21) rfl underlying79 rfl rfl sizeOf35 rfl) <| .cons rfl (zz (j := 0) rfl rfl isAgg35 sizeOf35 rfl rfl) <| .consT rfl rfl (fun _ => rfl) rfl (ze rfl rfl rfl sizeOf35 rfl rfl rfl) <| .nil) fun a14 w14 m14 hst14 hle14 hk14 => ?_
     have hfr14 := hk14.fr (.o 0 <| .o 1 <| .o 2 <| .o 3 <| .o 4 <| .o 8 <| .o 21 <| .o 22 <| .o 24 <| .o 9 <| .o 26 <| .nil)
     replace hst14 := hst14.fin (L' := [_, _, _, _, _, _, _]) (.cons rfl <| .nil)
     try simp only [List.take_succ_cons, List.take_zero, List.drop_succ_cons, List.drop_zero, List.cons_append, List.nil_append, List.append_nil, List.length_cons, List.length_nil, Nat.zero_add, Nat.reduceAdd] at hst14
     clear hst13 hfr13 hk14
     refine hK39 _ _ ?_
     refine zN ?_
     repeat (with_reducible first | refine zH ?_ | refine zG ?_)
     have zq34 := hle13.trans hle14
     replace hSq := hSq.mono zq34
     replace hyv9 := hyv9.mono hle14
     exact zCP hst14 (k := 5) rfl hfr14 rfl (fun w hstE => .cell rfl (zi (zf (hstE.loc.at_ (k := 6) rfl)) isAgg35 sizeOf35) <| .nil) (fun w => by rw [hr0]; first | exact ⟨(yv9, yq.to, yq.tc), rfl, hyv9, hSq.tr⟩ | exact ⟨((none, 0), yq.to, yq.tc), rfl, VR.leaf ⟨by decide, by decide⟩ ⟨by decide, by decide⟩, hSq.tr⟩)
    ·try simp only [nqs] at hb92
     have hr0 := heF.symm.trans (end_no fun h => hb92.elim (fun h1 => h1 h.1) (fun h1 => by rw [h.2] at h1; cases h1))
     refine zR ?_
     refine hK36 _ _ ?_
     refine zB fun _ hK41 => ?_
     refine ra0 (tch := [(4, 6, (fun _ => .blk _ _))]) hst12 hfr12 (.cons rfl (ZJ (j := 3) rfl rfl isAgg64 rfl) <| .cons rfl (zL rfl) <| .cons rfl (zA (off := 21) rfl underlying79 rfl rfl sizeOf35 rfl) <| .cons rfl (zz (j := 0) rfl rfl isAgg35 sizeOf35 rfl rfl) <| .consT rfl rfl (fun _ => rfl) rfl (ze rfl rfl rfl sizeOf35 rfl rfl rfl) <| .nil) fun a13 w13 m13 hst13 hle13 hk13 => ?_
     have hfr13 := hk13.fr (.o 0 <| .o 1 <| .o 2 <| .o 3 <| .o 4 <| .o 8 <| .o 21 <| .o 22 <| .o 24 <| .o 9 <| .o 26 <| .nil)
     replace hst13 := hst13.fin (L' := [_, _, _, _, _, _, _]) (.cons rfl <| .nil)
     try simp only [List.take_succ_cons, List.take_zero, List.drop_succ_cons, List.drop_zero, List.cons_append, List.nil_append, List.append_nil, List.length_cons, List.length_nil, Nat.zero_add, Nat.reduceAdd] at hst13
     clear hst12 hfr12 hk13
     refine hK41 _ _ ?_
     refine zN ?_
     repeat (with_reducible first | refine zH ?_ | refine zG ?_)
     have zq35 := hle12.trans hle13
     have zq36 := hle11.trans zq35
     replace hSq := hSq.mono zq36
     exact zCP hst13 (k := 5) rfl hfr13 rfl (fun w hstE => .cell rfl (zi (zf (hstE.loc.at_ (k := 6) rfl)) isAgg35 sizeOf35) <| .nil) (fun w => by rw [hr0]; first | exact ⟨(yv9, yq.to, yq.tc), rfl, hyv9, hSq.tr⟩ | exact ⟨((none, 0), yq.to, yq.tc), rfl, VR.leaf ⟨by decide, by decide⟩ ⟨by decide, by decide⟩, hSq.tr⟩)
  ·exact hrel.elim
end Go.Proofs.Ytnppknioifgdfaa
namespace Go.Proofs.Ytnppknioifgdfaa
open Go.Proofs.Try
set_option linter.all false
set_option maxRecDepth 4000
open Go.RowKit
abbrev noY : CdY := ⟨none, 0, none, 0⟩
def zDC (s : Str) : Cd := ⟨1, s, [], 0, [], []⟩
def zDz (n : Int) : Cd := ⟨2, [], [], n, [], []⟩
def zCc (k : Int) (s p : Str) (l : List Cd) (az : List Ca) : Cd := ⟨k, s, p, 0, l, az⟩
theorem i0 : zo 0 := ⟨by decide, by decide⟩
theorem var_R {m : Mem} (s : Str) : CdR m (zDC s) (cdV (zDC s) noY) := CdR.build ⟨by show -9223372036854775808 ≤ (1 : Int); decide, by show (1 : Int) ≤ 9223372036854775807; decide⟩ i0 Sl.empty Sl.empty
theorem int_R {m : Mem} {n : Int} (hn : zo n) : CdR m (zDz n) (cdV (zDz n) noY) := CdR.build ⟨by show -9223372036854775808 ≤ (2 : Int); decide, by show (2 : Int) ≤ 9223372036854775807; decide⟩ hn Sl.empty Sl.empty
theorem zero_R {m : Mem} : CdR m ⟨0, [], [], 0, [], []⟩ (cdV ⟨0, [], [], 0, [], []⟩ noY) := CdR.build i0 i0 Sl.empty Sl.empty
theorem node1_R {m : Mem} {k : Int} {s p : Str} {t : Cd} {g : Nat} {vs : List Value} (hk : zo k) (hc : CellsAt m ⟨g, 0, none⟩ vs) (h : CdR m t vs) : CdR m (zCc k s p [t] []) (cdV (zCc k s p [t] []) ⟨some ⟨g, 0, none⟩, 1, none, 0⟩) :=
 CdR.build hk i0 (Sl.one (R := fun m vs t => CdR m t vs) hc h.len h) Sl.empty
theorem node2_R {m : Mem} {k : Int} {s p : Str} {t u : Cd} {g : Nat} {vs us : List Value} (hk : zo k) (hc : CellsAt m ⟨g, 0, none⟩ (vs ++ us)) (h : CdR m t vs) (h2 : CdR m u us) : CdR m (zCc k s p [t, u] []) (cdV (zCc k s p [t, u] []) ⟨some ⟨g, 0, none⟩, 2, none, 0⟩) :=
 CdR.build hk i0 (Sl.two (R := fun m vs t => CdR m t vs) hc h.len h2.len h h2) Sl.empty
theorem node1a_R {m : Mem} {k : Int} {s p : Str} {t : Cd} {az : List Ca} {g : Nat} {vs : List Value} {o : Option Addr} {c : Nat} (hk : zo k) (hc : CellsAt m ⟨g, 0, none⟩ vs) (h : CdR m t vs) (ha : Cas m o az.length c az) : CdR m (zCc k s p [t] az) (cdV (zCc k s p [t] az) ⟨some ⟨g, 0, none⟩, 1, o, c⟩) :=
 CdR.build hk i0 (Sl.one (R := fun m vs t => CdR m t vs) hc h.len h) ha
theorem zEX {m : Mem} {g : Nat} {l : List Str} (h : CellsAt m ⟨g, 0, none⟩ (l.map S)) (hb : l.length ≤ 1000000000) : Strs m (some ⟨g, 0, none⟩) l.length l.length l := Strs.of_row (.inr ⟨_, rfl, h⟩) rfl (Nat.le_refl _) (by omega)
theorem arm_R {m : Mem} {n : Str} {l : List Str} {tl : Bool} {t : Cd} {o : Option Addr} {c : Nat} {vs : List Value} (hl : Strs m o l.length c l) (h : CdR m t vs) : CaR m ⟨n, l, tl, t⟩ (S n :: .slice o l.length c :: .bool tl :: vs) := ⟨o, c, vs, rfl, hl, h⟩
theorem arms2_R {m : Mem} {a b : Ca} {g : Nat} {vs us : List Value} (hc : CellsAt m ⟨g, 0, none⟩ (vs ++ us)) (h : CaR m a vs) (h2 : CaR m b us) : Cas m (some ⟨g, 0, none⟩) 2 2 [a, b] := Sl.two (R := fun m vs t => CaR m t vs) hc h.len h2.len h h2
abbrev caV (a : Ca) (y : Option Addr × Nat × CdY) : List Value := S a.name :: .slice y.1 a.vars.length y.2.1 :: .bool a.tail :: cdV a.body y.2.2
def MP.ca (a : Ca) : MP := MP.mem (fun y : Option Addr × Nat × CdY => .agg (caV a y).toArray) (fun y m => CaR m a (caV a y)) fun hm h => h.mono hm
abbrev zDy : Str := [103, 101, 116]
abbrev putS : Str := [112, 117, 116]
abbrev retS : Str := [114, 101, 116, 117, 114, 110]
abbrev addC (a b : Cd) : Cd := zCc 11 [43] [] [a, b] []
abbrev askC (s : Str) (t : Cd) : Cd := zCc 14 s [] [t] []
abbrev bindC (s : Str) (a b : Cd) : Cd := zCc 8 s [] [a, b] []
abbrev zEv : Ca := ⟨retS, [[120]], false, zDC [120]⟩
abbrev promptC (t : Cd) (az : List Ca) : Cd := zCc 15 [69] [] [t] az
def efs : List Ef := [⟨[69], [zDy, putS]⟩, ⟨[70], [[120], zDy]⟩]
def MP.efs (l : List Ef) : MP := MP.mem (fun y : Option Addr × Nat => .slice y.1 l.length y.2) (fun y m => Efs m y.1 l.length y.2 l) fun hm h => h.mono hm
theorem op_R {m : Mem} (s : Str) : OpR m [S s, .int .i64 0, S [], .int .i64 0, .slice none 0 0, .slice none 0 0, .int .i64 0, .int .i64 0, S [], .int .i64 0, .slice none 0 0, .slice none 0 0, .int .i64 0] s := ⟨_, _, _, _, _, _, _, _, _, _, _, _, rfl, rfl⟩
-- What must be in any case.
abbrev ask1 : Cd := askC zDy (zDz 1)
abbrev shTail : Ca := ⟨zDy, [[120]], true, addC (zDC [120]) (zDz 1)⟩
abbrev shC : Cd := promptC (bindC [97] ask1 (addC (zDC [97]) (zDz 1))) [zEv, shTail]
abbrev shR : Rn := ⟨1, ⟨1, 3, [], []⟩, [], 9, 0⟩
theorem run_sh1 : runR shC efs [] 100 = some shR := by kernel_rfl
theorem run_sh2 : runR ask1 efs [] 100 = some ⟨4, VT.z, [], 1, 0⟩ := by kernel_rfl
theorem run_sh3 : runR ⟨0, [], [], 0, [], []⟩ [] [] 100 = some ⟨4, VT.z, [], 0, 0⟩ := by kernel_rfl
set_option maxHeartbeats 400000 in
theorem zAx {w : World} {m : Mem} {s : Str} (hA : Agree w m)  : FnV Try.prog 18 #[S s] w m (fun _ _ v => v = .agg (cdV (zDC s) noY).toArray) := by
 refine zZ (vs := [_]) func18 rfl rfl rfl fun a0 hfr0 => ?_
 have hst0 := zW hA (zg [] _ w m)
 have hM : MLe m m := MLe.refl m
 refine zB fun _ hK1 => ?_
 replace hst0 := hst0.more (r := .free) trivial List.nodup_nil (by simp [Res.blocks])
 refine ra0 (tch := [(0, 0, (fun v => .blk v _))]) hst0 hfr0 (.consT rfl rfl (fun _ => rfl) rfl (zP zeroValue25 rfl) <| .nil) fun a1 w1 m1 hst1 hle1 hk1 => ?_
 have hfr1 := hk1.fr (.o 0 <| .nil)
 obtain ⟨g2, e2, _⟩ := hk1.ex 2 rfl
 replace hfr1 := hfr1.cons e2
 replace hst1 := hst1.fin (L' := [_]) (.cons e2 <| .nil)
 clear hst0 hfr0 hk1
 refine hK1 _ _ ?_
 refine zB fun _ hK3 => ?_
 refine ra0 (tch := [(2, 0, (fun _ => .blk _ _))]) hst1 hfr1 (.cons rfl (zC rfl) <| .cons rfl (zQ (.cons rfl <| .cons rfl <| .nil) underlying25 zeroValue25 (.cons sizeOf3 <| .cons sizeOf9 <| .cons sizeOf9 <| .cons sizeOf3 <| .cons sizeOf22 <| .cons sizeOf23 <| .nil) rfl) <| .consT rfl rfl (fun _ => rfl) rfl (ze rfl rfl rfl sizeOf25 rfl rfl rfl) <| .nil) fun a2 w2 m2 hst2 hle2 hk2 => ?_
 have hfr2 := hk2.fr (.o 2 <| .nil)
 replace hst2 := hst2.fin (L' := [_]) (.cons rfl <| .nil)
 try simp only [List.take_succ_cons, List.take_zero, List.drop_succ_cons, List.drop_zero, List.cons_append, List.nil_append, List.append_nil, List.length_cons, List.length_nil, Nat.zero_add, Nat.reduceAdd] at hst2
 clear hst1 hfr1 hk2
 refine hK3 _ _ ?_
 refine zN ?_
 repeat (with_reducible first | refine zH ?_ | refine zG ?_)
 exact zO hst2 hfr2 rfl (.cell rfl (zi (zf (hst2.loc.at_ (k := 0) rfl)) isAgg25 sizeOf25) <| .nil) (rfl)
set_option maxHeartbeats 400000 in
theorem lnum_c {w : World} {m : Mem} {n : Int} (hA : Agree w m)  : FnV Try.prog 19 #[.int .i64 n] w m (fun _ _ v => v = .agg (cdV (zDz n) noY).toArray) := by
 refine zZ (vs := [_]) func19 rfl rfl rfl fun a0 hfr0 => ?_
 have hst0 := zW hA (zg [] _ w m)
 have hM : MLe m m := MLe.refl m
 refine zB fun _ hK1 => ?_
 replace hst0 := hst0.more (r := .free) trivial List.nodup_nil (by simp [Res.blocks])
 refine ra0 (tch := [(0, 0, (fun v => .blk v _))]) hst0 hfr0 (.consT rfl rfl (fun _ => rfl) rfl (zP zeroValue25 rfl) <| .nil) fun a1 w1 m1 hst1 hle1 hk1 => ?_
 have hfr1 := hk1.fr (.o 0 <| .nil)
 obtain ⟨g2, e2, _⟩ := hk1.ex 2 rfl
 replace hfr1 := hfr1.cons e2
 replace hst1 := hst1.fin (L' := [_]) (.cons e2 <| .nil)
 clear hst0 hfr0 hk1
 refine hK1 _ _ ?_
 refine zB fun _ hK3 => ?_
 refine ra0 (tch := [(2, 0, (fun _ => .blk _ _))]) hst1 hfr1 (.cons rfl (zC rfl) <| .cons rfl (zQ (.cons rfl <| .cons rfl <| .nil) underlying25 zeroValue25 (.cons sizeOf3 <| .cons sizeOf9 <| .cons sizeOf9 <| .cons sizeOf3 <| .cons sizeOf22 <| .cons sizeOf23 <| .nil) rfl) <| .consT rfl rfl (fun _ => rfl) rfl (ze rfl rfl rfl sizeOf25 rfl rfl rfl) <| .nil) fun a2 w2 m2 hst2 hle2 hk2 => ?_
 have hfr2 := hk2.fr (.o 2 <| .nil)
 replace hst2 := hst2.fin (L' := [_]) (.cons rfl <| .nil)
 try simp only [List.take_succ_cons, List.take_zero, List.drop_succ_cons, List.drop_zero, List.cons_append, List.nil_append, List.append_nil, List.length_cons, List.length_nil, Nat.zero_add, Nat.reduceAdd] at hst2
 clear hst1 hfr1 hk2
 refine hK3 _ _ ?_
 refine zN ?_
 repeat (with_reducible first | refine zH ?_ | refine zG ?_)
 exact zO hst2 hfr2 rfl (.cell rfl (zi (zf (hst2.loc.at_ (k := 0) rfl)) isAgg25 sizeOf25) <| .nil) (rfl)
set_option maxHeartbeats 400000 in
theorem add_c {w : World} {m : Mem} {a : Cd} {vs_a : List Value} {b : Cd} {vs_b : List Value} (hA : Agree w m) (h_a : CdR m a vs_a) (h_b : CdR m b vs_b) : FnV Try.prog 20 #[.agg vs_a.toArray, .agg vs_b.toArray] w m (fun _ m v => (MP.cd (addC a b)).p m v) := by
 obtain ⟨⟨oK_a, cK_a, oA_a, cA_a⟩, rfl, ⟨hik_a, hin_a⟩, hkk_a, haa_a⟩ := h_a.open_
 dsimp only at hkk_a haa_a
 have hbg_a := hkk_a.big; have hcp_a := hkk_a.cap; have hbh_a := haa_a.big; have hcq_a := haa_a.cap
 obtain ⟨⟨oK_b, cK_b, oA_b, cA_b⟩, rfl, ⟨hik_b, hin_b⟩, hkk_b, haa_b⟩ := h_b.open_
 dsimp only at hkk_b haa_b
 have hbg_b := hkk_b.big; have hcp_b := hkk_b.cap; have hbh_b := haa_b.big; have hcq_b := haa_b.cap
 refine zZ (vs := [_, _]) func20 rfl rfl rfl fun a0 hfr0 => ?_
 have hst0 := zW hA (zg [] _ w m)
 have hM : MLe m m := MLe.refl m
 refine zB fun _ hK1 => ?_
 replace hst0 := hst0.more (r := .free) trivial List.nodup_nil (by simp [Res.blocks])
 refine ra0 (tch := [(2, 0, (fun v => .blk v _))]) hst0 hfr0 (.cons rfl (zr rfl rfl) <| .cons rfl (zr rfl rfl) <| .consT rfl rfl (fun _ => rfl) rfl (zP zeroValue25 rfl) <| .nil) fun a1 w1 m1 hst1 hle1 hk1 => ?_
 have hfr1 := hk1.fr (.nil)
 obtain ⟨g2, e2, hc2⟩ := hk1.ex 2 rfl
 replace hfr1 := hfr1.cons e2
 obtain ⟨g3, e3, hc3⟩ := hk1.ex 3 rfl
 replace hfr1 := hfr1.cons e3
 obtain ⟨g4, e4, _⟩ := hk1.ex 4 rfl
 replace hfr1 := hfr1.cons e4
 replace hst1 := hst1.fin (L' := [_]) (.cons e4 <| .nil)
 replace h_a := h_a.mono hle1
 replace h_b := h_b.mono hle1
 clear hst0 hfr0 hk1
 refine hK1 _ _ ?_
 refine zB fun _ hK5 => ?_
 refine z7 3 (by kernel_rfl) ?_
 refine zq (tch := []) hst1 hfr1 (by kernel_rfl) (by kernel_rfl) (by kernel_rfl) (.cons rfl (zY rfl hc2 isAgg25 sizeOf25 rfl rfl) <| .cons rfl (zY rfl hc3 isAgg25 sizeOf25 rfl rfl) <| .cons rfl (ZO rfl rfl underlying22 sizeOf25 zeroValue25 rfl rfl rfl rfl rfl) <| .nil) fun a2 w2 m2 hst2 hle2 hk2 => ?_
 have hfr2 := hk2.fr (.o 2 <| .o 3 <| .o 4 <| .nil)
 obtain ⟨gK, e6, hK⟩ := hk2.ex 7 rfl
 replace hfr2 := hfr2.cons e6
 replace h_a := h_a.mono hle2
 replace h_b := h_b.mono hle2
 clear hst1 hfr1 hk2
 refine zq (tch := [(1, 0, (fun _ => .blk _ _))]) hst2 hfr2 (by kernel_rfl) (by kernel_rfl) (by kernel_rfl) (.cons rfl (zQ (cs := cdV (addC a b) ⟨some ⟨gK, 0, none⟩, 2, none, 0⟩) (.cons rfl <| .cons rfl <| .cons rfl <| .nil) underlying25 zeroValue25 (.cons sizeOf3 <| .cons sizeOf9 <| .cons sizeOf9 <| .cons sizeOf3 <| .cons sizeOf22 <| .cons sizeOf23 <| .nil) (rfl)) <| .consT rfl rfl (fun _ => rfl) rfl (ze rfl rfl rfl sizeOf25 rfl rfl rfl) <| .nil) fun a3 w3 m3 hst3 hle3 hk3 => ?_
 have hfr3 := hk3.fr (.o 2 <| .o 3 <| .o 4 <| .o 7 <| .nil)
 replace hst3 := hst3.fin (L' := [_]) (.cons rfl <| .nil)
 try simp only [List.take_succ_cons, List.take_zero, List.drop_succ_cons, List.drop_zero, List.cons_append, List.nil_append, List.append_nil, List.length_cons, List.length_nil, Nat.zero_add, Nat.reduceAdd] at hst3
 replace h_a := h_a.mono hle3
 replace h_b := h_b.mono hle3
 replace hK := hK.mono hle3
 clear hst2 hfr2 hk3
 refine hK5 _ _ ?_
 refine zN ?_
 repeat (with_reducible first | refine zH ?_ | refine zG ?_)
 exact zO hst3 hfr3 rfl (.cell rfl (zi (zf (hst3.loc.at_ (k := 0) rfl)) isAgg25 sizeOf25) <| .nil) (⟨_, rfl, node2_R ⟨by decide, by decide⟩ hK h_a h_b⟩)
set_option maxHeartbeats 400000 in
theorem same_c {w : World} {m : Mem}  (hA : Agree w m)  : FnV Try.prog 21 #[] w m (fun _ m v => (MP.ca zEv).p m v) := by
 refine zZ (vs := []) func21 rfl rfl rfl fun a0 hfr0 => ?_
 have hst0 := zW hA (zg [] _ w m)
 have hM : MLe m m := MLe.refl m
 refine zB fun _ hK1 => ?_
 replace hst0 := hst0.more (r := .free) trivial List.nodup_nil (by simp [Res.blocks])
 refine ra0 (tch := [(0, 0, (fun v => .blk v _))]) hst0 hfr0 (.consT rfl rfl (fun _ => rfl) rfl (zP zeroValue47 rfl) <| .nil) fun a1 w1 m1 hst1 hle1 hk1 => ?_
 have hfr1 := hk1.fr (.nil)
 obtain ⟨g0, e2, _⟩ := hk1.ex 0 rfl
 replace hfr1 := hfr1.cons e2
 replace hst1 := hst1.fin (L' := [_]) (.cons e2 <| .nil)
 clear hst0 hfr0 hk1
 refine hK1 _ _ ?_
 refine zB fun _ hK3 => ?_
 refine z7 1 (by kernel_rfl) ?_
 refine zq (tch := []) hst1 hfr1 (by kernel_rfl) (by kernel_rfl) (by kernel_rfl) (.cons rfl (Zb (.cons rfl <| .nil) underlying45 sizeOf9 zeroValue9 rfl rfl rfl rfl) <| .nil) fun a2 w2 m2 hst2 hle2 hk2 => ?_
 have hfr2 := hk2.fr (.o 0 <| .nil)
 obtain ⟨gK, e4, hK⟩ := hk2.ex 1 rfl
 replace hfr2 := hfr2.cons e4
 clear hst1 hfr1 hk2
 refine zq (tch := [(2, 0, (fun _ => .blk _ _))]) hst2 hfr2 (by kernel_rfl) (by kernel_rfl) (by kernel_rfl) (.cons rfl (zX rfl (.cons rfl <| .nil) call18 (fun w m hK => by have hle_ := KC.le hK; have hA := KC.agree hK; exact zAx (s := [120]) hA)) <| .cons rfl (zQ (.cons rfl <| .cons rfl <| .cons rfl <| .nil) underlying47 zeroValue47 (.cons sizeOf9 <| .cons sizeOf45 <| .cons sizeOf4 <| .cons sizeOf25 <| .nil) rfl) <| .consT rfl rfl (fun _ => rfl) rfl (ze rfl rfl rfl sizeOf47 rfl rfl rfl) <| .nil) fun a3 w3 m3 hst3 hle3 hk3 => ?_
 have hfr3 := hk3.fr (.o 0 <| .o 1 <| .nil)
 replace hst3 := hst3.fin (L' := [_]) (.cons rfl <| .nil)
 try simp only [List.take_succ_cons, List.take_zero, List.drop_succ_cons, List.drop_zero, List.cons_append, List.nil_append, List.append_nil, List.length_cons, List.length_nil, Nat.zero_add, Nat.reduceAdd] at hst3
 replace hK := hK.mono hle3
 clear hst2 hfr2 hk3
 refine hK3 _ _ ?_
 refine zN ?_
 repeat (with_reducible first | refine zH ?_ | refine zG ?_)
 exact zO hst3 hfr3 rfl (.cell rfl (zi (zf (hst3.loc.at_ (k := 0) rfl)) isAgg47 sizeOf47) <| .nil) (⟨(some ⟨gK, 0, none⟩, 1, noY), rfl, arm_R (l := [[120]]) (zEX (l := [[120]]) hK (by decide)) (var_R [120])⟩)
set_option maxHeartbeats 400000 in
theorem zBQ {w : World} {m : Mem}  (hA : Agree w m)  : FnV Try.prog 15 #[] w m (fun _ m v => (MP.efs efs).p m v) := by
 refine zZ (vs := []) func15 rfl rfl rfl fun a0 hfr0 => ?_
 have hst0 := zW hA (zg [] _ w m)
 have hM : MLe m m := MLe.refl m
 refine zB fun _ hK1 => ?_
 refine rp0 hst0 hfr0 (.cons rfl (zD rfl) <| .nil) fun a1 w1 m1 hst1 hle1 hk1 => ?_
 have hfr1 := hk1.fr (.nil)
 clear hst0 hfr0 hk1
 refine hK1 _ _ ?_
 refine zB fun _ hK2 => ?_
 refine z7 3 (by kernel_rfl) ?_
 refine zq (tch := []) hst1 hfr1 (by kernel_rfl) (by kernel_rfl) (by kernel_rfl) (.cons rfl (zQ (cs := [S zDy, .int .i64 0, S [], .int .i64 0, .slice none 0 0, .slice none 0 0, .int .i64 0, .int .i64 0, S [], .int .i64 0, .slice none 0 0, .slice none 0 0, .int .i64 0]) (.cons rfl <| .nil) underlying92 zeroValue92 (.cons sizeOf9 <| .cons sizeOf90 <| .cons sizeOf90 <| .nil) (rfl)) <| .cons rfl (zQ (cs := [S putS, .int .i64 0, S [], .int .i64 0, .slice none 0 0, .slice none 0 0, .int .i64 0, .int .i64 0, S [], .int .i64 0, .slice none 0 0, .slice none 0 0, .int .i64 0]) (.cons rfl <| .nil) underlying92 zeroValue92 (.cons sizeOf9 <| .cons sizeOf90 <| .cons sizeOf90 <| .nil) (rfl)) <| .cons rfl (ZO rfl rfl underlying83 sizeOf92 zeroValue92 rfl rfl rfl rfl rfl) <| .nil) fun a2 w2 m2 hst2 hle2 hk2 => ?_
 have hfr2 := hk2.fr (.nil)
 obtain ⟨gA, e3, hA9⟩ := hk2.ex 3 rfl
 replace hfr2 := hfr2.cons e3
 clear hst1 hfr1 hk2
 have hoA : Ops m2 (some ⟨gA, 0, none⟩) 2 2 [zDy, putS] := (Sl.two (R := fun m vs s => OpR m vs s) hA9 rfl rfl (op_R zDy) (op_R putS))
 refine zCO 4 (by kernel_rfl) ?_
 refine zq (tch := []) hst2 hfr2 (by kernel_rfl) (by kernel_rfl) (by kernel_rfl) (.cons rfl (zQ (cs := [S [69], .slice (some ⟨gA, 0, none⟩) 2 2]) (.cons rfl <| .cons rfl <| .nil) underlying85 zeroValue85 (.cons sizeOf9 <| .cons sizeOf83 <| .nil) (rfl)) <| .cons rfl (zQ (cs := [S [120], .int .i64 0, S [], .int .i64 0, .slice none 0 0, .slice none 0 0, .int .i64 0, .int .i64 0, S [], .int .i64 0, .slice none 0 0, .slice none 0 0, .int .i64 0]) (.cons rfl <| .nil) underlying92 zeroValue92 (.cons sizeOf9 <| .cons sizeOf90 <| .cons sizeOf90 <| .nil) (rfl)) <| .cons rfl (zQ (cs := [S zDy, .int .i64 0, S [], .int .i64 0, .slice none 0 0, .slice none 0 0, .int .i64 0, .int .i64 0, S [], .int .i64 0, .slice none 0 0, .slice none 0 0, .int .i64 0]) (.cons rfl <| .nil) underlying92 zeroValue92 (.cons sizeOf9 <| .cons sizeOf90 <| .cons sizeOf90 <| .nil) (rfl)) <| .cons rfl (ZO rfl rfl underlying83 sizeOf92 zeroValue92 rfl rfl rfl rfl rfl) <| .nil) fun a3 w3 m3 hst3 hle3 hk3 => ?_
 have hfr3 := hk3.fr (.o 3 <| .n 4 <| .nil)
 obtain ⟨gB, e4, hB9⟩ := hk3.ex 7 rfl
 replace hfr3 := hfr3.cons e4
 replace hoA := hoA.mono hle3
 clear hst2 hfr2 hk3
 have hoB : Ops m3 (some ⟨gB, 0, none⟩) 2 2 [[120], zDy] := (Sl.two (R := fun m vs s => OpR m vs s) hB9 rfl rfl (op_R [120]) (op_R zDy))
 refine zq (tch := []) hst3 hfr3 (by kernel_rfl) (by kernel_rfl) (by kernel_rfl) (.cons rfl (zQ (cs := [S [70], .slice (some ⟨gB, 0, none⟩) 2 2]) (.cons rfl <| .cons rfl <| .nil) underlying85 zeroValue85 (.cons sizeOf9 <| .cons sizeOf83 <| .nil) (rfl)) <| .cons rfl (ZO rfl rfl underlying37 sizeOf85 zeroValue85 rfl rfl rfl rfl rfl) <| .consA 9 rfl rfl <| .nil) fun a4 w4 m4 hst4 hle4 hk4 => ?_
 have hfr4 := hk4.fr (.o 3 <| .o 4 <| .o 7 <| .nil)
 obtain ⟨gC, e5, hC9⟩ := hk4.ex 9 rfl
 replace hfr4 := hfr4.cons e5
 replace hfr4 := hfr4.cons (hk4.same 0 rfl e5)
 replace hoA := hoA.mono hle4
 replace hoB := hoB.mono hle4
 clear hst3 hfr3 hk4
 refine hK2 _ _ ?_
 refine zN ?_
 repeat (with_reducible first | refine zH ?_ | refine zG ?_)
 exact zO hst4 hfr4 rfl (.tmp rfl <| .nil) (⟨(some ⟨gC, 0, none⟩, 2), rfl, Sl.two (R := fun m vs e => EfR m vs e) hC9 rfl rfl (⟨_, _, rfl, hoA⟩ : EfR _ _ (⟨[69], [zDy, putS]⟩ : Ef)) (⟨_, _, rfl, hoB⟩ : EfR _ _ (⟨[70], [[120], zDy]⟩ : Ef))⟩)
set_option maxHeartbeats 3200000 in
theorem shown_c {w : World} {m : Mem}  (hA : Agree w m)  : FnV Try.prog 12 #[] w m (fun _ _ v => v = .bool true) := by
 refine zZ (vs := []) func12 rfl rfl rfl fun a0 hfr0 => ?_
 have hst0 := zW hA (zg [] _ w m)
 have hM : MLe m m := MLe.refl m
 refine zB fun _ hK1 => ?_
 refine rp0 hst0 hfr0 (.cons rfl (zD rfl) <| .nil) fun a1 w1 m1 hst1 hle1 hk1 => ?_
 have hfr1 := hk1.fr (.nil)
 clear hst0 hfr0 hk1
 refine hK1 _ _ ?_
 refine zB fun _ hK2 => ?_
 refine z7 2 (by kernel_rfl) ?_
 refine zq (tch := []) hst1 hfr1 (by kernel_rfl) (by kernel_rfl) (by kernel_rfl) (.cons rfl (zX rfl (.cons rfl <| .nil) call19 (fun w m hK => by have hle_ := KC.le hK; have hA := KC.agree hK; exact lnum_c (n := 1) hA)) <| .cons rfl (ZV rfl underlying22 sizeOf25 zeroValue25 rfl rfl rfl rfl) <| .nil) fun a2 w2 m2 hst2 hle2 hk2 => ?_
 have hfr2 := hk2.fr (.nil)
 obtain ⟨gA, e3, hA9⟩ := hk2.ex 9 rfl
 replace hfr2 := hfr2.cons e3
 clear hst1 hfr1 hk2
 have hask : CdR m2 ask1 (cdV ask1 ⟨some ⟨gA, 0, none⟩, 1, none, 0⟩) := node1_R ⟨by decide, by decide⟩ hA9 (int_R ⟨by decide, by decide⟩)
 replace hst2 := hst2.more (r := .free) trivial List.nodup_nil (by simp [Res.blocks])
 refine zq (tch := [(1, 0, (fun v => .blk v _)), (2, 0, (fun v => .blk v _))]) hst2 hfr2 (by kernel_rfl) (by kernel_rfl) (by kernel_rfl) (.cons rfl (zQ (cs := cdV ask1 ⟨some ⟨gA, 0, none⟩, 1, none, 0⟩) (.cons rfl <| .cons rfl <| .cons rfl <| .nil) underlying25 zeroValue25 (.cons sizeOf3 <| .cons sizeOf9 <| .cons sizeOf9 <| .cons sizeOf3 <| .cons sizeOf22 <| .cons sizeOf23 <| .nil) (rfl)) <| .consT rfl rfl (fun _ => rfl) rfl (zP zeroValue25 rfl) <| .consT rfl rfl (fun _ => rfl) rfl (zb 1 rfl rfl rfl fun y1 => za rfl rfl rfl rfl rfl sizeOf25 rfl rfl rfl) <| .nil) fun a3 w3 m3 hst3 hle3 hk3 => ?_
 have hfr3 := hk3.fr (.o 9 <| .nil)
 obtain ⟨g1, e4, _⟩ := hk3.ex 1 rfl
 replace hfr3 := hfr3.cons e4
 replace hst3 := hst3.fin (L' := [_]) (.cons e4 <| .cons e4 <| .nil)
 try simp only [List.take_succ_cons, List.take_zero, List.drop_succ_cons, List.drop_zero, List.cons_append, List.nil_append, List.append_nil, List.length_cons, List.length_nil, Nat.zero_add, Nat.reduceAdd] at hst3
 replace hask := hask.mono hle3
 clear hst2 hfr2 hk3
 refine hK2 _ _ ?_
 refine zB fun _ hK5 => ?_
 replace hst3 := hst3.more (r := .free) trivial List.nodup_nil (by simp [Res.blocks])
 refine zc (tch := [(6, 1, (fun v => .blk v _)), (7, 1, (fun v => .blkx v _ _))]) (fun _ => zw) hst3 hfr3 (by kernel_rfl) (by kernel_rfl) (by kernel_rfl) (.cons rfl (zh (j := 0) rfl rfl isAgg25 sizeOf25 rfl) <| .cons rfl (zX rfl (.cons rfl <| .nil) call18 (fun w m hK => by have hle_ := KC.le hK; have hA := KC.agree hK; exact zAx (s := [97]) hA)) <| .cons rfl (zX rfl (.cons rfl <| .nil) call19 (fun w m hK => by have hle_ := KC.le hK; have hA := KC.agree hK; exact lnum_c (n := 1) hA)) <| .cons rfl (zm (φ := MP.cd (addC (zDC [97]) (zDz 1))) rfl (.cons rfl <| .cons rfl <| .nil) call20 (fun w m hK => by have hle_ := KC.le hK; have hA := KC.agree hK; exact FnG.mono (add_c hA (var_R [97]) (int_R ⟨by decide, by decide⟩)) fun _ _ _ _ h => h)) <| .cons rfl (zBA 14 rfl rfl rfl fun y14 => ZO rfl rfl underlying22 sizeOf25 zeroValue25 rfl rfl rfl rfl rfl) <| .cons rfl (zAI 15 rfl rfl rfl fun y15 => zQ (.cons rfl <| .cons rfl <| .cons rfl <| .nil) underlying25 zeroValue25 (.cons sizeOf3 <| .cons sizeOf9 <| .cons sizeOf9 <| .cons sizeOf3 <| .cons sizeOf22 <| .cons sizeOf23 <| .nil) rfl) <| .consT rfl rfl (fun _ => rfl) rfl (zP zeroValue25 rfl) <| .consT rfl rfl (fun _ => rfl) rfl (zb 2 rfl rfl rfl fun y2 => z8 16 rfl rfl rfl fun y16 => za rfl rfl rfl rfl rfl sizeOf25 rfl rfl rfl) <| .nil) fun a4 w4 m4 hst4 hle4 hk4 => ?_
 have hfr4 := hk4.fr (.o 1 <| .nil)
 obtain ⟨g2, e6, _⟩ := hk4.ex 2 rfl
 replace hfr4 := hfr4.cons e6
 replace hst4 := hst4.fin (L' := [_, _]) (.cons e6 <| .cons e6 <| .nil)
 try simp only [List.take_succ_cons, List.take_zero, List.drop_succ_cons, List.drop_zero, List.cons_append, List.nil_append, List.append_nil, List.length_cons, List.length_nil, Nat.zero_add, Nat.reduceAdd] at hst4
 obtain ⟨⟨y14, g15⟩, ⟨h14, h15⟩, hst4⟩ := hst4.unx (k := 1) rfl (fun _ => rfl)
 replace hask := hask.mono hle4
 clear hst3 hfr3 hk4
 have h15b : CellsAt m4 ⟨g15, 0, none⟩ (cdV ask1 ⟨some ⟨gA, 0, none⟩, 1, none, 0⟩ ++ cdV (addC (zDC [97]) (zDz 1)) y14) := h15
 have hbo : CdR m4 (bindC [97] ask1 (addC (zDC [97]) (zDz 1))) (cdV (bindC [97] ask1 (addC (zDC [97]) (zDz 1))) ⟨some ⟨g15, 0, none⟩, 2, none, 0⟩) := node2_R ⟨by decide, by decide⟩ h15b hask h14
 refine hK5 _ _ ?_
 refine zB fun _ hK8 => ?_
 replace hst4 := hst4.more (r := .free) trivial List.nodup_nil (by simp [Res.blocks])
 refine ra0 (tch := [(5, 2, (fun v => .blk v _)), (6, 2, (fun v => .blkx v _ _))]) hst4 hfr4 (.cons rfl (Zb (.cons rfl <| .nil) underlying45 sizeOf9 zeroValue9 rfl rfl rfl rfl) <| .cons rfl (zX rfl (.cons rfl <| .nil) call18 (fun w m hK => by have hle_ := KC.le hK; have hA := KC.agree hK; exact zAx (s := [120]) hA)) <| .cons rfl (zX rfl (.cons rfl <| .nil) call19 (fun w m hK => by have hle_ := KC.le hK; have hA := KC.agree hK; exact lnum_c (n := 1) hA)) <| .cons rfl (zm (φ := MP.cd (addC (zDC [120]) (zDz 1))) rfl (.cons rfl <| .cons rfl <| .nil) call20 (fun w m hK => by have hle_ := KC.le hK; have hA := KC.agree hK; exact FnG.mono (add_c hA (var_R [120]) (int_R ⟨by decide, by decide⟩)) fun _ _ _ _ h => h)) <| .cons rfl (zBA 17 rfl rfl rfl fun y17 => zAI 20 rfl rfl rfl fun y20 => zQ (.cons rfl <| .cons rfl <| .cons rfl <| .cons rfl <| .nil) underlying47 zeroValue47 (.cons sizeOf9 <| .cons sizeOf45 <| .cons sizeOf4 <| .cons sizeOf25 <| .nil) rfl) <| .consT rfl rfl (fun _ => rfl) rfl (zP zeroValue47 rfl) <| .consT rfl rfl (fun _ => rfl) rfl (zb 3 rfl rfl rfl fun y3 => z8 21 rfl rfl rfl fun y21 => za rfl rfl rfl rfl rfl sizeOf47 rfl rfl rfl) <| .nil) fun a5 w5 m5 hst5 hle5 hk5 => ?_
 have hfr5 := hk5.fr (.o 1 <| .o 2 <| .nil)
 obtain ⟨g3, e9, _⟩ := hk5.ex 3 rfl
 replace hfr5 := hfr5.cons e9
 replace hst5 := hst5.fin (L' := [_, _, _]) (.cons e9 <| .cons e9 <| .nil)
 try simp only [List.take_succ_cons, List.take_zero, List.drop_succ_cons, List.drop_zero, List.cons_append, List.nil_append, List.append_nil, List.length_cons, List.length_nil, Nat.zero_add, Nat.reduceAdd] at hst5
 obtain ⟨⟨g17, y20⟩, ⟨h17, h20⟩, hst5⟩ := hst5.unx (k := 2) rfl (fun _ => rfl)
 replace hask := hask.mono hle5
 replace hbo := hbo.mono hle5
 clear hst4 hfr4 hk5
 have htl : CaR m5 shTail (caV shTail (some ⟨g17, 0, none⟩, 1, y20)) := arm_R (l := [[120]]) (zEX (l := [[120]]) h17 (by decide)) h20
 refine hK8 _ _ ?_
 refine zB fun _ hK11 => ?_
 replace hst5 := hst5.more (r := .free) trivial List.nodup_nil (by simp [Res.blocks])
 refine zc (tch := [(6, 3, (fun v => .blk v _)), (7, 3, (fun v => .blkx v _ _))]) (fun _ => zw) hst5 hfr5 (by kernel_rfl) (by kernel_rfl) (by kernel_rfl) (.cons rfl (zh (j := 1) rfl rfl isAgg25 sizeOf25 rfl) <| .cons rfl (ZV rfl underlying22 sizeOf25 zeroValue25 rfl rfl rfl rfl) <| .cons rfl (zm (φ := MP.ca zEv) rfl (.nil) call21 (fun w m hK => by have hle_ := KC.le hK; have hA := KC.agree hK; exact FnG.mono (same_c hA) fun _ _ _ _ h => h)) <| .cons rfl (zh (j := 2) rfl rfl isAgg47 sizeOf47 rfl) <| .cons rfl (zBA 24 rfl rfl rfl fun y24 => ZO rfl rfl underlying23 sizeOf47 zeroValue47 rfl rfl rfl rfl rfl) <| .cons rfl (zBA 23 rfl rfl rfl fun y23 => zAI 26 rfl rfl rfl fun y26 => zQ (.cons rfl <| .cons rfl <| .cons rfl <| .cons rfl <| .nil) underlying25 zeroValue25 (.cons sizeOf3 <| .cons sizeOf9 <| .cons sizeOf9 <| .cons sizeOf3 <| .cons sizeOf22 <| .cons sizeOf23 <| .nil) rfl) <| .consT rfl rfl (fun _ => rfl) rfl (zP zeroValue25 rfl) <| .consT rfl rfl (fun _ => rfl) rfl (zb 4 rfl rfl rfl fun y4 => z8 27 rfl rfl rfl fun y27 => za rfl rfl rfl rfl rfl sizeOf25 rfl rfl rfl) <| .nil) fun a6 w6 m6 hst6 hle6 hk6 => ?_
 have hfr6 := hk6.fr (.o 1 <| .nil)
 obtain ⟨g4, e12, _⟩ := hk6.ex 4 rfl
 replace hfr6 := hfr6.cons e12
 replace hst6 := hst6.fin (L' := [_, _, _, _]) (.cons e12 <| .cons e12 <| .nil)
 try simp only [List.take_succ_cons, List.take_zero, List.drop_succ_cons, List.drop_zero, List.cons_append, List.nil_append, List.append_nil, List.length_cons, List.length_nil, Nat.zero_add, Nat.reduceAdd] at hst6
 obtain ⟨⟨g23, ⟨y24, g26⟩⟩, ⟨h23, ⟨h24, h26⟩⟩, hst6⟩ := hst6.unx (k := 3) rfl (fun _ => rfl)
 replace hask := hask.mono hle6
 replace hbo := hbo.mono hle6
 replace htl := htl.mono hle6
 clear hst5 hfr5 hk6
 have h26b : CellsAt m6 ⟨g26, 0, none⟩ (caV zEv y24 ++ caV shTail (some ⟨g17, 0, none⟩, 1, y20)) := h26
 have hsh : CdR m6 shC (cdV shC ⟨some ⟨g23, 0, none⟩, 1, some ⟨g26, 0, none⟩, 2⟩) := node1a_R ⟨by decide, by decide⟩ h23 hbo (arms2_R h26b h24 htl)
 refine hK11 _ _ ?_
 refine zB fun _ hK14 => ?_
 replace hst6 := hst6.more (r := .free) trivial List.nodup_nil (by simp [Res.blocks])
 refine zc (tch := [(3, 4, (fun v => .blk v _)), (4, 4, (fun v => .blkx v _ _))]) (fun _ => zw) hst6 hfr6 (by kernel_rfl) (by kernel_rfl) (by kernel_rfl) (.cons rfl (zh (j := 3) rfl rfl isAgg25 sizeOf25 rfl) <| .cons rfl (zm (φ := MP.efs efs) rfl (.nil) call15 (fun w m hK => by have hle_ := KC.le hK; have hA := KC.agree hK; exact FnG.mono (zBQ hA) fun _ _ _ _ h => h)) <| .cons rfl (zAf 29 rfl rfl rfl fun y29 => zm (φ := MP.rn shR) rfl (.cons rfl <| .cons rfl <| .cons rfl <| .cons rfl <| .nil) call14 (fun w m hK => by have hle_ := KC.le hK; have hA := KC.agree hK; have hr0_ := hK.2; have hsh := hsh.mono hle_; exact FnG.mono (run_c (c := shC) (es := efs) (input := []) (fuel := 100) (r := shR) hA hsh hr0_ Sl.empty (by simp) run_sh1 (by simp) (by omega)) fun _ _ _ _ h => h)) <| .consT rfl rfl (fun _ => rfl) rfl (zP zeroValue35 rfl) <| .consT rfl rfl (fun _ => rfl) rfl (zb 5 rfl rfl rfl fun y5 => z8 30 rfl rfl rfl fun y30 => za rfl rfl rfl rfl rfl sizeOf35 rfl rfl rfl) <| .nil) fun a7 w7 m7 hst7 hle7 hk7 => ?_
 have hfr7 := hk7.fr (.o 1 <| .nil)
 obtain ⟨g5, e15, _⟩ := hk7.ex 5 rfl
 replace hfr7 := hfr7.cons e15
 replace hst7 := hst7.fin (L' := [_, _, _, _, _]) (.cons e15 <| .cons e15 <| .nil)
 try simp only [List.take_succ_cons, List.take_zero, List.drop_succ_cons, List.drop_zero, List.cons_append, List.nil_append, List.append_nil, List.length_cons, List.length_nil, Nat.zero_add, Nat.reduceAdd] at hst7
 obtain ⟨y30, h30, hst7⟩ := hst7.unx (k := 4) rfl (fun _ => rfl)
 replace hask := hask.mono hle7
 clear hst6 hfr6 hk7
 refine hK14 _ _ ?_
 refine zB fun _ hK17 => ?_
 replace hst7 := hst7.more (r := .free) trivial List.nodup_nil (by simp [Res.blocks])
 refine zc (tch := [(3, 5, (fun v => .blk v _)), (4, 5, (fun v => .blkx v _ _))]) (fun _ => zw) hst7 hfr7 (by kernel_rfl) (by kernel_rfl) (by kernel_rfl) (.cons rfl (zh (j := 0) rfl rfl isAgg25 sizeOf25 rfl) <| .cons rfl (zm (φ := MP.efs efs) rfl (.nil) call15 (fun w m hK => by have hle_ := KC.le hK; have hA := KC.agree hK; exact FnG.mono (zBQ hA) fun _ _ _ _ h => h)) <| .cons rfl (zAf 32 rfl rfl rfl fun y32 => zm (φ := MP.rn ⟨4, VT.z, [], 1, 0⟩) rfl (.cons rfl <| .cons rfl <| .cons rfl <| .cons rfl <| .nil) call14 (fun w m hK => by have hle_ := KC.le hK; have hA := KC.agree hK; have hr0_ := hK.2; have hask := hask.mono hle_; exact FnG.mono (run_c (c := ask1) (es := efs) (input := []) (fuel := 100) (r := ⟨4, VT.z, [], 1, 0⟩) hA hask hr0_ Sl.empty (by simp) run_sh2 (by simp) (by omega)) fun _ _ _ _ h => h)) <| .consT rfl rfl (fun _ => rfl) rfl (zP zeroValue35 rfl) <| .consT rfl rfl (fun _ => rfl) rfl (zb 6 rfl rfl rfl fun y6 => z8 33 rfl rfl rfl fun y33 => za rfl rfl rfl rfl rfl sizeOf35 rfl rfl rfl) <| .nil) fun a8 w8 m8 hst8 hle8 hk8 => ?_
 have hfr8 := hk8.fr (.o 5 <| .nil)
 obtain ⟨g6, e18, _⟩ := hk8.ex 6 rfl
 replace hfr8 := hfr8.cons e18
 replace hst8 := hst8.fin (L' := [_, _, _, _, _, _]) (.cons e18 <| .cons e18 <| .nil)
 try simp only [List.take_succ_cons, List.take_zero, List.drop_succ_cons, List.drop_zero, List.cons_append, List.nil_append, List.append_nil, List.length_cons, List.length_nil, Nat.zero_add, Nat.reduceAdd] at hst8
 obtain ⟨y33, h33, hst8⟩ := hst8.unx (k := 5) rfl (fun _ => rfl)
 clear hst7 hfr7 hk8
 refine hK17 _ _ ?_
 refine zB fun _ hK20 => ?_
 replace hst8 := hst8.more (r := .free) trivial List.nodup_nil (by simp [Res.blocks])
 refine ra0 (tch := [(2, 6, (fun v => .blk v _)), (3, 6, (fun v => .blkx v _ _))]) hst8 hfr8 (.cons rfl (zQ (cs := cdV ⟨0, [], [], 0, [], []⟩ noY) (.nil) underlying25 zeroValue25 (.cons sizeOf3 <| .cons sizeOf9 <| .cons sizeOf9 <| .cons sizeOf3 <| .cons sizeOf22 <| .cons sizeOf23 <| .nil) (rfl)) <| .cons rfl (zm (φ := MP.rn ⟨4, VT.z, [], 0, 0⟩) rfl (.cons rfl <| .cons rfl <| .cons rfl <| .cons rfl <| .nil) call14 (fun w m hK => by have hle_ := KC.le hK; have hA := KC.agree hK; exact FnG.mono (run_c (c := ⟨0, [], [], 0, [], []⟩) (es := []) (input := []) (fuel := 100) (r := ⟨4, VT.z, [], 0, 0⟩) hA zero_R Sl.empty Sl.empty (by simp) run_sh3 (by simp) (by omega)) fun _ _ _ _ h => h)) <| .consT rfl rfl (fun _ => rfl) rfl (zP zeroValue35 rfl) <| .consT rfl rfl (fun _ => rfl) rfl (zb 7 rfl rfl rfl fun y7 => z8 35 rfl rfl rfl fun y35 => za rfl rfl rfl rfl rfl sizeOf35 rfl rfl rfl) <| .nil) fun a9 w9 m9 hst9 hle9 hk9 => ?_
 have hfr9 := hk9.fr (.o 5 <| .o 6 <| .nil)
 obtain ⟨g7, e21, _⟩ := hk9.ex 7 rfl
 replace hfr9 := hfr9.cons e21
 replace hst9 := hst9.fin (L' := [_, _, _, _, _, _, _]) (.cons e21 <| .cons e21 <| .nil)
 try simp only [List.take_succ_cons, List.take_zero, List.drop_succ_cons, List.drop_zero, List.cons_append, List.nil_append, List.append_nil, List.length_cons, List.length_nil, Nat.zero_add, Nat.reduceAdd] at hst9
 obtain ⟨y35, h35, hst9⟩ := hst9.unx (k := 6) rfl (fun _ => rfl)
 clear hst8 hfr8 hk9
 refine hK20 _ _ ?_
 refine zB fun _ hK23 => ?_
 refine rp0 hst9 hfr9 (.cons rfl (zA (off := 0) rfl underlying35 rfl rfl sizeOf33 rfl) <| .cons rfl (zA (off := 0) rfl underlying33 rfl rfl sizeOf3 rfl) <| .cons rfl (zK (k := 0) (j := 4) rfl rfl isAgg3 rfl) <| .cons rfl (zS rfl rfl) <| .cons rfl (zC rfl) <| .cons rfl (zA (off := 0) rfl underlying35 rfl rfl sizeOf33 rfl) <| .cons rfl (zA (off := 1) rfl underlying33 rfl rfl sizeOf31 rfl) <| .cons rfl (zA (off := 1) rfl underlying31 rfl rfl sizeOf3 rfl) <| .cons rfl (zK (k := 2) (j := 4) rfl rfl isAgg3 rfl) <| .cons rfl (zS rfl rfl) <| .cons rfl (zU rfl rfl rfl) <| .cons rfl (zC rfl) <| .cons rfl (zA (off := 7) rfl underlying35 rfl rfl sizeOf3 rfl) <| .cons rfl (zK (j := 4) rfl rfl isAgg3 rfl) <| .cons rfl (zS rfl rfl) <| .cons rfl (zU rfl rfl rfl) <| .cons rfl (zC rfl) <| .cons rfl (zA (off := 0) rfl underlying35 rfl rfl sizeOf33 rfl) <| .cons rfl (zA (off := 0) rfl underlying33 rfl rfl sizeOf3 rfl) <| .cons rfl (zK (k := 0) (j := 5) rfl rfl isAgg3 rfl) <| .cons rfl (zS rfl rfl) <| .cons rfl (zU rfl rfl rfl) <| .cons rfl (zC rfl) <| .cons rfl (zA (off := 6) rfl underlying35 rfl rfl sizeOf3 rfl) <| .cons rfl (zK (j := 5) rfl rfl isAgg3 rfl) <| .cons rfl (zS rfl rfl) <| .cons rfl (zU rfl rfl rfl) <| .cons rfl (zC rfl) <| .cons rfl (zA (off := 0) rfl underlying35 rfl rfl sizeOf33 rfl) <| .cons rfl (zA (off := 0) rfl underlying33 rfl rfl sizeOf3 rfl) <| .cons rfl (zK (k := 0) (j := 6) rfl rfl isAgg3 rfl) <| .cons rfl (zS rfl rfl) <| .cons rfl (zU rfl rfl rfl) <| .cons rfl (zC rfl) <| .cons rfl (zA (off := 6) rfl underlying35 rfl rfl sizeOf3 rfl) <| .cons rfl (zK (j := 6) rfl rfl isAgg3 rfl) <| .cons rfl (zS rfl rfl) <| .cons rfl (zU rfl rfl rfl) <| .cons rfl (zD rfl) <| .nil) fun a10 w10 m10 hst10 hle10 hk10 => ?_
 have hfr10 := hk10.fr (.n 0 <| .nil)
 clear hst9 hfr9 hk10
 refine hK23 _ _ ?_
 refine zN ?_
 repeat (with_reducible first | refine zH ?_ | refine zG ?_)
 exact zO hst10 hfr10 rfl (.tmp rfl <| .nil) (rfl)
end Go.Proofs.Ytnppknioifgdfaa
namespace Go.Proofs.Ytnppknioifgdfaa
set_option linter.all false
set_option maxRecDepth 4000
open Go.RowKit
mutual
/-- All bindings are quiet. -/
def z0 : Cd → Cd
 | ⟨k, s, p, n, ks, az⟩ => ⟨if k = 8 then 7 else k, s, p, n, zEn ks, zFF az⟩
def zEn : List Cd → List Cd
 | [] => []
 | t :: ts => z0 t :: zEn ts
def zFF : List Ca → List Ca
 | [] => []
 | ⟨s, l, tl, b⟩ :: ts => ⟨s, l, tl, z0 b⟩ :: zFF ts
end
def zAM (a : Ca) : Ca := ⟨a.name, a.vars, a.tail, z0 a.body⟩
theorem zEd : ∀ l : List Cd, zEn l = l.map z0
 | [] => by rw [zEn]; rfl
 | t :: ts => by rw [zEn, zEd ts]; rfl
theorem zES : ∀ l : List Ca, zFF l = l.map zAM
 | [] => by rw [zFF]; rfl
 | ⟨s, l, tl, b⟩ :: ts => by rw [zFF, zES ts]; rfl
theorem zAw (t : Cd) : z0 t = ⟨if t.kind = 8 then 7 else t.kind, t.name, t.param, t.n, t.kids.map z0, t.arms.map zAM⟩ := by
 obtain ⟨k, s, p, n, ks, az⟩ := t; rw [z0, zEd, zES]; rfl
theorem zAS (t : Cd) : (z0 t).kind = if t.kind = 8 then 7 else t.kind := by rw [zAw]; rfl
theorem zCp (t : Cd) : (z0 t).name = t.name := by rw [zAw]; rfl
theorem zDs (t : Cd) : (z0 t).param = t.param := by rw [zAw]; rfl
theorem letsC_n (t : Cd) : (z0 t).n = t.n := by rw [zAw]; rfl
theorem zAu (t : Cd) : (z0 t).kids = t.kids.map z0 := by rw [zAw]; rfl
theorem zCl (t : Cd) : (z0 t).arms = t.arms.map zAM := by rw [zAw]; rfl
theorem atomC_lets (t : Cd) : zBr (z0 t) = zBr t := by
 unfold zBr; rw [zAS]
 split
 ·rename_i h; rw [h]; rfl
 ·rfl
theorem atomsC_lets (t : Cd) (n : Nat) : Zq (z0 t) n = Zq t n := by
 unfold Zq; rw [zAu, ← List.map_take, List.all_map]
 congr 1; funext u; exact atomC_lets u
theorem headC_lets (t : Cd) : zCK (z0 t) = zCK t := by
 unfold zCK
 simp only [zAS, zCp, zDs, letsC_n, zAu, zCl, List.length_map, atomsC_lets]
 by_cases h8 : t.kind = 8
 ·simp [h8]
 ·simp only [if_neg h8]
theorem armOk_lets (k : Int) (i : Nat) (a : Ca) : Z7 (if k = 8 then 7 else k) i (zAM a) = Z7 k i a := by
 by_cases h8 : k = 8
 ·subst h8; rw [if_pos rfl]; unfold Z7; rw [if_neg (show ¬ (7 : Int) = 13 by decide), if_neg (show ¬ (8 : Int) = 13 by decide)]; rfl
 ·rw [if_neg h8]; rfl
theorem zDv (k : Int) : ∀ (l : List Ca) (i : Nat), Zw (if k = 8 then 7 else k) i (l.map zAM) = Zw k i l
 | [], _ => rfl
 | a :: l, i => by rw [List.map_cons, Zw, Zw, armOk_lets, zDv k l]
theorem rightC_lets : ∀ t : Cd, ZB (z0 t) = ZB t := by
 refine Cd.rec_ fun t ihk iha => ?_
 rw [zAU, zAU, headC_lets, zAS, zCl, zAu, zDv, List.all_map, List.all_map]
 have h1 : t.kids.all (ZB ∘ z0) = t.kids.all ZB := by
  rw [Bool.eq_iff_iff, List.all_eq_true, List.all_eq_true]
  exact ⟨fun h u hu => (ihk u hu) ▸ h u hu, fun h u hu => (ihk u hu).trans (h u hu)⟩
 have h2 : t.arms.all ((fun a => ZB a.body) ∘ zAM) = t.arms.all fun a => ZB a.body := by
  rw [Bool.eq_iff_iff, List.all_eq_true, List.all_eq_true]
  exact ⟨fun h u hu => (iha u hu) ▸ h u hu, fun h u hu => (iha u hu).trans (h u hu)⟩
 rw [h1, h2]
mutual
/-- How many pieces of a kind. -/
def nK (k : Int) : Cd → Nat
 | ⟨kd, _, _, _, ks, az⟩ => (if kd = k then 1 else 0) + (nKs k ks + nAs k az)
def nKs (k : Int) : List Cd → Nat
 | [] => 0
 | t :: ts => nK k t + nKs k ts
def nAs (k : Int) : List Ca → Nat
 | [] => 0
 | ⟨_, _, _, b⟩ :: ts => nK k b + nAs k ts
end
theorem nK_eq (k : Int) (t : Cd) : nK k t = (if t.kind = k then 1 else 0) + (nKs k t.kids + nAs k t.arms) := by obtain ⟨kd, s, p, n, ks, az⟩ := t; rw [nK]; rfl
theorem zFJ (k : Int) (a : Ca) (ts : List Ca) : nAs k (a :: ts) = nK k a.body + nAs k ts := by obtain ⟨x, v, l, b⟩ := a; rw [nAs]; rfl
theorem nKs_mem {k : Int} : ∀ {l : List Cd} {u : Cd}, u ∈ l → nK k u ≤ nKs k l
 | t :: ts, u, h => by
  rw [nKs]
  rcases List.mem_cons.1 h with rfl | h
  ·omega
  ·have := nKs_mem (k := k) h; omega
theorem nAs_mem {k : Int} : ∀ {l : List Ca} {a : Ca}, a ∈ l → nK k a.body ≤ nAs k l
 | t :: ts, u, h => by
  rw [zFJ]
  rcases List.mem_cons.1 h with rfl | h
  ·omega
  ·have := nAs_mem (k := k) h; omega
mutual
/-- How many pieces there are, and names of arms. -/
def zAH : Cd → Nat
 | ⟨_, _, _, _, ks, az⟩ => 1 + (zAP ks + zBo az)
def zAP : List Cd → Nat
 | [] => 0
 | t :: ts => zAH t + zAP ts
def zBo : List Ca → Nat
 | [] => 0
 | ⟨_, l, _, b⟩ :: ts => min l.length 500 + zAH b + zBo ts
end
theorem zBD (t : Cd) : zAH t = 1 + (zAP t.kids + zBo t.arms) := by obtain ⟨kd, s, p, n, ks, az⟩ := t; rw [zAH]; rfl
theorem zBf (a : Ca) (ts : List Ca) : zBo (a :: ts) = min a.vars.length 500 + zAH a.body + zBo ts := by obtain ⟨x, v, l, b⟩ := a; rw [zBo]; rfl
theorem zCU : ∀ {l : List Cd} {u : Cd}, u ∈ l → zAH u ≤ zAP l
 | t :: ts, u, h => by
  rw [zAP]
  rcases List.mem_cons.1 h with rfl | h
  ·omega
  ·have := zCU h; omega
theorem zCS : ∀ {l : List Ca} {a : Ca}, a ∈ l → min a.vars.length 500 + zAH a.body ≤ zBo l
 | t :: ts, u, h => by
  rw [zBf]
  rcases List.mem_cons.1 h with rfl | h
  ·omega
  ·have := zCS h; omega
theorem zDW : ∀ (l : List Cd), l.length ≤ zAP l
 | [] => by simp
 | t :: ts => by rw [zAP, List.length_cons]; have := zDW ts; have := zBD t; omega
theorem cntLa_len : ∀ (l : List Ca), l.length ≤ zBo l
 | [] => by simp
 | t :: ts => by rw [zBf, List.length_cons]; have := cntLa_len ts; have := zBD t.body; omega
structure QC (c : Cd) : Prop where
 right : ZB c = true
 yld : nK 14 c = 0
 few : zAH c ≤ 1000
theorem QC.kids_len {c : Cd} (h : QC c) : c.kids.length ≤ 1000 := by have := h.few; have := zBD c; have := zDW c.kids; omega
theorem QC.kid {c u : Cd} (h : QC c) (hu : u ∈ c.kids) : QC u := by
 have h1 := h.right; have h2 := h.yld
 rw [zAU] at h1; simp only [Bool.and_eq_true] at h1
 rw [nK_eq] at h2
 have := nKs_mem (k := 14) hu
 have h3 := zCU hu; have h4 := zBD c; have h5 := h.few
 exact ⟨List.all_eq_true.1 h1.1.2 u hu, by omega, by omega⟩
theorem QC.arm {c : Cd} {a : Ca} (h : QC c) (ha : a ∈ c.arms) : QC a.body := by
 have h1 := h.right; have h2 := h.yld
 rw [zAU] at h1; simp only [Bool.and_eq_true] at h1
 rw [nK_eq] at h2
 have := nAs_mem (k := 14) ha
 have h3 := zCS ha; have h4 := zBD c; have h5 := h.few
 exact ⟨List.all_eq_true.1 h1.2 a ha, by omega, by omega⟩
theorem QC.head {c : Cd} (h : QC c) : zCK c = true := by
 have h1 := h.right; rw [zAU] at h1; simp only [Bool.and_eq_true] at h1; exact h1.1.1.1
theorem QC.oks {c : Cd} (h : QC c) : Zw c.kind 0 c.arms = true := by
 have h1 := h.right; rw [zAU] at h1; simp only [Bool.and_eq_true] at h1; exact h1.1.1.2
theorem QC.n14 {c : Cd} (h : QC c) : c.kind ≠ 14 := fun e => by have := h.yld; rw [nK_eq, if_pos e] at this; omega
theorem QC.shape {c : Cd} (h : QC c) :
  c.kind = 1 ∨ c.kind = 2 ∨ (c.kind = 3 ∧ (c.n = 0 ∨ c.n = 1)) ∨ c.kind = 4 ∨ (c.kind = 5 ∧ ∃ a, c.kids = [a]) ∨ (c.kind = 6 ∧ ∃ a b, c.kids = [a, b]) ∨ ((c.kind = 7 ∨ c.kind = 8) ∧ ∃ a b, c.kids = [a, b]) ∨ (c.kind = 9 ∧ ∃ a b, c.kids = [a, b]) ∨
  (c.kind = 10 ∧ ∃ a b d, c.kids = [a, b, d]) ∨ (c.kind = 11 ∧ (c.kids.length : Int) = Zp c.name) ∨ c.kind = 12 ∨ (c.kind = 13 ∧ ∃ a, c.kids = [a]) ∨ (c.kind = 15 ∧ (∃ a, c.kids = [a]) ∧ ∃ a r x, c.arms = a :: r ∧ a.vars = [x]) := by
 have hh := h.head; have ho := h.oks; have h14 := h.n14
 have k1 : ∀ l : List Cd, l.length = 1 → ∃ a, l = [a] := fun l e => by match l, e with | [a], _ => exact ⟨a, rfl⟩
 have k2 : ∀ l : List Cd, l.length = 2 → ∃ a b, l = [a, b] := fun l e => by match l, e with | [a, b], _ => exact ⟨a, b, rfl⟩
 have k3 : ∀ l : List Cd, l.length = 3 → ∃ a b d, l = [a, b, d] := fun l e => by match l, e with | [a, b, d], _ => exact ⟨a, b, d, rfl⟩
 unfold zCK at hh
 by_cases e1 : c.kind = 1
 ·exact .inl e1
 rw [if_neg e1] at hh
 by_cases e2 : c.kind = 2
 ·exact .inr (.inl e2)
 rw [if_neg e2] at hh
 by_cases e3 : c.kind = 3
 ·rw [if_pos e3] at hh; simp only [Bool.and_eq_true, Bool.or_eq_true, decide_eq_true_eq] at hh; exact .inr (.inr (.inl ⟨e3, hh.2⟩))
 rw [if_neg e3] at hh
 by_cases e4 : c.kind = 4
 ·exact .inr (.inr (.inr (.inl e4)))
 rw [if_neg e4] at hh
 by_cases e5 : c.kind = 5
 ·rw [if_pos e5] at hh; simp only [Bool.and_eq_true, decide_eq_true_eq] at hh; exact .inr (.inr (.inr (.inr (.inl ⟨e5, k1 _ hh.1.1.1.1⟩))))
 rw [if_neg e5] at hh
 by_cases e6 : c.kind = 6
 ·rw [if_pos e6] at hh; simp only [Bool.and_eq_true, decide_eq_true_eq] at hh; exact .inr (.inr (.inr (.inr (.inr (.inl ⟨e6, k2 _ hh.1.1.1.1.1⟩)))))
 rw [if_neg e6] at hh
 by_cases e7 : c.kind = 7 ∨ c.kind = 8
 ·rw [if_pos e7] at hh; simp only [Bool.and_eq_true, decide_eq_true_eq] at hh; exact .inr (.inr (.inr (.inr (.inr (.inr (.inl ⟨e7, k2 _ hh.1.1.1.1⟩))))))
 rw [if_neg e7] at hh
 by_cases e9 : c.kind = 9
 ·rw [if_pos e9] at hh; simp only [Bool.and_eq_true, decide_eq_true_eq] at hh; exact .inr (.inr (.inr (.inr (.inr (.inr (.inr (.inl ⟨e9, k2 _ hh.1.1.1.1⟩)))))))
 rw [if_neg e9] at hh
 by_cases e10 : c.kind = 10
 ·rw [if_pos e10] at hh; simp only [Bool.and_eq_true, decide_eq_true_eq] at hh; exact .inr (.inr (.inr (.inr (.inr (.inr (.inr (.inr (.inl ⟨e10, k3 _ hh.1.1.1.1.1⟩))))))))
 rw [if_neg e10] at hh
 by_cases e11 : c.kind = 11
 ·rw [if_pos e11] at hh; simp only [Bool.and_eq_true, decide_eq_true_eq] at hh; exact .inr (.inr (.inr (.inr (.inr (.inr (.inr (.inr (.inr (.inl ⟨e11, hh.1.1.1.1.1⟩)))))))))
 rw [if_neg e11] at hh
 by_cases e12 : c.kind = 12
 ·exact .inr (.inr (.inr (.inr (.inr (.inr (.inr (.inr (.inr (.inr (.inl e12))))))))))
 rw [if_neg e12] at hh
 by_cases e13 : c.kind = 13
 ·rw [if_pos e13] at hh; simp only [Bool.and_eq_true, decide_eq_true_eq] at hh; exact .inr (.inr (.inr (.inr (.inr (.inr (.inr (.inr (.inr (.inr (.inr (.inl ⟨e13, k1 _ hh.1.1.1.1.1⟩)))))))))))
 rw [if_neg e13, if_neg h14] at hh
 by_cases h15 : c.kind = 15
 ·rw [if_pos h15] at hh
  simp only [Bool.and_eq_true, decide_eq_true_eq] at hh
  refine .inr (.inr (.inr (.inr (.inr (.inr (.inr (.inr (.inr (.inr (.inr (.inr ⟨h15, k1 _ hh.1.1.1.1, ?_⟩)))))))))))
  cases ha : c.arms with
  | nil => rw [ha] at hh; simp at hh
  | cons a r =>
   rw [ha, h15] at ho
   unfold Zw Z7 at ho
   rw [if_neg (show ¬ (15 : Int) = 13 by decide), if_pos rfl] at ho
   simp only [Bool.and_eq_true, decide_eq_true_eq] at ho
   have h3 : a.vars.length = 1 := ho.1.2.1.2
   match hv : a.vars, h3 with
   | [x], _ => exact ⟨a, r, x, rfl, hv⟩
 ·rw [if_neg h15] at hh; cases hh
end Go.Proofs.Ytnppknioifgdfaa
namespace Go.Proofs.Ytnppknioifgdfaa
set_option linter.all false
set_option maxRecDepth 4000
open Go.RowKit
inductive Par {α : Type} (R : α → α → Prop) : List α → List α → Prop
 | nil : Par R [] []
 | cons {x y : α} {xs ys : List α} (h : R x y) (hs : Par R xs ys) : Par R (x :: xs) (y :: ys)
section
variable {α : Type} {R : α → α → Prop}
theorem Par.len {xs ys : List α} (h : Par R xs ys) : ys.length = xs.length := by induction h with | nil => rfl | cons _ _ ih => simp [ih]
theorem Par.mono {R' : α → α → Prop} (hm : ∀ x y, R x y → R' x y) {xs ys : List α} (h : Par R xs ys) : Par R' xs ys := by induction h with | nil => exact .nil | cons h _ ih => exact .cons (hm _ _ h) ih
theorem Par.app {xs ys us vs : List α} (h : Par R xs ys) (k : Par R us vs) : Par R (xs ++ us) (ys ++ vs) := by induction h with | nil => exact k | cons h _ ih => exact .cons h ih
theorem Par.get {xs ys : List α} (h : Par R xs ys) : ∀ {i : Nat} {x : α}, xs[i]? = some x → ∃ y, ys[i]? = some y ∧ R x y := by
 induction h with
 | nil => intro i x e; simp at e
 | cons h _ ih =>
  intro i x e
  cases i with
  | zero => simp only [List.getElem?_cons_zero, Option.some.injEq] at e; subst e; exact ⟨_, rfl, h⟩
  | succ i => simp only [List.getElem?_cons_succ] at e ⊢; exact ih e
theorem Par.set {xs ys : List α} (h : Par R xs ys) : ∀ {i : Nat} {x y : α}, R x y → Par R (xs.set i x) (ys.set i y) := by
 induction h with
 | nil => intro i x y _; exact .nil
 | cons h hs ih =>
  intro i x y e
  cases i with
  | zero => exact .cons e hs
  | succ i => exact .cons h (ih e)
theorem Par.snoc {xs zs : List α} {x : α} (h : Par R (xs ++ [x]) zs) : ∃ ys y, zs = ys ++ [y] ∧ Par R xs ys ∧ R x y := by
 induction xs generalizing zs with
 | nil => cases h with | cons h hs => cases hs; exact ⟨[], _, rfl, .nil, h⟩
 | cons u us ih =>
  cases h with
  | cons h hs =>
   obtain ⟨ys, y, e, h1, h2⟩ := ih hs
   exact ⟨_ :: ys, y, by rw [e]; rfl, .cons h h1, h2⟩
end
def CdS (c c' : Cd) : Prop := QC c ∧ c' = z0 c
mutual
/-- A value of both runs: N references there are. -/
def VlS (N : Nat) : Vl → Vl → Prop
 | ⟨k, n, s, ks, f, fs⟩, v' => v'.kind = k ∧ v'.n = n ∧ v'.name = s ∧ VlsS N ks v'.kids ∧ CloS N f v'.clo ∧ (fs = [] ∧ v'.fs = []) ∧ (k = 5 → 0 ≤ n ∧ n < (N : Int)) ∧ (k = 2 → n = 0 ∨ n = 1)
def VlsS (N : Nat) : List Vl → List Vl → Prop
 | [], l' => l' = []
 | v :: l, l' => ∃ v' r', l' = v' :: r' ∧ VlS N v v' ∧ VlsS N l r'
def CloS (N : Nat) : Clo → Clo → Prop
 | .none, f' => f' = .none
 | .mk s q b e, f' => ∃ b' e', f' = .mk s q b' e' ∧ CdS b b' ∧ EnvS N e e'
def EnvS (N : Nat) : Env → Env → Prop
 | .nil, e' => e' = .nil
 | .cons s v e, e' => ∃ v' r', e' = .cons s v' r' ∧ VlS N v v' ∧ EnvS N e r'
end
mutual
theorem VlS.mono {N M : Nat} (hm : N ≤ M) : ∀ {v v' : Vl}, VlS N v v' → VlS M v v'
 | ⟨k, n, s, ks, f, fs⟩, v', h => by
  simp only [VlS] at h ⊢
  obtain ⟨h1, h2, h3, h4, h5, h6, h7, h8⟩ := h
  exact ⟨h1, h2, h3, VlsS.mono hm h4, CloS.mono hm h5, h6, fun e => ⟨(h7 e).1, by have := (h7 e).2; omega⟩, h8⟩
theorem VlsS.mono {N M : Nat} (hm : N ≤ M) : ∀ {l l' : List Vl}, VlsS N l l' → VlsS M l l'
 | [], _, h => by simp only [VlsS] at h ⊢; exact h
 | v :: l, _, h => by
  simp only [VlsS] at h ⊢
  obtain ⟨v', r', e, h1, h2⟩ := h
  exact ⟨v', r', e, VlS.mono hm h1, VlsS.mono hm h2⟩
theorem CloS.mono {N M : Nat} (hm : N ≤ M) : ∀ {f f' : Clo}, CloS N f f' → CloS M f f'
 | .none, _, h => by simp only [CloS] at h ⊢; exact h
 | .mk s q b e, _, h => by
  simp only [CloS] at h ⊢
  obtain ⟨b', e', e1, h1, h2⟩ := h
  exact ⟨b', e', e1, h1, EnvS.mono hm h2⟩
theorem EnvS.mono {N M : Nat} (hm : N ≤ M) : ∀ {e e' : Env}, EnvS N e e' → EnvS M e e'
 | .nil, _, h => by simp only [EnvS] at h ⊢; exact h
 | .cons s v e, _, h => by
  simp only [EnvS] at h ⊢
  obtain ⟨v', r', e1, h1, h2⟩ := h
  exact ⟨v', r', e1, VlS.mono hm h1, EnvS.mono hm h2⟩
end
theorem VlsS.par {N : Nat} : ∀ {l l' : List Vl}, VlsS N l l' → Par (VlS N) l l'
 | [], _, h => by simp only [VlsS] at h; subst h; exact .nil
 | v :: l, _, h => by simp only [VlsS] at h; obtain ⟨v', r', rfl, h1, h2⟩ := h; exact .cons h1 (VlsS.par h2)
theorem VlsS.of {N : Nat} {l l' : List Vl} (h : Par (VlS N) l l') : VlsS N l l' := by
 induction h with
 | nil => simp only [VlsS]
 | cons h _ ih => simp only [VlsS]; exact ⟨_, _, rfl, h, ih⟩
theorem VlS.unfold {N : Nat} {v v' : Vl} (h : VlS N v v') : v'.kind = v.kind ∧ v'.n = v.n ∧ v'.name = v.name ∧ Par (VlS N) v.kids v'.kids ∧ CloS N v.clo v'.clo ∧ (v.fs = [] ∧ v'.fs = []) ∧ (v.kind = 5 → 0 ≤ v.n ∧ v.n < (N : Int)) ∧ (v.kind = 2 → v.n = 0 ∨ v.n = 1) := by
 obtain ⟨k, n, s, ks, f, fs⟩ := v
 simp only [VlS] at h
 exact ⟨h.1, h.2.1, h.2.2.1, h.2.2.2.1.par, h.2.2.2.2⟩
theorem VlS.mk_ {N : Nat} {k n : Int} {s : Str} {ks ks' : List Vl} {f f' : Clo} (h4 : Par (VlS N) ks ks') (h5 : CloS N f f') (h7 : k = 5 → 0 ≤ n ∧ n < (N : Int)) (h8 : k = 2 → n = 0 ∨ n = 1) : VlS N ⟨k, n, s, ks, f, []⟩ ⟨k, n, s, ks', f', []⟩ := by
 rw [VlS]; exact ⟨rfl, rfl, rfl, VlsS.of h4, h5, ⟨rfl, rfl⟩, h7, h8⟩
theorem VlS.flat {N : Nat} {k n : Int} {s : Str} (h5 : k = 5 → 0 ≤ n ∧ n < (N : Int)) (h2 : k = 2 → n = 0 ∨ n = 1) : VlS N ⟨k, n, s, [], .none, []⟩ ⟨k, n, s, [], .none, []⟩ :=
 VlS.mk_ .nil (by rw [CloS]) h5 h2
theorem VlS.con {N : Nat} {s : Str} {l l' : List Vl} (h : Par (VlS N) l l') : VlS N ⟨4, 0, s, l, .none, []⟩ ⟨4, 0, s, l', .none, []⟩ :=
 VlS.mk_ h (by rw [CloS]) (fun e => absurd e (by decide)) (fun e => absurd e (by decide))
theorem VlS.fn {N : Nat} {s p : Str} {b : Cd} {e e' : Env} (hb : QC b) (he : EnvS N e e') : VlS N (zCB s p b e) (zCB s p (z0 b) e') :=
 VlS.mk_ .nil (by rw [CloS]; exact ⟨_, _, rfl, ⟨hb, rfl⟩, he⟩) (fun e => absurd e (by decide)) (fun e => absurd e (by decide))
theorem EnvS.cons {N : Nat} {s : Str} {v v' : Vl} {e e' : Env} (h : VlS N v v') (k : EnvS N e e') : EnvS N (.cons s v e) (.cons s v' e') := by simp only [EnvS]; exact ⟨_, _, rfl, h, k⟩
theorem EnvS.find {N : Nat} {s : Str} : ∀ {e e' : Env}, EnvS N e e' → (zAX s e = none ∧ zAX s e' = none) ∨ ∃ v v', zAX s e = some v ∧ zAX s e' = some v' ∧ VlS N v v'
 | .nil, _, h => by simp only [EnvS] at h; subst h; exact .inl ⟨rfl, rfl⟩
 | .cons q v e, _, h => by
  simp only [EnvS] at h
  obtain ⟨v', r', rfl, h1, h2⟩ := h
  simp only [zAX]
  by_cases hq : q = s
  ·rw [if_pos hq, if_pos hq]; exact .inr ⟨_, _, rfl, rfl, h1⟩
  ·rw [if_neg hq, if_neg hq]; exact h2.find
theorem EnvS.bindAll {N : Nat} : ∀ {xs : List Str} {l l' : List Vl} {e e' : Env}, Par (VlS N) l l' → EnvS N e e' → EnvS N (bindAll xs l e) (bindAll xs l' e')
 | [], _, _, _, _, _, he => by simp only [Go.Proofs.Ytnppknioifgdfaa.bindAll]; exact he
 | _ :: _, _, _, _, _, .nil, he => by simp only [Go.Proofs.Ytnppknioifgdfaa.bindAll]; exact he
 | x :: xs, _, _, _, _, .cons h hs, he => by simp only [Go.Proofs.Ytnppknioifgdfaa.bindAll]; exact EnvS.bindAll hs (he.cons h)
def FmS (N : Nat) : Fm → Fm → Prop
 | .bound _ s c e, f' => ∃ q' c' e', f' = .bound q' s c' e' ∧ CdS c c' ∧ EnvS N e e'
 | .prompt s l e k, f' => ∃ e', f' = .prompt s (l.map zAM) e' k ∧ (∃ a r x, l = a :: r ∧ a.vars = [x] ∧ QC a.body) ∧ EnvS N e e'
 | .restore _ _, _ => False
theorem FmS.mono {N M : Nat} (hm : N ≤ M) {f f' : Fm} (h : FmS N f f') : FmS M f f' := by
 cases f with
 | bound q s c e => obtain ⟨q', c', e', h1, h2, h3⟩ := h; exact ⟨q', c', e', h1, h2, h3.mono hm⟩
 | prompt s l e k => obtain ⟨e', h1, h2, h3⟩ := h; exact ⟨e', h1, h2, h3.mono hm⟩
 | restore v n => exact h
structure McS (s s' : Mc) : Prop where
 q : QC s.c
 c : s'.c = z0 s.c
 e : EnvS s.cells.length s.e s'.e
 at_ : s'.at_ = s.at_
 v : VlS s.cells.length s.v s'.v
 ev : s'.ev.len = s.ev.len
 next : s'.next = s.next
 fr : Par (FmS s.cells.length) s.frames s'.frames
 cells : Par (VlS s.cells.length) s.cells s'.cells
 input : s'.input = s.input
 kind : s'.kind = s.kind
 trace : s'.trace = s.trace
 steps : s'.steps = s.steps
 konts : s'.konts = s.konts
structure Bd (s : Mc) (k : Nat) : Prop where
 fr : s.frames.length ≤ k
 ev : s.ev.len ≤ k
 n0 : 0 ≤ s.next
 n1 : s.next ≤ (k : Int)
 ce : s.cells.length ≤ k
 tr : s.trace.length ≤ k
 ko : s.konts = 0
theorem Bd.bnd {s : Mc} {k : Nat} (h : Bd s k) (hk : k ≤ 1000000) : s.bnd = true := by
 obtain ⟨h1, h2, h3, h4, h5, h6, h7⟩ := h
 unfold Mc.bnd
 simp only [Bool.and_eq_true, decide_eq_true_eq]
 omega
theorem Bd.up {s : Mc} {k : Nat} (h : Bd s k) : Bd s (k + 1) := by
 obtain ⟨h1, h2, h3, h4, h5, h6, h7⟩ := h
 exact ⟨by omega, by omega, h3, by omega, by omega, by omega, h7⟩
theorem McS.bd {s s' : Mc} {k : Nat} (h : McS s s') (hb : Bd s k) : Bd s' k := by
 obtain ⟨h1, h2, h3, h4, h5, h6, h7⟩ := hb
 exact ⟨by rw [h.fr.len]; exact h1, by rw [h.ev]; exact h2, by rw [h.next]; exact h3, by rw [h.next]; exact h4, by rw [h.cells.len]; exact h5, by rw [h.trace]; exact h6, by rw [h.konts]; exact h7⟩
theorem McS.goes {s s' : Mc} {c : Cd} {e e' : Env} (h : McS s s') (hc : QC c) (he : EnvS s.cells.length e e') : McS (s.goes c e) (s'.goes (z0 c) e') :=
 ⟨hc, rfl, he, rfl, h.v, h.ev, h.next, h.fr, h.cells, h.input, h.kind, h.trace, h.steps, h.konts⟩
theorem McS.has {s s' : Mc} {v v' : Vl} (h : McS s s') (hv : VlS s.cells.length v v') : McS (s.has v) (s'.has v') :=
 ⟨h.q, h.c, h.e, rfl, hv, h.ev, h.next, h.fr, h.cells, h.input, h.kind, h.trace, h.steps, h.konts⟩
theorem McS.ends {s s' : Mc} (h : McS s s') (k : Int) : McS (s.ends k) (s'.ends k) :=
 ⟨h.q, h.c, h.e, h.at_, h.v, h.ev, h.next, h.fr, h.cells, h.input, rfl, h.trace, h.steps, h.konts⟩
theorem McS.push {s s' : Mc} {f f' : Fm} (h : McS s s') (hf : FmS s.cells.length f f') : McS (s.push f) (s'.push f') :=
 ⟨h.q, h.c, h.e, h.at_, h.v, h.ev, h.next, h.fr.app (.cons hf .nil), h.cells, h.input, h.kind, h.trace, h.steps, h.konts⟩
theorem Bd.goes {s : Mc} {k : Nat} {c : Cd} {e : Env} (h : Bd s k) : Bd (s.goes c e) k := ⟨h.fr, h.ev, h.n0, h.n1, h.ce, h.tr, h.ko⟩
theorem Bd.has {s : Mc} {k : Nat} {v : Vl} (h : Bd s k) : Bd (s.has v) k := ⟨h.fr, h.ev, h.n0, h.n1, h.ce, h.tr, h.ko⟩
theorem Bd.ends {s : Mc} {k : Nat} {j : Int} (h : Bd s k) : Bd (s.ends j) k := ⟨h.fr, h.ev, h.n0, h.n1, h.ce, h.tr, h.ko⟩
theorem Bd.push {s : Mc} {k : Nat} {f : Fm} (h : Bd s k) : Bd (s.push f) (k + 1) := ⟨by show (s.frames ++ [f]).length ≤ k + 1; have := h.fr; simp; omega, h.up.ev, h.n0, h.up.n1, h.up.ce, h.up.tr, h.ko⟩
end Go.Proofs.Ytnppknioifgdfaa
namespace Go.Proofs.Ytnppknioifgdfaa
set_option linter.all false
set_option maxRecDepth 4000
open Go.RowKit
theorem zBL {c : Cd} {j : Int} (h7 : j ≠ 7) (h8 : j ≠ 8) : (z0 c).kind = j ↔ c.kind = j := by
 rw [zAS]; split <;> omega
theorem zCf (v : Ev) : (Zg 1 v).len = v.len - 1 := by cases v <;> rfl
def OptS (N : Nat) (q q' : Option Vl) : Prop := (q = none ∧ q' = none) ∨ ∃ v v', q = some v ∧ q' = some v' ∧ VlS N v v'
theorem atom_s {N : Nat} {c : Cd} {e e' : Env} (h : QC c) (he : EnvS N e e') : ∃ q q', Z6 c e = some q ∧ Z6 (z0 c) e' = some q' ∧ OptS N q q' := by
 unfold Z6
 simp only [zBL (c := c) (j := 1) (by decide) (by decide), zBL (c := c) (j := 5) (by decide) (by decide), zBL (c := c) (j := 2) (by decide) (by decide), zBL (c := c) (j := 3) (by decide) (by decide), zCp, letsC_n, zAu]
 by_cases h1 : c.kind = 1
 ·simp only [if_pos h1]
  rcases he.find (s := c.name) with ⟨a, b⟩ | ⟨v, v', a, b, hv⟩
  ·exact ⟨_, _, rfl, rfl, .inl ⟨a, b⟩⟩
  ·exact ⟨_, _, rfl, rfl, .inr ⟨v, v', a, b, hv⟩⟩
 simp only [if_neg h1]
 by_cases h5 : c.kind = 5
 ·simp only [if_pos h5]
  obtain ⟨a, ha⟩ : ∃ a, c.kids = [a] := by
   rcases h.shape with e | e | ⟨e, _⟩ | e | ⟨_, e⟩ | ⟨e, _⟩ | ⟨e, _⟩ | ⟨e, _⟩ | ⟨e, _⟩ | ⟨e, _⟩ | e | ⟨e, _⟩ | ⟨e, _⟩ <;> first | exact e | omega
  rw [ha]
  exact ⟨_, _, rfl, rfl, .inr ⟨_, _, rfl, rfl, VlS.fn (h.kid (by rw [ha]; exact .head _)) he⟩⟩
 simp only [if_neg h5]
 by_cases h2 : c.kind = 2
 ·simp only [if_pos h2]; exact ⟨_, _, rfl, rfl, .inr ⟨_, _, rfl, rfl, VlS.flat (fun e => absurd e (by decide)) (fun e => absurd e (by decide))⟩⟩
 simp only [if_neg h2]
 by_cases h3 : c.kind = 3
 ·simp only [if_pos h3]
  have hn : c.n = 0 ∨ c.n = 1 := by
   rcases h.shape with e | e | ⟨_, e⟩ | e | ⟨e, _⟩ | ⟨e, _⟩ | ⟨e, _⟩ | ⟨e, _⟩ | ⟨e, _⟩ | ⟨e, _⟩ | e | ⟨e, _⟩ | ⟨e, _⟩ <;> first | exact e | omega
  exact ⟨_, _, rfl, rfl, .inr ⟨_, _, rfl, rfl, VlS.flat (fun e => absurd e (by decide)) (fun _ => hn)⟩⟩
 simp only [if_neg h3]
 exact ⟨_, _, rfl, rfl, .inr ⟨_, _, rfl, rfl, VlS.flat (fun e => absurd e (by decide)) (fun e => absurd e (by decide))⟩⟩
theorem atoms_s {N : Nat} {e e' : Env} (he : EnvS N e e') : ∀ (l : List Cd), (∀ u ∈ l, QC u) → (zAB l e = some none ∧ zAB (l.map z0) e' = some none) ∨ ∃ vs vs', zAB l e = some (some vs) ∧ zAB (l.map z0) e' = some (some vs') ∧ Par (VlS N) vs vs' ∧ vs.length = l.length
 | [], _ => .inr ⟨[], [], rfl, rfl, .nil, rfl⟩
 | c :: l, h => by
  obtain ⟨q, q', h1, h2, h3⟩ := atom_s (h c (.head _)) he
  simp only [List.map_cons, zAB, h1, h2]
  rcases h3 with ⟨rfl, rfl⟩ | ⟨v, v', rfl, rfl, hv⟩
  ·exact .inl ⟨rfl, rfl⟩
  ·rcases atoms_s he l (fun u hu => h u (.tail _ hu)) with ⟨a, b⟩ | ⟨vs, vs', a, b, hp, hl⟩
   ·exact .inl ⟨by rw [a], by rw [b]⟩
   ·exact .inr ⟨_, _, by rw [a], by rw [b], .cons hv hp, by simp [hl]⟩
def Both (s s' : Mc) (k : Nat) (q q' : Option (Mc × Bool)) : Prop := ∃ t t' b, q = some (t, b) ∧ q' = some (t', b) ∧ McS t t' ∧ Bd t (k + 1)
theorem Zj {s s' : Mc} {k : Nat} (h : McS s s') (hb : Bd s k) : Both s s' k (some (s, false)) (some (s', false)) := ⟨s, s', false, rfl, rfl, h, hb.up⟩
theorem zDV {s s' : Mc} {k : Nat} {v v' : Vl} (h : McS s s') (hb : Bd s k) (hv : VlS s.cells.length v v') : Both s s' k (some (s.has v, true)) (some (s'.has v', true)) := ⟨_, _, true, rfl, rfl, h.has hv, hb.up.has⟩
theorem call_s {s s' : Mc} {k : Nat} {f f' v v' : Vl} (h : McS s s') (hb : Bd s k) (hf : VlS s.cells.length f f') (hv : VlS s.cells.length v v') : Both s s' k (zBt s f v) (zBt s' f' v') := by
 obtain ⟨_, _, _, _, h5, ⟨h6, h6'⟩, _, _⟩ := hf.unfold
 unfold zBt
 cases hc : f.clo with
 | none =>
  rw [hc] at h5; simp only [CloS] at h5
  rw [h5]
  simp only [h6, h6', if_true]
  exact Zj h hb
 | mk q p b e =>
  rw [hc] at h5; simp only [CloS] at h5
  obtain ⟨b', e', h7, ⟨hq, rfl⟩, he⟩ := h5
  rw [h7]
  simp only
  have hff : EnvS s.cells.length (if q = [] then e else .cons q f e) (if q = [] then e' else .cons q f' e') := by
   split
   ·exact he
   ·exact he.cons hf
  exact ⟨_, _, true, rfl, rfl, h.goes hq (hff.cons hv), hb.up.goes⟩
theorem find_map {p p' : Ca → Bool} (hp : ∀ a, p' (zAM a) = p a) : ∀ l : List Ca, (l.map zAM).find? p' = (l.find? p).map zAM
 | [] => rfl
 | a :: l => by
  rw [List.map_cons, List.find?_cons, List.find?_cons, hp]
  cases p a with
  | true => rfl
  | false => exact find_map hp l
theorem match_s {s s' : Mc} {k : Nat} {v v' : Vl} {l : List Ca} (h : McS s s') (hb : Bd s k) (hv : VlS s.cells.length v v') (hl : ∀ a ∈ l, QC a.body) : Both s s' k (zAa s v l) (zAa s' v' (l.map zAM)) := by
 obtain ⟨h1, h2, h3, h4, _, _, _, _⟩ := hv.unfold
 unfold zAa
 rw [find_map (p := Zo v) (p' := Zo v') (fun a => by unfold Zo; rw [h1, h3, h4.len]; rfl)]
 cases hf : l.find? (Zo v) with
 | none => exact Zj h hb
 | some a => exact ⟨_, _, true, rfl, rfl, h.goes (hl a (List.mem_of_find?_eq_some hf)) (EnvS.bindAll h4 h.e), hb.up.goes⟩
theorem bin_s {N : Nat} {s : Str} {a b : Int} {v : Vl} (h : zEc s a b = some v) : VlS N v v := by
 have h2 : ∀ x : Int, VlS N (zCY x) (zCY x) := fun x => VlS.flat (fun e => absurd e (by decide)) (fun e => absurd e (by decide))
 have h3 : ∀ p : Prop, [Decidable p] → VlS N (zDa (if p then 1 else 0)) (zDa (if p then 1 else 0)) := fun p _ => VlS.flat (fun e => absurd e (by decide)) (fun _ => by split <;> simp)
 unfold zEc at h
 repeat' split at h
 all_goals first
  | (injection h with h; subst h; first | exact h2 _ | exact h3 _ | exact VlS.flat (fun e => absurd e (by decide)) (fun _ => by simp))
  | cases h
theorem opA_s {s s' : Mc} {k : Nat} {name : Str} {l l' : List Vl} (h : McS s s') (hb : Bd s k) (hl : Par (VlS s.cells.length) l l') : Both s s' k (opA s name l) (opA s' name l') := by
 cases hl with
 | nil => exact Zj h hb
 | cons hx hs =>
  cases hs with
  | nil => exact Zj h hb
  | cons hy hs =>
   cases hs with
   | nil =>
    rename_i x x' y y'
    obtain ⟨a1, a2, _⟩ := hx.unfold
    obtain ⟨b1, b2, _⟩ := hy.unfold
    simp only [opA, a1, a2, b1, b2]
    by_cases hk : x.kind = 1 ∧ y.kind = 1
    ·simp only [if_pos hk]
     cases hm : zEc name x.n y.n with
     | some v => exact zDV h hb (bin_s hm)
     | none =>
      simp only
      split
      ·exact ⟨_, _, true, rfl, rfl, h.ends 2, hb.up.ends⟩
      ·exact Zj h hb
    ·simp only [if_neg hk]; exact Zj h hb
   | cons _ _ => exact Zj h hb
theorem McS.ref {s s' : Mc} {v v' : Vl} (h : McS s s') (hv : VlS s.cells.length v v') : McS ({ s with cells := s.cells ++ [v] } : Mc) ({ s' with cells := s'.cells ++ [v'] } : Mc) := by
 have hm : s.cells.length ≤ (s.cells ++ [v]).length := by simp
 exact ⟨h.q, h.c, h.e.mono hm, h.at_, h.v.mono hm, h.ev, h.next, h.fr.mono fun _ _ e => e.mono hm, (h.cells.app (.cons hv .nil)).mono fun _ _ e => e.mono hm, h.input, h.kind, h.trace, h.steps, h.konts⟩
theorem McS.setc {s s' : Mc} {i : Nat} {v v' : Vl} (h : McS s s') (hv : VlS s.cells.length v v') : McS ({ s with cells := s.cells.set i v } : Mc) ({ s' with cells := s'.cells.set i v' } : Mc) := by
 have hm : s.cells.length ≤ (s.cells.set i v).length := by simp
 exact ⟨h.q, h.c, h.e.mono hm, h.at_, h.v.mono hm, h.ev, h.next, h.fr.mono fun _ _ e => e.mono hm, (h.cells.set hv).mono fun _ _ e => e.mono hm, h.input, h.kind, h.trace, h.steps, h.konts⟩
theorem op_s {s s' : Mc} {k : Nat} {name : Str} {l l' : List Vl} (h : McS s s') (hb : Bd s k) (hk : k ≤ 100000) (hl : Par (VlS s.cells.length) l l') (hn : (l.length : Int) = Zp name) : Both s s' k (opM s name l) (opM s' name l') := by
 have hbn := hb.bnd (by omega)
 have hbn' := (h.bd hb).bnd (by omega)
 unfold opM
 by_cases h1 : name = [114, 101, 97, 100]
 ·simp only [if_pos h1, h.input]
  cases hi : s.input with
  | nil => exact ⟨_, _, true, rfl, rfl, h.ends 3, hb.up.ends⟩
  | cons n r =>
   have h2 : McS ({ s with input := r } : Mc) ({ s' with input := r } : Mc) := ⟨h.q, h.c, h.e, h.at_, h.v, h.ev, h.next, h.fr, h.cells, rfl, h.kind, h.trace, h.steps, h.konts⟩
   exact ⟨_, _, true, rfl, rfl, h2.has (VlS.flat (fun e => absurd e (by decide)) (fun e => absurd e (by decide))), ⟨hb.up.fr, hb.up.ev, hb.n0, hb.up.n1, hb.up.ce, hb.up.tr, hb.ko⟩⟩
 simp only [if_neg h1]
 by_cases h2 : name = [114, 101, 102]
 ·simp only [if_pos h2]
  subst h2
  cases hl with
  | nil => exact absurd hn (by decide)
  | cons hv hs =>
   simp only [hbn, hbn', if_true]
   have h3 := h.ref hv
   have h4 : s'.cells.length = s.cells.length := h.cells.len
   rw [h4]
   refine ⟨_, _, true, rfl, rfl, h3.has (VlS.flat (fun _ => ⟨by omega, by simp <;> omega⟩) (fun e => absurd e (by decide))), ⟨hb.up.fr, hb.up.ev, hb.n0, hb.up.n1, ?_, hb.up.tr, hb.ko⟩⟩
   show (s.cells ++ [_]).length ≤ k + 1
   have := hb.ce; simp; omega
 simp only [if_neg h2]
 by_cases h3 : name = [112, 114, 105, 110, 116]
 ·simp only [if_pos h3]
  subst h3
  cases hl with
  | nil => exact absurd hn (by decide)
  | cons hv hs =>
   obtain ⟨a1, a2, _⟩ := hv.unfold
   simp only [a1, a2, hbn, hbn', if_true, h.trace]
   split
   ·have h2 : ∀ tr, McS ({ s with trace := tr } : Mc) ({ s' with trace := tr } : Mc) := fun tr => ⟨h.q, h.c, h.e, h.at_, h.v, h.ev, h.next, h.fr, h.cells, h.input, h.kind, rfl, h.steps, h.konts⟩
    refine ⟨_, _, true, rfl, rfl, (h2 _).has (VlS.flat (fun e => absurd e (by decide)) (fun e => absurd e (by decide))), ⟨hb.up.fr, hb.up.ev, hb.n0, hb.up.n1, hb.up.ce, ?_, hb.ko⟩⟩
    show (s.trace ++ [_]).length ≤ k + 1
    have := hb.tr; simp; omega
   ·exact opA_s h hb (.cons hv hs)
 simp only [if_neg h3]
 by_cases h4 : name = [33] ∨ name = [58, 61]
 ·simp only [if_pos h4]
  cases hl with
  | nil => rcases h4 with h4 | h4 <;> (subst h4; exact absurd hn (by decide))
  | @cons x0 y0 xs ys hv hs =>
   obtain ⟨a1, a2, _, _, _, _, a5, _⟩ := hv.unfold
   simp only [a1, a2]
   split
   ·rename_i hk5
    obtain ⟨b1, b2⟩ := a5 hk5
    simp only [if_pos b1]
    by_cases h5 : name = [33]
    ·simp only [if_pos h5]
     obtain ⟨x, hx⟩ : ∃ x, s.cells[x0.n.toNat]? = some x := ⟨_, List.getElem?_eq_getElem (by omega)⟩
     obtain ⟨y, hy, hxy⟩ := h.cells.get hx
     rw [hx, hy]
     exact zDV h hb hxy
    ·simp only [if_neg h5]
     have h6 := h4.resolve_left h5
     cases hs with
     | nil => subst h6; have hn : (1 : Int) = Zp [58, 61] := hn; exact absurd hn (by decide)
     | cons hw hs =>
      have h7 : s'.cells.length = s.cells.length := h.cells.len
      simp only [h7, if_pos (show x0.n.toNat < s.cells.length by omega)]
      refine ⟨_, _, true, rfl, rfl, (h.setc hw).has (VlS.flat (fun e => absurd e (by decide)) (fun e => absurd e (by decide))), ⟨hb.up.fr, hb.up.ev, hb.n0, hb.up.n1, ?_, hb.up.tr, hb.ko⟩⟩
      show (s.cells.set _ _).length ≤ k + 1
      have := hb.ce; simp; omega
   ·exact opA_s h hb (.cons hv hs)
 simp only [if_neg h4]
 exact opA_s h hb hl
end Go.Proofs.Ytnppknioifgdfaa
namespace Go.Proofs.Ytnppknioifgdfaa
set_option linter.all false
set_option maxRecDepth 4000
open Go.RowKit
theorem looks_s {s s' : Mc} {k : Nat} (h : McS s s') (hb : Bd s k) (hk : k ≤ 100000) : Both s s' k (zAr s) (zAr s') := by
 have hbn := hb.bnd (by omega)
 have hbn' := (h.bd hb).bnd (by omega)
 have hq := h.q
 have hkd : ∀ j : Int, j ≠ 7 → j ≠ 8 → (s'.c.kind = j ↔ s.c.kind = j) := fun j a b => by rw [h.c]; exact zBL a b
 have h78 : (s'.c.kind = 7 ∨ s'.c.kind = 8) ↔ (s.c.kind = 7 ∨ s.c.kind = 8) := by rw [h.c, zAS]; split <;> omega
 have hlt : s'.c.kind < 6 ↔ s.c.kind < 6 := by rw [h.c, zAS]; split <;> omega
 have hks : s'.c.kids = s.c.kids.map z0 := by rw [h.c, zAu]
 have has : s'.c.arms = s.c.arms.map zAM := by rw [h.c, zCl]
 have hnm : s'.c.name = s.c.name := by rw [h.c, zCp]
 have hpm : s'.c.param = s.c.param := by rw [h.c, zDs]
 have e9 := hkd 9 (by decide) (by decide)
 have e15 := hkd 15 (by decide) (by decide)
 have e10 := hkd 10 (by decide) (by decide)
 have e6 := hkd 6 (by decide) (by decide)
 have e11 := hkd 11 (by decide) (by decide)
 have e12 := hkd 12 (by decide) (by decide)
 have e13 := hkd 13 (by decide) (by decide)
 have hsh := hq.shape
 unfold zAr
 by_cases c78 : s.c.kind = 7 ∨ s.c.kind = 8
 ·rw [if_pos c78, if_pos (h78.2 c78)]
  obtain ⟨a, b, hab⟩ : ∃ a b, s.c.kids = [a, b] := by
   rcases hsh with e | e | ⟨e, _⟩ | e | ⟨e, _⟩ | ⟨_, e⟩ | ⟨_, e⟩ | ⟨_, e⟩ | ⟨e, _⟩ | ⟨e, _⟩ | e | ⟨e, _⟩ | ⟨e, _⟩ <;> first | exact e | omega
  have hqa := hq.kid (u := a) (by rw [hab]; exact .head _)
  have hqb := hq.kid (u := b) (by rw [hab]; exact .tail _ (.head _))
  rw [hks, hab, hbn, hbn', hnm]
  have h1 := h.push (f := .bound (decide (s.c.kind = 7)) s.c.name b s.e) (f' := .bound (decide (s'.c.kind = 7)) s.c.name (z0 b) s'.e) ⟨_, _, _, rfl, ⟨hqb, rfl⟩, h.e⟩
  exact ⟨_, _, true, rfl, rfl, h1.goes hqa h.e, hb.push.goes⟩
 rw [if_neg c78, if_neg (fun e => c78 (h78.1 e))]
 by_cases c9 : s.c.kind = 9
 ·rw [if_pos c9, if_pos (e9.2 c9)]
  obtain ⟨a, b, hab⟩ : ∃ a b, s.c.kids = [a, b] := by
   rcases hsh with e | e | ⟨e, _⟩ | e | ⟨e, _⟩ | ⟨_, e⟩ | ⟨_, e⟩ | ⟨_, e⟩ | ⟨e, _⟩ | ⟨e, _⟩ | e | ⟨e, _⟩ | ⟨e, _⟩ <;> first | exact e | omega
  have hqa := hq.kid (u := a) (by rw [hab]; exact .head _)
  have hqb := hq.kid (u := b) (by rw [hab]; exact .tail _ (.head _))
  rw [hks, hab, hnm, hpm]
  exact ⟨_, _, true, rfl, rfl, h.goes hqb (h.e.cons (VlS.fn hqa h.e)), hb.up.goes⟩
 rw [if_neg c9, if_neg (fun e => c9 (e9.1 e))]
 by_cases c15 : s.c.kind = 15
 ·rw [if_pos c15, if_pos (e15.2 c15)]
  obtain ⟨⟨a, hab⟩, a1, r, x, har, hvx⟩ : (∃ a, s.c.kids = [a]) ∧ ∃ a r x, s.c.arms = a :: r ∧ a.vars = [x] := by
   rcases hsh with e | e | ⟨e, _⟩ | e | ⟨e, _⟩ | ⟨e, _⟩ | ⟨e, _⟩ | ⟨e, _⟩ | ⟨e, _⟩ | ⟨e, _⟩ | e | ⟨e, _⟩ | ⟨_, e⟩ <;> first | exact e | omega
  have hqa := hq.kid (u := a) (by rw [hab]; exact .head _)
  rw [hks, hab, hbn, hbn', hnm, has]
  have h0 : McS ({ s with next := s.next + 1, ev := .cons s.c.name (s.next + 1) s.c.arms s.e s.ev } : Mc) ({ s' with next := s'.next + 1, ev := .cons s.c.name (s'.next + 1) (s.c.arms.map zAM) s'.e s'.ev } : Mc) :=
   ⟨h.q, h.c, h.e, h.at_, h.v, by show s'.ev.len + 1 = s.ev.len + 1; rw [h.ev], by show s'.next + 1 = s.next + 1; rw [h.next], h.fr, h.cells, h.input, h.kind, h.trace, h.steps, h.konts⟩
  have h1 := h0.push (f := .prompt s.c.name s.c.arms s.e (s.next + 1)) (f' := .prompt s.c.name (s.c.arms.map zAM) s'.e (s'.next + 1)) ⟨s'.e, by rw [h.next], ⟨a1, r, x, har, hvx, hq.arm (by rw [har]; exact .head _)⟩, h.e⟩
  refine ⟨_, _, true, rfl, rfl, h1.goes hqa h.e, Bd.goes ⟨?_, ?_, ?_, ?_, hb.up.ce, hb.up.tr, hb.ko⟩⟩
  ·show (s.frames ++ [_]).length ≤ k + 1; have := hb.fr; simp; omega
  ·show s.ev.len + 1 ≤ k + 1; have := hb.ev; omega
  ·show 0 ≤ s.next + 1; have := hb.n0; omega
  ·show s.next + 1 ≤ ((k + 1 : Nat) : Int); have := hb.n1; omega
 rw [if_neg c15, if_neg (fun e => c15 (e15.1 e))]
 by_cases c10 : s.c.kind = 10
 ·rw [if_pos c10, if_pos (e10.2 c10)]
  obtain ⟨a, b, d, hab⟩ : ∃ a b d, s.c.kids = [a, b, d] := by
   rcases hsh with e | e | ⟨e, _⟩ | e | ⟨e, _⟩ | ⟨e, _⟩ | ⟨e, _⟩ | ⟨e, _⟩ | ⟨_, e⟩ | ⟨e, _⟩ | e | ⟨e, _⟩ | ⟨e, _⟩ <;> first | exact e | omega
  have hqa := hq.kid (u := a) (by rw [hab]; exact .head _)
  have hqb := hq.kid (u := b) (by rw [hab]; exact .tail _ (.head _))
  have hqd := hq.kid (u := d) (by rw [hab]; exact .tail _ (.tail _ (.head _)))
  obtain ⟨q, q', h1, h2, h3⟩ := atom_s hqa h.e
  rw [hks, hab]
  simp only [List.map_cons, List.map_nil, h1, h2]
  rcases h3 with ⟨rfl, rfl⟩ | ⟨v, v', rfl, rfl, hv⟩
  ·exact Zj h hb
  ·obtain ⟨a1, a2, _, _, _, _, _, a8⟩ := hv.unfold
   simp only [ifM, a1, a2]
   by_cases hk2 : v.kind = 2
   ·simp only [if_pos hk2]
    rcases a8 hk2 with hn | hn
    ·simp only [hn]; exact ⟨_, _, true, rfl, rfl, h.goes hqd h.e, hb.up.goes⟩
    ·simp only [hn]; exact ⟨_, _, true, rfl, rfl, h.goes hqb h.e, hb.up.goes⟩
   ·simp only [if_neg hk2]; exact Zj h hb
 rw [if_neg c10, if_neg (fun e => c10 (e10.1 e))]
 by_cases c6 : s.c.kind < 6
 ·rw [if_pos c6, if_pos (hlt.2 c6)]
  obtain ⟨q, q', h1, h2, h3⟩ := atom_s hq h.e
  rw [h.c]
  simp only [h1, h2]
  rcases h3 with ⟨rfl, rfl⟩ | ⟨v, v', rfl, rfl, hv⟩
  ·exact Zj h hb
  ·exact zDV h hb hv
 rw [if_neg c6, if_neg (fun e => c6 (hlt.1 e))]
 have hl := hq.kids_len
 rw [hks, List.length_map, if_pos (by omega), if_pos (by omega)]
 rcases atoms_s h.e s.c.kids (fun u hu => hq.kid hu) with ⟨a, b⟩ | ⟨vs, vs', a, b, hp, hlen⟩
 ·rw [a, b]; exact Zj h hb
 rw [a, b]
 simp only [appK]
 by_cases d6 : s.c.kind = 6
 ·simp only [if_pos d6, if_pos (e6.2 d6)]
  have h2 : vs.length = 2 := by
   rw [hlen]
   rcases hsh with e | e | ⟨e, _⟩ | e | ⟨e, _⟩ | ⟨_, x, y, e⟩ | ⟨e, _⟩ | ⟨e, _⟩ | ⟨e, _⟩ | ⟨e, _⟩ | e | ⟨e, _⟩ | ⟨e, _⟩ <;> first | (rw [e]; rfl) | omega
  cases hp with
  | nil => cases h2
  | cons hf hs =>
   cases hs with
   | nil => cases h2
   | cons hv hs => exact call_s h hb hf hv
 simp only [if_neg d6, if_neg (fun e => d6 (e6.1 e))]
 by_cases d11 : s.c.kind = 11
 ·simp only [if_pos d11, if_pos (e11.2 d11), hnm]
  have h2 : (vs.length : Int) = Zp s.c.name := by
   rw [hlen]
   rcases hsh with e | e | ⟨e, _⟩ | e | ⟨e, _⟩ | ⟨e, _⟩ | ⟨e, _⟩ | ⟨e, _⟩ | ⟨e, _⟩ | ⟨_, e⟩ | e | ⟨e, _⟩ | ⟨e, _⟩ <;> first | exact e | omega
  exact op_s h hb hk hp h2
 simp only [if_neg d11, if_neg (fun e => d11 (e11.1 e))]
 by_cases d12 : s.c.kind = 12
 ·simp only [if_pos d12, if_pos (e12.2 d12), hnm]; exact zDV h hb (VlS.con hp)
 simp only [if_neg d12, if_neg (fun e => d12 (e12.1 e))]
 have d13 : s.c.kind = 13 := by
  rcases hsh with e | e | ⟨e, _⟩ | e | ⟨e, _⟩ | ⟨e, _⟩ | ⟨e, _⟩ | ⟨e, _⟩ | ⟨e, _⟩ | ⟨e, _⟩ | e | ⟨e, _⟩ | ⟨e, _⟩ <;> first | exact e | omega
 have h2 : vs.length = 1 := by
  rw [hlen]
  rcases hsh with e | e | ⟨e, _⟩ | e | ⟨e, _⟩ | ⟨e, _⟩ | ⟨e, _⟩ | ⟨e, _⟩ | ⟨e, _⟩ | ⟨e, _⟩ | e | ⟨_, x, e⟩ | ⟨e, _⟩ <;> first | (rw [e]; rfl) | omega
 cases hp with
 | nil => cases h2
 | cons hv hs =>
  simp only [if_pos d13, if_pos (e13.2 d13), has]
  exact match_s h hb hv fun a ha => hq.arm ha
theorem gets_snoc {s : Mc} {fl : List Fm} {f : Fm} (h : s.frames = fl ++ [f]) : s.gets = ({ s with frames := fl } : Mc).getsF f := by
 unfold Mc.gets; rw [h, List.getLast?_append]; simp
theorem gets_s {s s' : Mc} {k : Nat} (h : McS s s') (hb : Bd s k) (hne : s.frames ≠ []) : ∃ t t', s.gets = some t ∧ s'.gets = some t' ∧ McS t t' ∧ Bd t (k + 1) := by
 obtain ⟨fl, f, hf⟩ : ∃ fl f, s.frames = fl ++ [f] := ⟨_, _, (List.dropLast_concat_getLast hne).symm⟩
 have hp := h.fr
 rw [hf] at hp
 obtain ⟨fl', f', hf', hp', hff⟩ := hp.snoc
 rw [gets_snoc hf, gets_snoc hf']
 have h0 : ∀ ev ev' : Ev, ev'.len = ev.len → McS ({ s with frames := fl, ev := ev } : Mc) ({ s' with frames := fl', ev := ev' } : Mc) := fun ev ev' e =>
  ⟨h.q, h.c, h.e, h.at_, h.v, e, h.next, hp', h.cells, h.input, h.kind, h.trace, h.steps, h.konts⟩
 have hb0 : ∀ ev : Ev, ev.len ≤ k + 1 → Bd ({ s with frames := fl, ev := ev } : Mc) (k + 1) := fun ev e =>
  ⟨by show fl.length ≤ k + 1; have := hb.fr; rw [hf] at this; simp at this; omega, e, hb.n0, hb.up.n1, hb.up.ce, hb.up.tr, hb.ko⟩
 cases f with
 | bound q n c e =>
  obtain ⟨q', c', e', rfl, ⟨hq, rfl⟩, he⟩ := hff
  exact ⟨_, _, rfl, rfl, (h0 s.ev s'.ev h.ev).goes hq (he.cons h.v), (hb0 s.ev hb.up.ev).goes⟩
 | prompt q l e j =>
  obtain ⟨e', rfl, ⟨a, r, x, rfl, hv, hq⟩, he⟩ := hff
  have hv' : (zAM a).vars = [x] := hv
  refine ⟨({ s with frames := fl, ev := Zg 1 s.ev } : Mc).goes a.body (.cons x s.v e), ({ s' with frames := fl', ev := Zg 1 s'.ev } : Mc).goes (z0 a.body) (.cons x s'.v e'), ?_, ?_, (h0 _ _ (by rw [zCf, zCf, h.ev])).goes hq (he.cons h.v), (hb0 _ (by rw [zCf]; have := hb.ev; omega)).goes⟩
  ·simp only [Mc.getsF, hv]
  ·simp only [List.map_cons, Mc.getsF, hv']; rfl
 | restore v n => exact hff.elim
theorem ended_s {s s' : Mc} (h : McS s s') : s'.ended = s.ended := by
 unfold Mc.ended
 rw [h.kind, h.at_]
 have : (s'.frames = []) ↔ (s.frames = []) := by
  have := h.fr.len
  exact ⟨fun e => List.eq_nil_of_length_eq_zero (by rw [← this, e]; rfl), fun e => List.eq_nil_of_length_eq_zero (by rw [this, e]; rfl)⟩
 rw [decide_eq_decide.2 this]
theorem run_s : ∀ (n : Nat) (s s' : Mc) (k : Nat), McS s s' → Bd s k → k + n ≤ 100000 → ∃ t t', zCu n s = some t ∧ zCu n s' = some t' ∧ McS t t'
 | 0, s, s', k, h, _, _ => ⟨s, s', rfl, rfl, h⟩
 | n + 1, s, s', k, h, hb, hk => by
  unfold zCu
  rw [ended_s h]
  by_cases he : s.ended = true
  ·rw [if_pos he, if_pos he]; exact ⟨_, _, rfl, rfl, h⟩
  rw [if_neg he, if_neg he]
  have h1 : McS ({ s with steps := s.steps + 1 } : Mc) ({ s' with steps := s'.steps + 1 } : Mc) := ⟨h.q, h.c, h.e, h.at_, h.v, h.ev, h.next, h.fr, h.cells, h.input, h.kind, h.trace, by show s'.steps + 1 = s.steps + 1; rw [h.steps], h.konts⟩
  have hb1 : Bd ({ s with steps := s.steps + 1 } : Mc) k := ⟨hb.fr, hb.ev, hb.n0, hb.n1, hb.ce, hb.tr, hb.ko⟩
  have hst : ∃ t t', zDB ({ s with steps := s.steps + 1 } : Mc) = some t ∧ zDB ({ s' with steps := s'.steps + 1 } : Mc) = some t' ∧ McS t t' ∧ Bd t (k + 1) := by
   unfold zDB
   by_cases ha : ({ s with steps := s.steps + 1 } : Mc).at_ = true
   ·rw [if_pos ha, if_pos (show ({ s' with steps := s'.steps + 1 } : Mc).at_ = true from h.at_.trans ha)]
    obtain ⟨t, t', b, e1, e2, h2, hb2⟩ := looks_s h1 hb1 (by omega)
    rw [e1, e2]
    cases b with
    | true => exact ⟨_, _, rfl, rfl, h2, hb2⟩
    | false => exact ⟨_, _, rfl, rfl, h2.ends 4, hb2.ends⟩
   ·rw [if_neg ha, if_neg (show ¬ ({ s' with steps := s'.steps + 1 } : Mc).at_ = true from fun e => ha (h.at_.symm.trans e))]
    refine gets_s h1 hb1 fun e => ?_
    have ha' : s.at_ = false := by simpa using ha
    have e' : s.frames = [] := e
    apply he
    unfold Mc.ended
    rw [ha', e']; simp
  obtain ⟨t, t', e1, e2, h2, hb2⟩ := hst
  rw [e1, e2]
  exact run_s n t t' (k + 1) h2 hb2 (by omega)
theorem wholeV_s {N : Nat} : ∀ (v v' : Vl), VlS N v v' → ZY v' = ZY v ∧ ∀ k, ZH v' k = ZH v k := by
 refine Vl.rec_ fun v ih => fun v' h => ?_
 obtain ⟨h1, h2, h3, h4, _⟩ := h.unfold
 have key : ∀ (l l' : List Vl), Par (VlS N) l l' → (∀ u ∈ l, ∀ u', VlS N u u' → ZY u' = ZY u ∧ ∀ k, ZH u' k = ZH u k) → zAb l' = zAb l ∧ ∀ n k, ZL l' n k = ZL l n k := by
  intro l l' hp
  induction hp with
  | nil => intro _; exact ⟨rfl, fun _ _ => rfl⟩
  | cons hx _ ihl =>
   intro hu
   obtain ⟨a, b⟩ := hu _ (.head _) _ hx
   obtain ⟨c, d⟩ := ihl fun u hu' => hu u (.tail _ hu')
   exact ⟨by rw [zAb, zAb, a, c], fun n k => by rw [ZL, ZL, b, d]⟩
 obtain ⟨a, b⟩ := key _ _ h4 ih
 exact ⟨by rw [zDe, zDe, h1, h2, h3, a], fun k => by rw [zAp, zAp, b]⟩
theorem end_s {s s' : Mc} (h : McS s s') : endM s' = endM s := by
 unfold endM
 rw [ended_s h, h.kind, h.trace, h.steps, h.konts]
 obtain ⟨a, b⟩ := wholeV_s _ _ h.v
 obtain ⟨h1, h2, h3, _⟩ := h.v.unfold
 have : zBi s'.v = zBi s.v := by unfold zBi; rw [a, b, h1, h2, h3]
 rw [this]
theorem lets_law (c : Cd) (es : List Ef) (input : List Int) (h14 : nK 14 c = 0) (hfew : zAH c ≤ 1000) : ∃ r, runR c es input 1500 = some r ∧ runR (z0 c) es input 1500 = some r := by
 unfold runR
 rw [rightC_lets]
 by_cases hr : ZB c = true
 ·rw [if_pos hr, if_pos hr]
  have hq : QC c := ⟨hr, h14, hfew⟩
  have h0 : McS ((zBc input (zCD es)).goes c .nil) ((zBc input (zCD es)).goes (z0 c) .nil) :=
   ⟨hq, rfl, by simp only [EnvS, Mc.goes], rfl, VlS.flat (fun e => absurd e (by decide)) (fun e => absurd e (by decide)), rfl, rfl, .nil, .nil, rfl, rfl, rfl, rfl, rfl⟩
  obtain ⟨t, t', e1, e2, h1⟩ := run_s 1500 _ _ 0 h0 ⟨Nat.le_refl _, Nat.le_refl _, Int.le_refl _, Int.le_refl _, Nat.le_refl _, Nat.le_refl _, rfl⟩ (by omega)
  rw [e1, e2]
  exact ⟨_, rfl, by simp only [end_s h1]⟩
 ·rw [if_neg hr, if_neg hr]; exact ⟨_, rfl, rfl⟩
theorem wrap3 (a n r : Int) : IntKind.i64.wrap (IntKind.i64.wrap (a + IntKind.i64.wrap n) + r) = IntKind.i64.wrap (a + (n + r)) := by simp only [IntKind.wrap_i64]; omega
theorem count_end {k : Int} {t : Cd} {a0 a b : Int} (h0 : a0 = (if t.kind = k then 1 else 0)) (ha : IntKind.i64.wrap (a + ((0 : Nat) : Int)) = IntKind.i64.wrap (a0 + ((nKs k t.kids : Nat) : Int))) (ha1 : zo a)
  (hb : IntKind.i64.wrap (b + ((0 : Nat) : Int)) = IntKind.i64.wrap (a + ((nAs k t.arms : Nat) : Int))) (hb1 : zo b) (he : nK k t = (if t.kind = k then 1 else 0) + (nKs k t.kids + nAs k t.arms)) : b = IntKind.i64.wrap (nK k t : Int) := by
 have h1 : ((nK k t : Nat) : Int) = a0 + ((nKs k t.kids : Nat) : Int) + ((nAs k t.arms : Nat) : Int) := by
  rw [he, h0]; split <;> omega
 rw [h1]
 have h2 := zDE ha1; have h3 := zDE hb1
 simp only [IntKind.wrap_i64] at *
 omega
theorem get_midY {α : Type} {d l : List α} {x : α} {y : Nat} (h : d.length = y) : (d ++ x :: l)[y]? = some x := by subst h; simp
theorem set_midY {α : Type} {d l : List α} {x z : α} {y : Nat} (h : d.length = y) : (d ++ x :: l).set y z = (d ++ [z]) ++ l := by subst h; simp
def MP.cdS (t : Cd) : MP := MP.mem (fun vs : List Value => .agg vs.toArray) (fun vs m => CdR m t vs) fun hm h => h.mono hm
theorem ca_body {m : Mem} {a : Ca} {vs ws : List Value} {b : Cd} (h : CaR m a vs) (hb : CdR m b ws) : CaR m ⟨a.name, a.vars, a.tail, b⟩ (splice 3 ws vs) := by
 obtain ⟨o, c, bs, rfl, h1, h2⟩ := h.open_
 refine ⟨o, c, ws, ?_, h1, hb⟩
 have e1 := h2.len; have e2 := hb.len
 unfold splice
 rw [show List.drop (3 + ws.length) (S a.name :: Value.slice o a.vars.length c :: Value.bool a.tail :: bs) = [] from List.drop_of_length_le (by simp [e1, e2]), List.append_nil]
 rfl
theorem ca_sel {m : Mem} {a : Ca} {vs : List Value} (h : CaR m a vs) : (MP.cdS a.body).p m (.agg ((vs.drop 3).take 6).toArray) := by
 obtain ⟨o, c, bs, rfl, h1, h2⟩ := h.open_
 exact ⟨bs, by rw [show (S a.name :: Value.slice o a.vars.length c :: Value.bool a.tail :: bs).drop 3 = bs from rfl, List.take_of_length_le (by rw [h2.len]; decide)]; rfl, h2⟩
end Go.Proofs.Ytnppknioifgdfaa
namespace Go.Proofs.Ytnppknioifgdfaa
open Go.Proofs.Try
set_option linter.all false
set_option maxRecDepth 4000
open Go.RowKit
abbrev zDL (t : Cd) : Prop := ∀ {w : World} {m : Mem} {vs_t : List Value} (hA : Agree w m) (h_t : CdR m t vs_t), FnV Try.prog 13 #[.agg vs_t.toArray] w m (fun _ _ v => v = .int .i64 ((min (zAH t) 501 : Nat) : Int))
set_option maxHeartbeats 800000 in
theorem lcount_s {t : Cd} (ihk : ∀ u ∈ t.kids, zDL u) (iha : ∀ a ∈ t.arms, zDL a.body) {w : World} {m : Mem} {vs_t : List Value} (hA : Agree w m) (h_t : CdR m t vs_t) : FnV Try.prog 13 #[.agg vs_t.toArray] w m (fun _ _ v => v = .int .i64 ((min (zAH t) 501 : Nat) : Int)) := by
 obtain ⟨⟨oK_t, cK_t, oA_t, cA_t⟩, rfl, ⟨hik_t, hin_t⟩, hkk_t, haa_t⟩ := h_t.open_
 dsimp only at hkk_t haa_t
 have hbg_t := hkk_t.big; have hcp_t := hkk_t.cap; have hbh_t := haa_t.big; have hcq_t := haa_t.cap
 refine zZ (vs := [_]) func13 rfl rfl rfl fun a0 hfr0 => ?_
 have hst0 := zW hA (zg [] _ w m)
 have hM : MLe m m := MLe.refl m
 have hce := zBD t
 refine zB fun _ hK1 => ?_
 refine rp0 hst0 hfr0 (.cons rfl (zr rfl rfl) <| .cons rfl (zD rfl) <| .nil) fun a1 w1 m1 hst1 hle1 hk1 => ?_
 have hfr1 := hk1.fr (.nil)
 obtain ⟨g2, e2, hc1⟩ := hk1.ex 1 rfl
 replace hfr1 := hfr1.cons e2
 replace h_t := h_t.mono hle1
 replace hkk_t := hkk_t.mono hle1
 replace haa_t := haa_t.mono hle1
 clear hst0 hfr0 hk1
 refine hK1 _ _ ?_
 refine zB fun _ hK3 => ?_
 refine rp0 hst1 hfr1 (.cons rfl (zD rfl) <| .nil) fun a2 w2 m2 hst2 hle2 hk2 => ?_
 have hfr2 := hk2.fr (.o 1 <| .n 3 <| .nil)
 replace h_t := h_t.mono hle2
 replace hkk_t := hkk_t.mono hle2
 replace haa_t := haa_t.mono hle2
 replace hc1 := hc1.mono hle2
 clear hst1 hfr1 hk2
 refine hK3 _ _ ?_
 refine zB fun _ hK4 => ?_
 refine zB fun _ hK5 => ?_
 refine rp0 hst2 hfr2 (.cons rfl (zD rfl) <| .nil) fun a3 w3 m3 hst3 hle3 hk3 => ?_
 have hfr3 := hk3.fr (.o 1 <| .o 3 <| .n 4 <| .nil)
 replace h_t := h_t.mono hle3
 replace hkk_t := hkk_t.mono hle3
 replace haa_t := haa_t.mono hle3
 replace hc1 := hc1.mono hle3
 clear hst2 hfr2 hk3
 refine hK5 _ _ ?_
 refine zT ?_
 refine zx (T := [(1, _)]) (fun (y : Nat × Int) => ([(3, .int .i64 y.2), (4, .int .i64 (y.1 : Int))] : List (Nat × Value))) (fun _ => _) (fun (y : Nat × Int) m => (fun (y : Nat) (a : Int) => (y ≤ t.kids.length) ∧ ((a ≤ 500 ∧ a + zAP (t.kids.drop y) = ((1 + zAP t.kids : Nat) : Int)) ∨ (500 < a ∧ 500 < 1 + zAP t.kids)) ∧ (1 ≤ a ∧ a ≤ 1001)) y.1 y.2) (fun y => t.kids.length - y.1) ((0, 1)) ⟨hst3, MLe.refl _, hfr3.sub (.c <| .c <| .c <| .nil), ⟨Nat.zero_le _, .inl ⟨by omega, by rw [List.drop_zero]; omega⟩, ⟨by omega, by omega⟩⟩⟩ fun y a4 w4 m4 hh4 => ?_
 have hst4 := hh4.st; have hle4 := hh4.le; have hfr4 := hh4.fr; have hrel := hh4.rel; clear hh4
 replace h_t := h_t.mono hle4
 replace hkk_t := hkk_t.mono hle4
 replace haa_t := haa_t.mono hle4
 replace hc1 := hc1.mono hle4
 clear hst3 hfr3
 obtain ⟨y, a⟩ := y
 dsimp only at hrel hfr4 hst4
 obtain ⟨hyn, hj, hj2⟩ := hrel
 have hlh4 := hle4
 refine zB fun _ hK7 => ?_
 refine zB fun _ hK8 => ?_
 refine rp0 hst4 hfr4 (.cons rfl (zC rfl) <| .cons rfl (zA (off := 4) rfl underlying25 rfl rfl sizeOf22 rfl) <| .cons rfl (zJ rfl hc1 isAgg22 rfl) <| .cons rfl (zl rfl underlying22) <| .cons rfl (ZA rfl rfl) <| .cons rfl (zC rfl) <| .cons rfl (zC rfl) <| .cons rfl (ob_leq rfl rfl) <| .cons rfl (zU rfl rfl rfl) <| .nil) fun a5 w5 m5 hst5 hle5 hk5 => ?_
 have hfr5 := hk5.fr (.o 3 <| .o 4 <| .o 1 <| .n 14 <| .nil)
 replace h_t := h_t.mono hle5
 replace hkk_t := hkk_t.mono hle5
 replace haa_t := haa_t.mono hle5
 replace hc1 := hc1.mono hle5
 have hlh5 := hlh4.trans hle5
 clear hst4 hfr4 hk5
 refine hK8 _ _ ?_
 refine zE hfr5 rfl rfl (fun hb14 => ?_) (fun hb14 => ?_)
 ·try simp only [nqs] at hb14
  refine zR ?_
  refine hK7 _ _ ?_
  refine zB fun _ hK9 => ?_
  refine zT ?_
  obtain ⟨p10, vs10, x10, ho10, hd10, hm_x10, ht10, hcv10, hl10, hv10⟩ := hkk_t.nth (k := y) (by omega)
  cases ho10
  obtain ⟨⟨oK10, cK10, oA10, cA10⟩, rfl, ⟨hik10, hin10⟩, hkk10, haa10⟩ := hv10.open_
  dsimp only at hkk10 haa10
  have hbg10 := hkk10.big; have hcp10 := hkk10.cap; have hbh10 := haa10.big; have hcq10 := haa10.cap
  rw [hd10, zAP] at hj
  refine rp0 hst5 hfr5 (.cons rfl (zC rfl) <| .cons rfl (zA (off := 4) rfl underlying25 rfl rfl sizeOf22 rfl) <| .cons rfl (zJ rfl hc1 isAgg22 rfl) <| .cons rfl (zC rfl) <| .cons rfl (zI (k := y) rfl rfl underlying22 sizeOf25 rfl (by omega)) <| .cons rfl (zY rfl hcv10 isAgg25 sizeOf25 rfl rfl) <| .cons rfl (zX rfl (.cons rfl <| .nil) call13 (fun w m hK => by have hle_ := KC.le hK; have hA := KC.agree hK; have h_t := h_t.mono hle_; have hkk_t := hkk_t.mono hle_; have haa_t := haa_t.mono hle_; have hc1 := hc1.mono hle_; have hcv10 := hcv10.mono hle_; have hv10 := hv10.mono hle_; have hkk10 := hkk10.mono hle_; have haa10 := haa10.mono hle_; exact ihk x10 (by assumption) hA hv10)) <| .cons rfl (z6 rfl rfl ⟨by omega, by omega⟩) <| .cons rfl (zD rfl) <| .nil) fun a6 w6 m6 hst6 hle6 hk6 => ?_
  have hfr6 := hk6.fr (.o 4 <| .o 1 <| .n 3 <| .nil)
  clear hst5 hfr5 hk6
  refine hK9 _ _ ?_
  refine rp0 hst6 hfr6 (.cons rfl (zC rfl) <| .cons rfl (z6 rfl rfl ⟨by omega, by omega⟩) <| .cons rfl (zD rfl) <| .nil) fun a7 w7 m7 hst7 hle7 hk7 => ?_
  have hfr7 := hk7.fr (.o 1 <| .o 3 <| .n 4 <| .nil)
  clear hst6 hfr6 hk7
  have zq1 := hle6.trans hle7
  have hlh7 := hlh5.trans zq1
  exact ⟨(y + 1, (a + ((min (zAH x10) 501 : Nat) : Int))), m7, by show t.kids.length - (y + 1) < t.kids.length - y; omega, ⟨hst7, hlh7, hfr7.sub (.c <| .c <| .c <| .nil), ⟨by show y + 1 ≤ t.kids.length; omega, by show (a + ((min (zAH x10) 501 : Nat) : Int) ≤ 500 ∧ a + ((min (zAH x10) 501 : Nat) : Int) + (zAP (t.kids.drop (y + 1)) : Int) = _) ∨ (500 < a + ((min (zAH x10) 501 : Nat) : Int) ∧ _); have hm9 := zCU hm_x10; omega, by show 1 ≤ a + ((min (zAH x10) 501 : Nat) : Int) ∧ a + ((min (zAH x10) 501 : Nat) : Int) ≤ 1001; omega⟩⟩⟩
 ·try simp only [nqs] at hb14
  have hd9 : y = t.kids.length → zAP (t.kids.drop y) = 0 := fun h => by rw [List.drop_of_length_le (by omega), zAP]
  have hx9 : (a ≤ 500 ∧ a = ((1 + zAP t.kids : Nat) : Int)) ∨ (500 < a ∧ 500 < 1 + zAP t.kids) := by rcases hj with hj | hj; (rcases Nat.lt_or_ge y t.kids.length with h | h; exact .inl ⟨hj.1, by omega⟩; exact .inl ⟨hj.1, by have := hd9 (by omega); omega⟩); exact .inr hj
  clear hj
  refine zv ?_
  refine hK4 _ _ ?_
  refine zB fun _ hK11 => ?_
  refine zB fun _ hK12 => ?_
  refine rp0 hst5 hfr5 (.cons rfl (zD rfl) <| .nil) fun a6 w6 m6 hst6 hle6 hk6 => ?_
  have hfr6 := hk6.fr (.o 3 <| .o 4 <| .o 1 <| .n 5 <| .nil)
  clear hst5 hfr5 hk6
  refine hK12 _ _ ?_
  refine zT ?_
  have hlh6 := hlh5.trans hle6
  have hlq13 := hlh6
  refine zx (T := [(4, _), (1, _)]) (fun (y : Nat × Int) => ([(3, .int .i64 y.2), (5, .int .i64 (y.1 : Int))] : List (Nat × Value))) (fun _ => _) (fun (y : Nat × Int) m => (fun (y : Nat) (b : Int) => (y ≤ t.arms.length) ∧ ((b ≤ 500 ∧ b + zBo (t.arms.drop y) = (zAH t : Int)) ∨ (500 < b ∧ 500 < zAH t)) ∧ (1 ≤ b ∧ b ≤ 2001)) y.1 y.2) (fun y => t.arms.length - y.1) ((0, a)) ⟨hst6, MLe.refl _, hfr6.sub (.c <| .c <| .c <| .c <| .nil), ⟨Nat.zero_le _, by rw [List.drop_zero, hce]; omega, ⟨by omega, by omega⟩⟩⟩ fun y a7 w7 m7 hh7 => ?_
  have hst7 := hh7.st; have hle7 := hh7.le; have hfr7 := hh7.fr; have hrel := hh7.rel; clear hh7
  clear hst6 hfr6
  obtain ⟨y, b⟩ := y
  dsimp only at hrel hfr7 hst7
  obtain ⟨hyn, hj, hj3⟩ := hrel
  have hlh7 := hle7
  refine zB fun _ hK14 => ?_
  refine zB fun _ hK15 => ?_
  have zq2 := hle6.trans hle7
  replace hc1 := hc1.mono zq2
  refine rp0 hst7 hfr7 (.cons rfl (zC rfl) <| .cons rfl (zA (off := 5) rfl underlying25 rfl rfl sizeOf23 rfl) <| .cons rfl (zJ rfl hc1 isAgg23 rfl) <| .cons rfl (zl rfl underlying23) <| .cons rfl (ZA rfl rfl) <| .cons rfl (zC rfl) <| .cons rfl (zC rfl) <| .cons rfl (ob_leq rfl rfl) <| .cons rfl (zU rfl rfl rfl) <| .nil) fun a8 w8 m8 hst8 hle8 hk8 => ?_
  have hfr8 := hk8.fr (.o 3 <| .o 5 <| .o 4 <| .o 1 <| .n 33 <| .nil)
  clear hst7 hfr7 hk8
  refine hK15 _ _ ?_
  refine zE hfr8 rfl rfl (fun hb33 => ?_) (fun hb33 => ?_)
  ·try simp only [nqs] at hb33
   refine zR ?_
   refine hK14 _ _ ?_
   refine zB fun _ hK16 => ?_
   refine zT ?_
   have zq3 := zq2.trans hle8
   replace haa_t := haa_t.mono zq3
   obtain ⟨p17, vs17, x17, ho17, hd17, hm_x17, ht17, hcv17, hl17, hv17⟩ := haa_t.nth (k := y) (by omega)
   cases ho17
   obtain ⟨oV17, cV17, bs17, rfl, hva17, hbd17⟩ := hv17.open_
   have hbv17 := hva17.big; have hcv17_ := hva17.cap
   obtain ⟨⟨oK17b, cK17b, oA17b, cA17b⟩, rfl, ⟨hik17b, hin17b⟩, hkk17b, haa17b⟩ := hbd17.open_
   dsimp only at hkk17b haa17b
   have hbg17b := hkk17b.big; have hcp17b := hkk17b.cap; have hbh17b := haa17b.big; have hcq17b := haa17b.cap
   rw [hd17, zBf] at hj
   replace h_t := h_t.mono zq3
   replace hkk_t := hkk_t.mono zq3
   replace hc1 := hc1.mono hle8
   refine zAJ (fun _ => zw) hst8 hfr8 (by kernel_rfl) (by kernel_rfl) (.cons rfl (zC rfl) <| .cons rfl (zA (off := 5) rfl underlying25 rfl rfl sizeOf23 rfl) <| .cons rfl (zJ rfl hc1 isAgg23 rfl) <| .cons rfl (zC rfl) <| .cons rfl (zI (k := y) rfl rfl underlying23 sizeOf47 rfl (by omega)) <| .cons rfl (zA (off := 1) rfl underlying47 rfl rfl sizeOf45 rfl) <| .cons rfl (zJ rfl hcv17 isAgg45 rfl) <| .cons rfl (zl rfl underlying45) <| .cons rfl (ob_min2 rfl rfl) <| .cons rfl (z6 rfl rfl ⟨by omega, by omega⟩) <| .cons rfl (zA (off := 5) rfl underlying25 rfl rfl sizeOf23 rfl) <| .cons rfl (zJ rfl hc1 isAgg23 rfl) <| .cons rfl (zC rfl) <| .cons rfl (zI (k := y) rfl rfl underlying23 sizeOf47 rfl (by omega)) <| .cons rfl (zA (off := 3) rfl underlying47 rfl rfl sizeOf25 rfl) <| .cons rfl (Zk rfl hcv17 isAgg25 sizeOf25 rfl rfl) <| .cons rfl (zX rfl (.cons rfl <| .nil) call13 (fun w m hK => by have hle_ := KC.le hK; have hA := KC.agree hK; have h_t := h_t.mono hle_; have hkk_t := hkk_t.mono hle_; have haa_t := haa_t.mono hle_; have hc1 := hc1.mono hle_; have hcv17 := hcv17.mono hle_; have hv17 := hv17.mono hle_; have hva17 := hva17.mono hle_; have hbd17 := hbd17.mono hle_; have hkk17b := hkk17b.mono hle_; have haa17b := haa17b.mono hle_; exact iha x17 (by assumption) hA hbd17)) <| .cons rfl (z6 rfl rfl ⟨by omega, by omega⟩) <| .cons rfl (zD rfl) <| .nil) fun a9 w9 m9 hst9 hle9 hk9 => ?_
   have hfr9 := hk9.fr (.o 5 <| .o 4 <| .o 1 <| .n 3 <| .nil)
   clear hst8 hfr8 hk9
   rw [show (if (500 : Int) < (x17.vars.length : Int) then (500 : Int) else (x17.vars.length : Int)) = ((min x17.vars.length 500 : Nat) : Int) by split <;> omega] at hfr9
   refine hK16 _ _ ?_
   refine rp0 hst9 hfr9 (.cons rfl (zC rfl) <| .cons rfl (z6 rfl rfl ⟨by omega, by omega⟩) <| .cons rfl (zD rfl) <| .nil) fun a10 w10 m10 hst10 hle10 hk10 => ?_
   have hfr10 := hk10.fr (.o 4 <| .o 1 <| .o 3 <| .n 5 <| .nil)
   clear hst9 hfr9 hk10
   have zq4 := hle9.trans hle10
   have zq5 := hle8.trans zq4
   have hlh10 := hlh7.trans zq5
   exact ⟨(y + 1, (b + ((min x17.vars.length 500 : Nat) : Int) + ((min (zAH x17.body) 501 : Nat) : Int))), m10, by show t.arms.length - (y + 1) < t.arms.length - y; omega, ⟨hst10, hlh10, hfr10.sub (.c <| .c <| .c <| .c <| .nil), ⟨by show y + 1 ≤ t.arms.length; omega, by have hm9 := zCS hm_x17; dsimp only; omega, by dsimp only; omega⟩⟩⟩
  ·try simp only [nqs] at hb33
   have hd9 : y = t.arms.length → zBo (t.arms.drop y) = 0 := fun h => by rw [List.drop_of_length_le (by omega), zBo]
   have hx8 : (b ≤ 500 ∧ b = (zAH t : Int)) ∨ (500 < b ∧ 500 < zAH t) := by rcases hj with hj | hj; (rcases Nat.lt_or_ge y t.arms.length with h | h; exact .inl ⟨hj.1, by omega⟩; exact .inl ⟨hj.1, by have := hd9 (by omega); omega⟩); exact .inr hj
   clear hj
   refine zv ?_
   refine hK11 _ _ ?_
   refine zB fun _ hK18 => ?_
   refine rp0 hst8 hfr8 (.cons rfl (zC rfl) <| .cons rfl (ob_min2 rfl rfl) <| .cons rfl (zD rfl) <| .nil) fun a9 w9 m9 hst9 hle9 hk9 => ?_
   have hfr9 := hk9.fr (.o 3 <| .o 5 <| .o 4 <| .n 2 <| .nil)
   clear hst8 hfr8 hk9
   refine hK18 _ _ ?_
   refine zN ?_
   repeat (with_reducible first | refine zH ?_ | refine zG ?_)
   exact zO hst9 hfr9 rfl (.tmp rfl <| .nil) (by refine congrArg (Value.int _) ?_; first | omega | (split <;> omega))
theorem lcount_c (t : Cd) : zDL t := Cd.rec_ (p := zDL) (fun t ihk iha => lcount_s ihk iha) t
abbrev vsame_G (t : VT) : Prop := ∀ {w : World} {m : Mem} {vs_t : List Value} {us_t : List Value} (hA : Agree w m) (h_t : VR m t vs_t) (g_t : VR m t us_t), FnV Try.prog 37 #[.agg vs_t.toArray, .agg us_t.toArray] w m (fun _ _ v => v = .bool true)
set_option maxHeartbeats 1600000 in
theorem vsame_s {t : VT} (ih : ∀ u ∈ t.kids, vsame_G u) {w : World} {m : Mem} {vs_t : List Value} {us_t : List Value} (hA : Agree w m) (h_t : VR m t vs_t) (g_t : VR m t us_t) : FnV Try.prog 37 #[.agg vs_t.toArray, .agg us_t.toArray] w m (fun _ _ v => v = .bool true) := by
 obtain ⟨oV_t, cV_t, rfl, hvt_t, hi_t, hj_t⟩ := h_t.open_
 have hbv_t := hvt_t.big; have hcw_t := hvt_t.cap
 obtain ⟨oV_z, cV_z, rfl, hvt_z, hi_z, hj_z⟩ := g_t.open_
 have hbv_z := hvt_z.big; have hcw_z := hvt_z.cap
 refine zZ (vs := [_, _]) func37 rfl rfl rfl fun a0 hfr0 => ?_
 have hst0 := zW hA (zg [] _ w m)
 have hM : MLe m m := MLe.refl m
 refine zB fun _ hK1 => ?_
 refine rp0 hst0 hfr0 (.cons rfl (zr rfl rfl) <| .cons rfl (zr rfl rfl) <| .cons rfl (zD rfl) <| .nil) fun a1 w1 m1 hst1 hle1 hk1 => ?_
 have hfr1 := hk1.fr (.nil)
 obtain ⟨g2, e2, hc2⟩ := hk1.ex 2 rfl
 replace hfr1 := hfr1.cons e2
 obtain ⟨g3, e3, hc3⟩ := hk1.ex 3 rfl
 replace hfr1 := hfr1.cons e3
 replace hvt_t := hvt_t.mono hle1
 replace hvt_z := hvt_z.mono hle1
 clear hst0 hfr0 hk1
 refine hK1 _ _ ?_
 refine zB fun _ hK4 => ?_
 refine zB fun _ hK5 => ?_
 refine rp0 hst1 hfr1 (.cons rfl (zA (off := 0) rfl underlying31 rfl rfl sizeOf3 rfl) <| .cons rfl (zJ rfl hc2 isAgg3 rfl) <| .cons rfl (zA (off := 0) rfl underlying31 rfl rfl sizeOf3 rfl) <| .cons rfl (zJ rfl hc3 isAgg3 rfl) <| .cons rfl (Zs rfl rfl) <| .cons rfl (zC rfl) <| .cons rfl (zA (off := 1) rfl underlying31 rfl rfl sizeOf3 rfl) <| .cons rfl (zJ rfl hc2 isAgg3 rfl) <| .cons rfl (zA (off := 1) rfl underlying31 rfl rfl sizeOf3 rfl) <| .cons rfl (zJ rfl hc3 isAgg3 rfl) <| .cons rfl (Zs rfl rfl) <| .cons rfl (Zd rfl rfl rfl) <| .cons rfl (zC rfl) <| .cons rfl (zA (off := 2) rfl underlying31 rfl rfl sizeOf9 rfl) <| .cons rfl (zJ rfl hc2 isAgg9 rfl) <| .cons rfl (zA (off := 2) rfl underlying31 rfl rfl sizeOf9 rfl) <| .cons rfl (zJ rfl hc3 isAgg9 rfl) <| .cons rfl (ob_sneq rfl rfl) <| .cons rfl (Zd rfl rfl rfl) <| .cons rfl (zC rfl) <| .cons rfl (zA (off := 3) rfl underlying31 rfl rfl sizeOf29 rfl) <| .cons rfl (zJ rfl hc2 isAgg29 rfl) <| .cons rfl (zl rfl underlying29) <| .cons rfl (zA (off := 3) rfl underlying31 rfl rfl sizeOf29 rfl) <| .cons rfl (zJ rfl hc3 isAgg29 rfl) <| .cons rfl (zl rfl underlying29) <| .cons rfl (Zs rfl rfl) <| .cons rfl (Zd rfl rfl rfl) <| .nil) fun a2 w2 m2 hst2 hle2 hk2 => ?_
 have hfr2 := hk2.fr (.o 2 <| .o 3 <| .n 34 <| .nil)
 replace hvt_t := hvt_t.mono hle2
 replace hvt_z := hvt_z.mono hle2
 replace hc2 := hc2.mono hle2
 replace hc3 := hc3.mono hle2
 clear hst1 hfr1 hk2
 refine hK5 _ _ ?_
 refine zE hfr2 rfl rfl (fun hb34 => ?_) (fun hb34 => ?_)
 ·simp at hb34
 ·try simp only [nqs] at hb34
  refine zR ?_
  refine hK4 _ _ ?_
  refine zB fun _ hK6 => ?_
  refine zB fun _ hK7 => ?_
  refine rp0 hst2 hfr2 (.cons rfl (zD rfl) <| .nil) fun a3 w3 m3 hst3 hle3 hk3 => ?_
  have hfr3 := hk3.fr (.o 2 <| .o 3 <| .n 5 <| .nil)
  clear hst2 hfr2 hk3
  refine hK7 _ _ ?_
  refine zT ?_
  refine zx (T := [(2, _), (3, _)]) (fun (y : Nat) => ([(5, .int .i64 (y : Int))] : List (Nat × Value))) (fun _ => _) (fun (y : Nat) m => (y ≤ t.kids.length)) (fun y => t.kids.length - y) (0) ⟨hst3, MLe.refl _, hfr3.sub (.c <| .c <| .c <| .nil), Nat.zero_le _⟩ fun y a4 w4 m4 hh4 => ?_
  have hst4 := hh4.st; have hle4 := hh4.le; have hfr4 := hh4.fr; have hrel := hh4.rel; clear hh4
  clear hst3 hfr3
  have hyn := hrel
  have hlh4 := hle4
  refine zB fun _ hK9 => ?_
  refine zB fun _ hK10 => ?_
  have zq1 := hle3.trans hle4
  replace hc2 := hc2.mono zq1
  refine rp0 hst4 hfr4 (.cons rfl (zC rfl) <| .cons rfl (zA (off := 3) rfl underlying31 rfl rfl sizeOf29 rfl) <| .cons rfl (zJ rfl hc2 isAgg29 rfl) <| .cons rfl (zl rfl underlying29) <| .cons rfl (ZA rfl rfl) <| .nil) fun a5 w5 m5 hst5 hle5 hk5 => ?_
  have hfr5 := hk5.fr (.o 5 <| .o 2 <| .o 3 <| .n 39 <| .nil)
  clear hst4 hfr4 hk5
  refine hK10 _ _ ?_
  refine zE hfr5 rfl rfl (fun hb39 => ?_) (fun hb39 => ?_)
  ·try simp only [nqs] at hb39
   refine zR ?_
   refine hK9 _ _ ?_
   refine zB fun _ hK11 => ?_
   refine zT ?_
   refine zB fun _ hK12 => ?_
   have zq2 := zq1.trans hle5
   replace hvt_t := hvt_t.mono zq2
   obtain ⟨p13, vs13, x13, ho13, hd13, hm_x13, ht13, hcv13, hl13, hv13⟩ := hvt_t.nth (k := y) (by omega)
   cases ho13
   obtain ⟨oV13, cV13, rfl, hvt13, hi13, hj13⟩ := hv13.open_
   have hbv13 := hvt13.big; have hcw13 := hvt13.cap
   replace hvt_z := hvt_z.mono zq2
   obtain ⟨p14, vs14, x14, ho14, hd14, hm_x14, ht14, hcv14, hl14, hv14⟩ := hvt_z.nth (k := y) (by omega)
   cases ho14
   obtain ⟨oV14, cV14, rfl, hvt14, hi14, hj14⟩ := hv14.open_
   have hbv14 := hvt14.big; have hcw14 := hvt14.cap
   have hxe := hd13.symm.trans hd14
   injection hxe with hxe _
   subst hxe
   replace hc3 := hc3.mono zq2
   replace hc2 := hc2.mono hle5
   refine zAJ (fun _ => zw) hst5 hfr5 (by kernel_rfl) (by kernel_rfl) (.cons rfl (zA (off := 3) rfl underlying31 rfl rfl sizeOf29 rfl) <| .cons rfl (zJ rfl hc2 isAgg29 rfl) <| .cons rfl (zC rfl) <| .cons rfl (zI (k := y) rfl rfl underlying29 sizeOf31 rfl (by omega)) <| .cons rfl (zY rfl hcv13 isAgg31 sizeOf31 rfl rfl) <| .cons rfl (zA (off := 3) rfl underlying31 rfl rfl sizeOf29 rfl) <| .cons rfl (zJ rfl hc3 isAgg29 rfl) <| .cons rfl (zC rfl) <| .cons rfl (zI (k := y) rfl rfl underlying29 sizeOf31 rfl (by omega)) <| .cons rfl (zY rfl hcv14 isAgg31 sizeOf31 rfl rfl) <| .cons rfl (zX rfl (.cons rfl <| .cons rfl <| .nil) call37 (fun w m hK => by have hle_ := KC.le hK; have hA := KC.agree hK; have hv13 := hv13.mono hle_; have hv14 := hv14.mono hle_; exact ih _ hm_x13 hA hv13 hv14)) <| .cons rfl (zD rfl) <| .nil) fun a6 w6 m6 hst6 hle6 hk6 => ?_
   have hfr6 := hk6.fr (.o 5 <| .o 2 <| .o 3 <| .n 6 <| .nil)
   clear hst5 hfr5 hk6
   refine hK12 _ _ ?_
   refine zB fun _ hK15 => ?_
   refine rp0 hst6 hfr6 (.cons rfl (zC rfl) <| .cons rfl (z2 rfl) <| .nil) fun a7 w7 m7 hst7 hle7 hk7 => ?_
   have hfr7 := hk7.fr (.o 5 <| .o 2 <| .o 3 <| .n 54 <| .nil)
   clear hst6 hfr6 hk7
   refine hK15 _ _ ?_
   refine zE hfr7 rfl rfl (fun hb54 => ?_) (fun hb54 => ?_)
   ·simp at hb54
   ·try simp only [nqs] at hb54
    refine zR ?_
    refine hK11 _ _ ?_
    refine rp0 hst7 hfr7 (.cons rfl (zC rfl) <| .cons rfl (z6 rfl rfl ⟨by omega, by omega⟩) <| .cons rfl (zD rfl) <| .nil) fun a8 w8 m8 hst8 hle8 hk8 => ?_
    have hfr8 := hk8.fr (.o 2 <| .o 3 <| .n 5 <| .nil)
    clear hst7 hfr7 hk8
    have zq3 := hle7.trans hle8
    have zq4 := hle6.trans zq3
    have zq5 := hle5.trans zq4
    have hlh8 := hlh4.trans zq5
    exact ⟨y + 1, m8, by show t.kids.length - (y + 1) < t.kids.length - y; omega, ⟨hst8, hlh8, hfr8.sub (.c <| .c <| .c <| .nil), by show y + 1 ≤ t.kids.length; omega⟩⟩
  ·try simp only [nqs] at hb39
   have hge : y = t.kids.length := by omega
   refine zv ?_
   refine hK6 _ _ ?_
   refine zB fun _ hK16 => ?_
   refine rp0 hst5 hfr5 (.cons rfl (zD rfl) <| .nil) fun a6 w6 m6 hst6 hle6 hk6 => ?_
   have hfr6 := hk6.fr (.o 5 <| .n 4 <| .nil)
   clear hst5 hfr5 hk6
   refine hK16 _ _ ?_
   refine zN ?_
   repeat (with_reducible first | refine zH ?_ | refine zG ?_)
   exact zO hst6 hfr6 rfl (.tmp rfl <| .nil) (rfl)
theorem vsame_c (t : VT) : vsame_G t := VT.rec_ (p := vsame_G) (fun t ih => vsame_s ih) t
set_option maxHeartbeats 400000 in
theorem sametr_c {w : World} {m : Mem} {o_a : Option Addr} {c_a : Nat} {a : List Int} {o_b : Option Addr} {c_b : Nat} {b : List Int} (hA : Agree w m) (h_a : Ints m o_a a.length c_a a) (h_b : Ints m o_b b.length c_b b) : FnV Try.prog 16 #[.slice o_a a.length c_a, .slice o_b b.length c_b] w m (fun _ _ v => v = .bool (decide (a = b))) := by
 have hb_a := h_a.big; have hc_a := h_a.cap
 have hb_b := h_b.big; have hc_b := h_b.cap
 refine zZ (vs := [_, _]) func16 rfl rfl rfl fun a0 hfr0 => ?_
 have hst0 := zW hA (zg [] _ w m)
 have hM : MLe m m := MLe.refl m
 refine zB fun _ hK1 => ?_
 refine rp0 hst0 hfr0 (.cons rfl (zD rfl) <| .nil) fun a1 w1 m1 hst1 hle1 hk1 => ?_
 have hfr1 := hk1.fr (.o 0 <| .o 1 <| .nil)
 replace h_a := h_a.mono hle1
 replace h_b := h_b.mono hle1
 clear hst0 hfr0 hk1
 refine hK1 _ _ ?_
 refine zB fun _ hK2 => ?_
 refine zB fun _ hK3 => ?_
 refine rp0 hst1 hfr1 (.cons rfl (zC rfl) <| .cons rfl (zl rfl underlying26) <| .cons rfl (zC rfl) <| .cons rfl (zl rfl underlying26) <| .cons rfl (Zs rfl rfl) <| .nil) fun a2 w2 m2 hst2 hle2 hk2 => ?_
 have hfr2 := hk2.fr (.o 0 <| .o 1 <| .n 10 <| .nil)
 replace h_a := h_a.mono hle2
 replace h_b := h_b.mono hle2
 clear hst1 hfr1 hk2
 refine hK3 _ _ ?_
 refine zE hfr2 rfl rfl (fun hb10 => ?_) (fun hb10 => ?_)
 ·try simp only [nqs] at hb10
  have hne : ¬ a = b := fun h => by subst h; exact hb10 rfl
  refine zB fun _ hK4 => ?_
  refine rp0 hst2 hfr2 (.cons rfl (zD rfl) <| .nil) fun a3 w3 m3 hst3 hle3 hk3 => ?_
  have hfr3 := hk3.fr (.n 4 <| .nil)
  clear hst2 hfr2 hk3
  refine hK4 _ _ ?_
  refine zN ?_
  repeat (with_reducible first | refine zH ?_ | refine zG ?_)
  exact zO hst3 hfr3 rfl (.tmp rfl <| .nil) (by rw [decide_eq_false hne]; rfl)
 ·try simp only [nqs] at hb10
  have hle9 : a.length = b.length := by omega
  refine zR ?_
  refine hK2 _ _ ?_
  refine zB fun _ hK6 => ?_
  refine zB fun _ hK7 => ?_
  refine rp0 hst2 hfr2 (.cons rfl (zD rfl) <| .nil) fun a3 w3 m3 hst3 hle3 hk3 => ?_
  have hfr3 := hk3.fr (.o 0 <| .o 1 <| .n 5 <| .nil)
  clear hst2 hfr2 hk3
  refine hK7 _ _ ?_
  refine zT ?_
  refine zx (T := [(0, _), (1, _)]) (fun (y : Nat) => ([(5, .int .i64 (y : Int))] : List (Nat × Value))) (fun _ => _) (fun (y : Nat) m => (y ≤ a.length) ∧ (a.take y = b.take y)) (fun y => a.length - y) (0) ⟨hst3, MLe.refl _, hfr3.sub (.c <| .c <| .c <| .nil), ⟨Nat.zero_le _, rfl⟩⟩ fun y a4 w4 m4 hh4 => ?_
  have hst4 := hh4.st; have hle4 := hh4.le; have hfr4 := hh4.fr; have hrel := hh4.rel; clear hh4
  clear hst3 hfr3
  obtain ⟨hyn, htk⟩ := hrel
  have hlh4 := hle4
  refine zB fun _ hK9 => ?_
  refine zB fun _ hK10 => ?_
  refine rp0 hst4 hfr4 (.cons rfl (zC rfl) <| .cons rfl (zC rfl) <| .cons rfl (zl rfl underlying26) <| .cons rfl (ZA rfl rfl) <| .nil) fun a5 w5 m5 hst5 hle5 hk5 => ?_
  have hfr5 := hk5.fr (.o 5 <| .o 0 <| .o 1 <| .n 14 <| .nil)
  clear hst4 hfr4 hk5
  refine hK10 _ _ ?_
  refine zE hfr5 rfl rfl (fun hb14 => ?_) (fun hb14 => ?_)
  ·try simp only [nqs] at hb14
   refine zR ?_
   refine hK9 _ _ ?_
   refine zB fun _ hK11 => ?_
   refine zT ?_
   refine zB fun _ hK12 => ?_
   have zq1 := hle4.trans hle5
   have zq2 := hle3.trans zq1
   replace h_a := h_a.mono zq2
   obtain ⟨p13, vs13, x13, ho13, hd13, hm_x13, ht13, hcv13, hl13, hv13⟩ := h_a.nth (k := y) (by omega)
   cases ho13
   subst hv13
   replace h_b := h_b.mono zq2
   obtain ⟨p14, vs14, x14, ho14, hd14, hm_x14, ht14, hcv14, hl14, hv14⟩ := h_b.nth (k := y) (by omega)
   cases ho14
   subst hv14
   refine zAJ (fun _ => zw) hst5 hfr5 (by kernel_rfl) (by kernel_rfl) (.cons rfl (zC rfl) <| .cons rfl (zC rfl) <| .cons rfl (zI (k := y) rfl rfl underlying26 sizeOf3 rfl (by omega)) <| .cons rfl (zk rfl hcv13 isAgg3 rfl) <| .cons rfl (zC rfl) <| .cons rfl (zC rfl) <| .cons rfl (zI (k := y) rfl rfl underlying26 sizeOf3 rfl (by omega)) <| .cons rfl (zk rfl hcv14 isAgg3 rfl) <| .cons rfl (Zs rfl rfl) <| .nil) fun a6 w6 m6 hst6 hle6 hk6 => ?_
   have hfr6 := hk6.fr (.o 5 <| .o 0 <| .o 1 <| .n 25 <| .nil)
   clear hst5 hfr5 hk6
   refine hK12 _ _ ?_
   refine zE hfr6 rfl rfl (fun hb25 => ?_) (fun hb25 => ?_)
   ·try simp only [nqs] at hb25
    have hne : ¬ a = b := fun h => by subst h; have h1 := hd13; rw [hd14] at h1; injection h1 with h1; exact hb25 h1.symm
    refine zB fun _ hK15 => ?_
    refine rp0 hst6 hfr6 (.cons rfl (zD rfl) <| .nil) fun a7 w7 m7 hst7 hle7 hk7 => ?_
    have hfr7 := hk7.fr (.o 5 <| .n 4 <| .nil)
    clear hst6 hfr6 hk7
    refine hK15 _ _ ?_
    refine zN ?_
    repeat (with_reducible first | refine zH ?_ | refine zG ?_)
    exact zO hst7 hfr7 rfl (.tmp rfl <| .nil) (by rw [decide_eq_false hne]; rfl)
   ·try simp only [nqs] at hb25
    refine zR ?_
    refine hK11 _ _ ?_
    refine rp0 hst6 hfr6 (.cons rfl (zC rfl) <| .cons rfl (z6 rfl rfl ⟨by omega, by omega⟩) <| .cons rfl (zD rfl) <| .nil) fun a7 w7 m7 hst7 hle7 hk7 => ?_
    have hfr7 := hk7.fr (.o 0 <| .o 1 <| .n 5 <| .nil)
    clear hst6 hfr6 hk7
    have zq3 := hle6.trans hle7
    have zq4 := hle5.trans zq3
    have hlh7 := hlh4.trans zq4
    exact ⟨y + 1, m7, by show a.length - (y + 1) < a.length - y; omega, ⟨hst7, hlh7, hfr7.sub (.c <| .c <| .c <| .nil), ⟨by show y + 1 ≤ a.length; omega, by rw [ht13, ht14, htk, hb25]⟩⟩⟩
  ·try simp only [nqs] at hb14
   have hge : y = a.length := by omega
   have heq : a = b := by rw [hge, List.take_length, hle9, List.take_length] at htk; exact htk
   refine zv ?_
   refine hK6 _ _ ?_
   refine zB fun _ hK17 => ?_
   refine rp0 hst5 hfr5 (.cons rfl (zD rfl) <| .nil) fun a6 w6 m6 hst6 hle6 hk6 => ?_
   have hfr6 := hk6.fr (.o 5 <| .n 4 <| .nil)
   clear hst5 hfr5 hk6
   refine hK17 _ _ ?_
   refine zN ?_
   repeat (with_reducible first | refine zH ?_ | refine zG ?_)
   exact zO hst6 hfr6 rfl (.tmp rfl <| .nil) (by rw [decide_eq_true heq]; rfl)
set_option maxHeartbeats 800000 in
theorem soutc_c {w : World} {m : Mem} {k : Int} {t : VT} {vs_p : List Value} {vs_q : List Value} (hA : Agree w m) (p_t : VR m t vs_p) (q_t : VR m t vs_q) : FnV Try.prog 22 #[.agg (.int .i64 k :: vs_p).toArray, .agg (.int .i64 k :: vs_q).toArray] w m (fun _ _ v => v = .bool true) := by
 obtain ⟨oV_p, cV_p, rfl, hvt_p, hi_p, hj_p⟩ := p_t.open_
 have hbv_p := hvt_p.big; have hcw_p := hvt_p.cap
 obtain ⟨oV_q, cV_q, rfl, hvt_q, hi_q, hj_q⟩ := q_t.open_
 have hbv_q := hvt_q.big; have hcw_q := hvt_q.cap
 refine zZ (vs := [_, _]) func22 rfl rfl rfl fun a0 hfr0 => ?_
 have hst0 := zW hA (zg [] _ w m)
 have hM : MLe m m := MLe.refl m
 refine zB fun _ hK1 => ?_
 refine rp0 hst0 hfr0 (.cons rfl (zr rfl rfl) <| .cons rfl (zr rfl rfl) <| .cons rfl (zD rfl) <| .nil) fun a1 w1 m1 hst1 hle1 hk1 => ?_
 have hfr1 := hk1.fr (.nil)
 obtain ⟨g2, e2, hc2⟩ := hk1.ex 2 rfl
 replace hfr1 := hfr1.cons e2
 obtain ⟨g3, e3, hc3⟩ := hk1.ex 3 rfl
 replace hfr1 := hfr1.cons e3
 replace p_t := p_t.mono hle1
 replace q_t := q_t.mono hle1
 clear hst0 hfr0 hk1
 refine hK1 _ _ ?_
 refine zB fun _ hK4 => ?_
 refine rp0 hst1 hfr1 (.cons rfl (zA (off := 0) rfl underlying33 rfl rfl sizeOf3 rfl) <| .cons rfl (zJ rfl hc2 isAgg3 rfl) <| .cons rfl (zA (off := 0) rfl underlying33 rfl rfl sizeOf3 rfl) <| .cons rfl (zJ rfl hc3 isAgg3 rfl) <| .cons rfl (zS rfl rfl) <| .cons rfl (zC rfl) <| .cons rfl (zA (off := 1) rfl underlying33 rfl rfl sizeOf31 rfl) <| .cons rfl (Zk rfl hc2 isAgg31 sizeOf31 rfl rfl) <| .cons rfl (zA (off := 1) rfl underlying33 rfl rfl sizeOf31 rfl) <| .cons rfl (Zk rfl hc3 isAgg31 sizeOf31 rfl rfl) <| .cons rfl (zX rfl (.cons rfl <| .cons rfl <| .nil) call37 (fun w m hK => by have hle_ := KC.le hK; have hA := KC.agree hK; have p_t := p_t.mono hle_; have q_t := q_t.mono hle_; exact vsame_c t hA p_t q_t)) <| .cons rfl (zU rfl rfl rfl) <| .cons rfl (zD rfl) <| .nil) fun a2 w2 m2 hst2 hle2 hk2 => ?_
 have hfr2 := hk2.fr (.n 4 <| .nil)
 clear hst1 hfr1 hk2
 refine hK4 _ _ ?_
 refine zN ?_
 repeat (with_reducible first | refine zH ?_ | refine zG ?_)
 exact zO hst2 hfr2 rfl (.tmp rfl <| .nil) (by simp [ZS])
set_option maxHeartbeats 800000 in
theorem rsame_c {w : World} {m : Mem} {r : Rn} {y_p : (Option Addr × Nat) × Option Addr × Nat} {y_q : (Option Addr × Nat) × Option Addr × Nat} (hA : Agree w m) (p_r : (MP.rn r).r y_p m) (q_r : (MP.rn r).r y_q m) : FnV Try.prog 17 #[((MP.rn r).f y_p), ((MP.rn r).f y_q)] w m (fun _ _ v => v = .bool true) := by
 obtain ⟨⟨ov_p, cv_p⟩, ot_p, ct_p⟩ := y_p
 obtain ⟨p_t, p_i⟩ := p_r
 obtain ⟨⟨ov_q, cv_q⟩, ot_q, ct_q⟩ := y_q
 obtain ⟨q_t, q_i⟩ := q_r
 refine zZ (vs := [_, _]) func17 rfl rfl rfl fun a0 hfr0 => ?_
 have hst0 := zW hA (zg [] _ w m)
 have hM : MLe m m := MLe.refl m
 refine zB fun _ hK1 => ?_
 refine rp0 hst0 hfr0 (.cons rfl (zr rfl rfl) <| .cons rfl (zr rfl rfl) <| .cons rfl (zD rfl) <| .nil) fun a1 w1 m1 hst1 hle1 hk1 => ?_
 have hfr1 := hk1.fr (.nil)
 obtain ⟨g2, e2, hc2⟩ := hk1.ex 2 rfl
 replace hfr1 := hfr1.cons e2
 obtain ⟨g3, e3, hc3⟩ := hk1.ex 3 rfl
 replace hfr1 := hfr1.cons e3
 replace p_t := p_t.mono hle1
 replace p_i := p_i.mono hle1
 replace q_t := q_t.mono hle1
 replace q_i := q_i.mono hle1
 clear hst0 hfr0 hk1
 refine hK1 _ _ ?_
 refine zB fun _ hK4 => ?_
 refine rp0 hst1 hfr1 (.cons rfl (zA (off := 0) rfl underlying35 rfl rfl sizeOf33 rfl) <| .cons rfl (Zk rfl hc2 isAgg33 sizeOf33 rfl rfl) <| .cons rfl (zA (off := 0) rfl underlying35 rfl rfl sizeOf33 rfl) <| .cons rfl (Zk rfl hc3 isAgg33 sizeOf33 rfl rfl) <| .cons rfl (zX rfl (.cons rfl <| .cons rfl <| .nil) call22 (fun w m hK => by have hle_ := KC.le hK; have hA := KC.agree hK; have p_t := p_t.mono hle_; have q_t := q_t.mono hle_; exact soutc_c (k := r.kind) hA p_t q_t)) <| .cons rfl (zD rfl) <| .nil) fun a2 w2 m2 hst2 hle2 hk2 => ?_
 have hfr2 := hk2.fr (.o 2 <| .o 3 <| .n 5 <| .nil)
 replace p_i := p_i.mono hle2
 replace q_i := q_i.mono hle2
 replace hc2 := hc2.mono hle2
 replace hc3 := hc3.mono hle2
 clear hst1 hfr1 hk2
 refine hK4 _ _ ?_
 refine zB fun _ hK5 => ?_
 refine rp0 hst2 hfr2 (.cons rfl (zA (off := 5) rfl underlying35 rfl rfl sizeOf26 rfl) <| .cons rfl (zJ rfl hc2 isAgg26 rfl) <| .cons rfl (zA (off := 5) rfl underlying35 rfl rfl sizeOf26 rfl) <| .cons rfl (zJ rfl hc3 isAgg26 rfl) <| .cons rfl (zX rfl (.cons rfl <| .cons rfl <| .nil) call16 (fun w m hK => by have hle_ := KC.le hK; have hA := KC.agree hK; have p_i := p_i.mono hle_; have q_i := q_i.mono hle_; exact sametr_c hA p_i q_i)) <| .cons rfl (zD rfl) <| .nil) fun a3 w3 m3 hst3 hle3 hk3 => ?_
 have hfr3 := hk3.fr (.o 2 <| .o 3 <| .o 5 <| .n 6 <| .nil)
 replace hc2 := hc2.mono hle3
 replace hc3 := hc3.mono hle3
 clear hst2 hfr2 hk3
 refine hK5 _ _ ?_
 refine zB fun _ hK6 => ?_
 refine rp0 hst3 hfr3 (.cons rfl (zC rfl) <| .cons rfl (zC rfl) <| .cons rfl (zC rfl) <| .cons rfl (zU rfl rfl rfl) <| .cons rfl (zC rfl) <| .cons rfl (zA (off := 6) rfl underlying35 rfl rfl sizeOf3 rfl) <| .cons rfl (zJ rfl hc2 isAgg3 rfl) <| .cons rfl (zA (off := 6) rfl underlying35 rfl rfl sizeOf3 rfl) <| .cons rfl (zJ rfl hc3 isAgg3 rfl) <| .cons rfl (zS rfl rfl) <| .cons rfl (zU rfl rfl rfl) <| .cons rfl (zC rfl) <| .cons rfl (zA (off := 7) rfl underlying35 rfl rfl sizeOf3 rfl) <| .cons rfl (zJ rfl hc2 isAgg3 rfl) <| .cons rfl (zA (off := 7) rfl underlying35 rfl rfl sizeOf3 rfl) <| .cons rfl (zJ rfl hc3 isAgg3 rfl) <| .cons rfl (zS rfl rfl) <| .cons rfl (zU rfl rfl rfl) <| .cons rfl (zD rfl) <| .nil) fun a4 w4 m4 hst4 hle4 hk4 => ?_
 have hfr4 := hk4.fr (.n 4 <| .nil)
 clear hst3 hfr3 hk4
 refine hK6 _ _ ?_
 refine zN ?_
 repeat (with_reducible first | refine zH ?_ | refine zG ?_)
 exact zO hst4 hfr4 rfl (.tmp rfl <| .nil) (by simp [ZS])
abbrev zCw (t : Cd) : Prop := ∀ {w : World} {m : Mem} {vs_t : List Value} {k : Int} (hA : Agree w m) (h_t : CdR m t vs_t), FnV Try.prog 26 #[.agg vs_t.toArray, .int .i64 k] w m (fun _ _ v => v = .int .i64 (IntKind.i64.wrap (nK k t : Int)))
set_option maxHeartbeats 1600000 in
theorem ccount_s {t : Cd} (ihk : ∀ u ∈ t.kids, zCw u) (iha : ∀ a ∈ t.arms, zCw a.body) {w : World} {m : Mem} {vs_t : List Value} {k : Int} (hA : Agree w m) (h_t : CdR m t vs_t) : FnV Try.prog 26 #[.agg vs_t.toArray, .int .i64 k] w m (fun _ _ v => v = .int .i64 (IntKind.i64.wrap (nK k t : Int))) := by
 obtain ⟨⟨oK_t, cK_t, oA_t, cA_t⟩, rfl, ⟨hik_t, hin_t⟩, hkk_t, haa_t⟩ := h_t.open_
 dsimp only at hkk_t haa_t
 have hbg_t := hkk_t.big; have hcp_t := hkk_t.cap; have hbh_t := haa_t.big; have hcq_t := haa_t.cap
 refine zZ (vs := [_, _]) func26 rfl rfl rfl fun a0 hfr0 => ?_
 have hst0 := zW hA (zg [] _ w m)
 have hM : MLe m m := MLe.refl m
 have hce := nK_eq k t
 refine zB fun _ hK1 => ?_
 refine rp0 hst0 hfr0 (.cons rfl (zr rfl rfl) <| .cons rfl (zD rfl) <| .nil) fun a1 w1 m1 hst1 hle1 hk1 => ?_
 have hfr1 := hk1.fr (.o 1 <| .nil)
 obtain ⟨g2, e2, hc2⟩ := hk1.ex 2 rfl
 replace hfr1 := hfr1.cons e2
 replace hkk_t := hkk_t.mono hle1
 replace haa_t := haa_t.mono hle1
 clear hst0 hfr0 hk1
 refine hK1 _ _ ?_
 refine zB fun _ hK3 => ?_
 refine rp0 hst1 hfr1 (.cons rfl (zD rfl) <| .nil) fun a2 w2 m2 hst2 hle2 hk2 => ?_
 have hfr2 := hk2.fr (.o 1 <| .o 2 <| .n 5 <| .nil)
 replace hkk_t := hkk_t.mono hle2
 replace haa_t := haa_t.mono hle2
 replace hc2 := hc2.mono hle2
 clear hst1 hfr1 hk2
 refine hK3 _ _ ?_
 refine join_any (T := [(1, _), (2, _)]) (fun (y : Int) => ([(5, .int .i64 y)] : List (Nat × Value))) (fun y => []) (fun (y : Int) m => (fun (a0 : Int) => (a0 = (if t.kind = k then 1 else 0))) y) ((0)) ⟨hst2, MLe.refl _, hfr2.sub (.c <| .c <| .c <| .nil), trivial⟩ (fun y a3 w3 m3 hh3 => ?_) (fun K4 hj4 => ?_)
 ·have hst3 := hh3.st; have hle3 := hh3.le; have hfr3 := hh3.fr; have hrel := hh3.rel; clear hh3
  clear hst2 hfr2
  obtain ⟨a0, rfl⟩ : ∃ z, z = y := ⟨_, rfl⟩
  try dsimp only at hrel
  try dsimp only at hfr3
  try dsimp only at hst3
  have ha0 := hrel
  refine zB fun _ hK5 => ?_
  refine zB fun _ hK6 => ?_
  replace hc2 := hc2.mono hle3
  refine rp0 hst3 hfr3 (.cons rfl (zA (off := 4) rfl underlying25 rfl rfl sizeOf22 rfl) <| .cons rfl (zJ rfl hc2 isAgg22 rfl) <| .cons rfl (zl rfl underlying22) <| .cons rfl (zC rfl) <| .nil) fun a4 w4 m4 hst4 hle4 hk4 => ?_
  have hfr4 := hk4.fr (.o 5 <| .o 1 <| .o 2 <| .n 17 <| .n 18 <| .n 19 <| .nil)
  clear hst3 hfr3 hk4
  refine hK6 _ _ ?_
  refine zT ?_
  refine zx (T := [(1, _), (2, _), (17, _), (18, _)]) (fun (y : Nat × Int) => ([(5, .int .i64 y.2), (19, .int .i64 (y.1 : Int))] : List (Nat × Value))) (fun _ => _) (fun (y : Nat × Int) m => (fun (y : Nat) (a : Int) => (y ≤ t.kids.length) ∧ (IntKind.i64.wrap (a + ((nKs k (t.kids.drop y) : Nat) : Int)) = IntKind.i64.wrap (a0 + ((nKs k t.kids : Nat) : Int))) ∧ (zo a)) y.1 y.2) (fun y => t.kids.length - y.1) ((0, a0)) ⟨hst4, MLe.refl _, hfr4.sub (.c <| .c <| .c <| .c <| .c <| .c <| .nil), ⟨Nat.zero_le _, rfl, by rw [ha0]; split <;> exact ⟨by decide, by decide⟩⟩⟩ fun y a5 w5 m5 hh5 => ?_
  have hst5 := hh5.st; have hle5 := hh5.le; have hfr5 := hh5.fr; have hrel := hh5.rel; clear hh5
  clear hst4 hfr4
  obtain ⟨y, a⟩ := y
  dsimp only at hrel hfr5 hst5
  obtain ⟨hyn, ha, ha1⟩ := hrel
  have hlh5 := hle5
  refine zB fun _ hK8 => ?_
  refine rp0 hst5 hfr5 (.cons rfl (ZA rfl rfl) <| .nil) fun a6 w6 m6 hst6 hle6 hk6 => ?_
  have hfr6 := hk6.fr (.o 5 <| .o 19 <| .o 1 <| .o 2 <| .o 17 <| .o 18 <| .n 20 <| .nil)
  clear hst5 hfr5 hk6
  refine hK8 _ _ ?_
  refine zB fun _ hK9 => ?_
  refine zE hfr6 rfl rfl (fun hb20 => ?_) (fun hb20 => ?_)
  ·try simp only [nqs] at hb20
   refine zR ?_
   refine hK9 _ _ ?_
   refine zB fun _ hK10 => ?_
   refine zT ?_
   refine zB fun _ hK11 => ?_
   have zq1 := hle5.trans hle6
   have zq2 := hle4.trans zq1
   have zq3 := hle3.trans zq2
   replace hkk_t := hkk_t.mono zq3
   obtain ⟨p12, vs12, x12, ho12, hd12, hm_x12, ht12, hcv12, hl12, hv12⟩ := hkk_t.nth (k := y) (by omega)
   cases ho12
   obtain ⟨⟨oK12, cK12, oA12, cA12⟩, rfl, ⟨hik12, hin12⟩, hkk12, haa12⟩ := hv12.open_
   dsimp only at hkk12 haa12
   have hbg12 := hkk12.big; have hcp12 := hkk12.cap; have hbh12 := haa12.big; have hcq12 := haa12.cap
   rw [hd12, nKs, show ((nK k x12 + nKs k (t.kids.drop (y + 1)) : Nat) : Int) = (nK k x12 : Int) + (nKs k (t.kids.drop (y + 1)) : Int) by omega] at ha
   replace hst6 := hst6.more (r := .free) trivial List.nodup_nil (by simp [Res.blocks])
   refine ra0 (tch := [(2, 0, (fun v => .blk v _)), (3, 0, (fun v => .blk v _))]) hst6 hfr6 (.cons rfl (zI (k := y) rfl rfl underlying22 sizeOf25 rfl (by omega)) <| .cons rfl (zY rfl hcv12 isAgg25 sizeOf25 rfl rfl) <| .consT rfl rfl (fun _ => rfl) rfl (zP zeroValue25 rfl) <| .consT rfl rfl (fun _ => rfl) rfl (zb 7 rfl rfl rfl fun y7 => za rfl rfl rfl rfl rfl sizeOf25 rfl rfl hv12.one) <| .nil) fun a7 w7 m7 hst7 hle7 hk7 => ?_
   have hfr7 := hk7.fr (.o 5 <| .o 19 <| .o 1 <| .o 2 <| .o 17 <| .o 18 <| .nil)
   obtain ⟨g13, e13, _⟩ := hk7.ex 7 rfl
   replace hfr7 := hfr7.cons e13
   replace hst7 := hst7.fin (L' := [_]) (.cons e13 <| .cons e13 <| .nil)
   try simp only [List.take_succ_cons, List.take_zero, List.drop_succ_cons, List.drop_zero, List.cons_append, List.nil_append, List.append_nil, List.length_cons, List.length_nil, Nat.zero_add, Nat.reduceAdd] at hst7
   clear hst6 hfr6 hk7
   refine hK11 _ _ ?_
   replace hv12 := hv12.mono hle7
   refine rp0 hst7 hfr7 (.cons rfl (zC rfl) <| .cons rfl (zh (j := 0) rfl rfl isAgg25 sizeOf25 rfl) <| .cons rfl (zC rfl) <| .cons rfl (zX rfl (.cons rfl <| .cons rfl <| .nil) call26 (fun w m hK => by have hle_ := KC.le hK; have hA := KC.agree hK; have hv12 := hv12.mono hle_; exact ihk _ hm_x12 hA hv12)) <| .cons rfl (ob_addW rfl rfl) <| .cons rfl (zD rfl) <| .nil) fun a8 w8 m8 hst8 hle8 hk8 => ?_
   have hfr8 := hk8.fr (.o 19 <| .o 1 <| .o 2 <| .o 17 <| .o 18 <| .n 5 <| .nil)
   clear hst7 hfr7 hk8
   refine hK10 _ _ ?_
   refine rp0 hst8 hfr8 (.cons rfl (z6 rfl rfl ⟨by omega, by omega⟩) <| .cons rfl (zC rfl) <| .nil) fun a9 w9 m9 hst9 hle9 hk9 => ?_
   have hfr9 := hk9.fr (.o 1 <| .o 2 <| .o 17 <| .o 18 <| .o 5 <| .n 19 <| .nil)
   clear hst8 hfr8 hk9
   have hst9 := hst9.take 0
   have zq4 := hle8.trans hle9
   have zq5 := hle7.trans zq4
   have zq6 := hle6.trans zq5
   have hlh9 := hlh5.trans zq6
   exact ⟨(y + 1, (IntKind.i64.wrap (a + IntKind.i64.wrap ((nK k x12 : Int))))), m9, by show t.kids.length - (y + 1) < t.kids.length - y; omega, ⟨hst9, hlh9, hfr9.sub (.c <| .c <| .c <| .c <| .c <| .c <| .nil), ⟨by show y + 1 ≤ t.kids.length; omega, by show IntKind.i64.wrap (IntKind.i64.wrap (a + IntKind.i64.wrap ((nK k x12 : Int))) + ((nKs k (t.kids.drop (y + 1)) : Nat) : Int)) = _; rw [wrap3]; exact ha, zBM _⟩⟩⟩
  ·try simp only [nqs] at hb20
   have hge : y = t.kids.length := by omega
   rw [List.drop_of_length_le (by omega), nKs] at ha
   refine zv ?_
   refine hK5 _ _ ?_
   refine zB fun _ hK14 => ?_
   refine zB fun _ hK15 => ?_
   have zq7 := hle5.trans hle6
   have zq8 := hle4.trans zq7
   replace hc2 := hc2.mono zq8
   refine rp0 hst6 hfr6 (.cons rfl (zA (off := 5) rfl underlying25 rfl rfl sizeOf23 rfl) <| .cons rfl (zJ rfl hc2 isAgg23 rfl) <| .cons rfl (zl rfl underlying23) <| .cons rfl (zC rfl) <| .nil) fun a7 w7 m7 hst7 hle7 hk7 => ?_
   have hfr7 := hk7.fr (.o 5 <| .o 19 <| .o 1 <| .n 30 <| .n 31 <| .n 32 <| .nil)
   clear hst6 hfr6 hk7
   refine hK15 _ _ ?_
   refine zT ?_
   have zq9 := hle6.trans hle7
   have hlh7 := hlh5.trans zq9
   have hlq16 := hlh7
   refine zx (T := [(19, _), (1, _), (30, _), (31, _)]) (fun (y : Nat × Int) => ([(5, .int .i64 y.2), (32, .int .i64 (y.1 : Int))] : List (Nat × Value))) (fun _ => _) (fun (y : Nat × Int) m => (fun (y : Nat) (b : Int) => (y ≤ t.arms.length) ∧ (IntKind.i64.wrap (b + ((nAs k (t.arms.drop y) : Nat) : Int)) = IntKind.i64.wrap (a + ((nAs k t.arms : Nat) : Int))) ∧ (zo b)) y.1 y.2) (fun y => t.arms.length - y.1) ((0, a)) ⟨hst7, MLe.refl _, hfr7.sub (.c <| .c <| .c <| .c <| .c <| .c <| .nil), ⟨Nat.zero_le _, rfl, ha1⟩⟩ fun y a8 w8 m8 hh8 => ?_
   have hst8 := hh8.st; have hle8 := hh8.le; have hfr8 := hh8.fr; have hrel := hh8.rel; clear hh8
   clear hst7 hfr7
   obtain ⟨y, b⟩ := y
   dsimp only at hrel hfr8 hst8
   obtain ⟨hyn, hb_, hb1⟩ := hrel
   have hlh8 := hle8
   refine zB fun _ hK17 => ?_
   refine rp0 hst8 hfr8 (.cons rfl (ZA rfl rfl) <| .nil) fun a9 w9 m9 hst9 hle9 hk9 => ?_
   have hfr9 := hk9.fr (.o 5 <| .o 32 <| .o 19 <| .o 1 <| .o 30 <| .o 31 <| .n 33 <| .nil)
   clear hst8 hfr8 hk9
   refine hK17 _ _ ?_
   refine zB fun _ hK18 => ?_
   refine zE hfr9 rfl rfl (fun hb33 => ?_) (fun hb33 => ?_)
   ·try simp only [nqs] at hb33
    refine zR ?_
    refine hK18 _ _ ?_
    refine zB fun _ hK19 => ?_
    refine zT ?_
    refine zB fun _ hK20 => ?_
    have zq10 := hle8.trans hle9
    have zq11 := hle7.trans zq10
    have zq12 := zq8.trans zq11
    have zq13 := hle3.trans zq12
    replace haa_t := haa_t.mono zq13
    obtain ⟨p21, vs21, x21, ho21, hd21, hm_x21, ht21, hcv21, hl21, hv21⟩ := haa_t.nth (k := y) (by omega)
    cases ho21
    obtain ⟨oV21, cV21, bs21, rfl, hva21, hbd21⟩ := hv21.open_
    have hbv21 := hva21.big; have hcv21_ := hva21.cap
    obtain ⟨⟨oK21b, cK21b, oA21b, cA21b⟩, rfl, ⟨hik21b, hin21b⟩, hkk21b, haa21b⟩ := hbd21.open_
    dsimp only at hkk21b haa21b
    have hbg21b := hkk21b.big; have hcp21b := hkk21b.cap; have hbh21b := haa21b.big; have hcq21b := haa21b.cap
    rw [hd21, zFJ, show ((nK k x21.body + nAs k (t.arms.drop (y + 1)) : Nat) : Int) = (nK k x21.body : Int) + (nAs k (t.arms.drop (y + 1)) : Int) by omega] at hb_
    replace hst9 := hst9.more (r := .free) trivial List.nodup_nil (by simp [Res.blocks])
    refine ra0 (tch := [(2, 0, (fun v => .blk v _)), (3, 0, (fun v => .blk v _))]) hst9 hfr9 (.cons rfl (zI (k := y) rfl rfl underlying23 sizeOf47 rfl (by omega)) <| .cons rfl (zY rfl hcv21 isAgg47 sizeOf47 rfl rfl) <| .consT rfl rfl (fun _ => rfl) rfl (zP zeroValue47 rfl) <| .consT rfl rfl (fun _ => rfl) rfl (zb 9 rfl rfl rfl fun y9 => za rfl rfl rfl rfl rfl sizeOf47 rfl rfl hv21.one) <| .nil) fun a10 w10 m10 hst10 hle10 hk10 => ?_
    have hfr10 := hk10.fr (.o 5 <| .o 32 <| .o 19 <| .o 1 <| .o 30 <| .o 31 <| .nil)
    obtain ⟨g22, e22, _⟩ := hk10.ex 9 rfl
    replace hfr10 := hfr10.cons e22
    replace hst10 := hst10.fin (L' := [_]) (.cons e22 <| .cons e22 <| .nil)
    try simp only [List.take_succ_cons, List.take_zero, List.drop_succ_cons, List.drop_zero, List.cons_append, List.nil_append, List.append_nil, List.length_cons, List.length_nil, Nat.zero_add, Nat.reduceAdd] at hst10
    clear hst9 hfr9 hk10
    refine hK20 _ _ ?_
    replace hbd21 := hbd21.mono hle10
    refine rp0 hst10 hfr10 (.cons rfl (zC rfl) <| .cons rfl (zA (off := 3) rfl underlying47 rfl rfl sizeOf25 rfl) <| .cons rfl (zz (j := 0) rfl rfl isAgg25 sizeOf25 rfl rfl) <| .cons rfl (zC rfl) <| .cons rfl (zX rfl (.cons rfl <| .cons rfl <| .nil) call26 (fun w m hK => by have hle_ := KC.le hK; have hA := KC.agree hK; have hbd21 := hbd21.mono hle_; exact iha _ hm_x21 hA hbd21)) <| .cons rfl (ob_addW rfl rfl) <| .cons rfl (zD rfl) <| .nil) fun a11 w11 m11 hst11 hle11 hk11 => ?_
    have hfr11 := hk11.fr (.o 32 <| .o 19 <| .o 1 <| .o 30 <| .o 31 <| .n 5 <| .nil)
    clear hst10 hfr10 hk11
    refine hK19 _ _ ?_
    refine rp0 hst11 hfr11 (.cons rfl (z6 rfl rfl ⟨by omega, by omega⟩) <| .cons rfl (zC rfl) <| .nil) fun a12 w12 m12 hst12 hle12 hk12 => ?_
    have hfr12 := hk12.fr (.o 19 <| .o 1 <| .o 30 <| .o 31 <| .o 5 <| .n 32 <| .nil)
    clear hst11 hfr11 hk12
    have hst12 := hst12.take 0
    have zq14 := hle11.trans hle12
    have zq15 := hle10.trans zq14
    have zq16 := hle9.trans zq15
    have hlh12 := hlh8.trans zq16
    exact ⟨(y + 1, (IntKind.i64.wrap (b + IntKind.i64.wrap ((nK k x21.body : Int))))), m12, by show t.arms.length - (y + 1) < t.arms.length - y; omega, ⟨hst12, hlh12, hfr12.sub (.c <| .c <| .c <| .c <| .c <| .c <| .nil), ⟨by show y + 1 ≤ t.arms.length; omega, by show IntKind.i64.wrap (IntKind.i64.wrap (b + IntKind.i64.wrap ((nK k x21.body : Int))) + ((nAs k (t.arms.drop (y + 1)) : Nat) : Int)) = _; rw [wrap3]; exact hb_, zBM _⟩⟩⟩
   ·try simp only [nqs] at hb33
    have hge : y = t.arms.length := by omega
    rw [List.drop_of_length_le (by omega), nAs] at hb_
    refine zv ?_
    refine hK14 _ _ ?_
    refine zB fun _ hK23 => ?_
    refine rp0 hst9 hfr9 (.cons rfl (zC rfl) <| .cons rfl (zD rfl) <| .nil) fun a10 w10 m10 hst10 hle10 hk10 => ?_
    have hfr10 := hk10.fr (.o 5 <| .o 32 <| .o 19 <| .n 4 <| .nil)
    clear hst9 hfr9 hk10
    refine hK23 _ _ ?_
    refine zN ?_
    repeat (with_reducible first | refine zH ?_ | refine zG ?_)
    exact zO hst10 hfr10 rfl (.tmp rfl <| .nil) (by refine congrArg (Value.int _) ?_; exact count_end ha0 ha ha1 hb_ hb1 hce)
 ·have hlj4 : MLe m2 m2 := MLe.refl _
  refine zB fun _ hK25 => ?_
  refine rp0 hst2 hfr2 (.cons rfl (zA (off := 0) rfl underlying25 rfl rfl sizeOf3 rfl) <| .cons rfl (zJ rfl hc2 isAgg3 rfl) <| .cons rfl (zC rfl) <| .cons rfl (zS rfl rfl) <| .nil) fun a3 w3 m3 hst3 hle3 hk3 => ?_
  have hfr3 := hk3.fr (.o 1 <| .o 2 <| .o 5 <| .n 13 <| .nil)
  clear hst2 hfr2 hk3
  refine hK25 _ _ ?_
  refine zE hfr3 rfl rfl (fun hb13 => ?_) (fun hb13 => ?_)
  ·try simp only [nqs] at hb13
   refine rp0 hst3 hfr3 (.cons rfl (zC rfl) <| .cons rfl (z6 rfl rfl ⟨by omega, by omega⟩) <| .cons rfl (zD rfl) <| .nil) fun a4 w4 m4 hst4 hle4 hk4 => ?_
   have hfr4 := hk4.fr (.o 1 <| .o 2 <| .n 5 <| .nil)
   clear hst3 hfr3 hk4
   rw [show (0 : Int) + 1 = 1 by decide] at hfr4
   repeat (with_reducible first | refine Zi ?_ | refine ZT ?_ | refine ZD ?_)
   have zq17 := hle3.trans hle4
   replace hlj4 := hlj4.trans zq17
   exact hj4 ((1 : Int)) _ _ _ ⟨hst4, hlj4, hfr4.sub (.c <| .c <| .c <| .nil), (by rw [if_pos hb13])⟩
  ·try simp only [nqs] at hb13
   refine zR ?_
   repeat (with_reducible first | refine Zi ?_ | refine ZT ?_ | refine ZD ?_)
   replace hlj4 := hlj4.trans hle3
   exact hj4 ((0 : Int)) _ _ _ ⟨hst3, hlj4, hfr3.sub (.c <| .c <| .c <| .nil), (by rw [if_neg hb13])⟩
theorem ccount_c (t : Cd) : zCw t := Cd.rec_ (p := zCw) (fun t ihk iha => ccount_s ihk iha) t
end Go.Proofs.Ytnppknioifgdfaa
namespace Go.Proofs.Ytnppknioifgdfaa
open Go.Proofs.Try
set_option linter.all false
set_option maxRecDepth 4000
open Go.RowKit
abbrev lets_G (t : Cd) : Prop := ∀ {w : World} {m : Mem} {vs_t : List Value} (hA : Agree w m) (h_t : CdR m t vs_t) (hb : zAH t ≤ 1000), FnV Try.prog 27 #[.agg vs_t.toArray] w m (fun _ m v => (MP.cd (z0 t)).p m v)
set_option maxHeartbeats 3200000 in
theorem lets_s {t : Cd} (ihk : ∀ u ∈ t.kids, lets_G u) (iha : ∀ a ∈ t.arms, lets_G a.body) {w : World} {m : Mem} {vs_t : List Value} (hA : Agree w m) (h_t : CdR m t vs_t) (hb : zAH t ≤ 1000) : FnV Try.prog 27 #[.agg vs_t.toArray] w m (fun _ m v => (MP.cd (z0 t)).p m v) := by
 obtain ⟨⟨oK_t, cK_t, oA_t, cA_t⟩, rfl, ⟨hik_t, hin_t⟩, hkk_t, haa_t⟩ := h_t.open_
 dsimp only at hkk_t haa_t
 have hbg_t := hkk_t.big; have hcp_t := hkk_t.cap; have hbh_t := haa_t.big; have hcq_t := haa_t.cap
 refine zZ (vs := [_]) func27 rfl rfl rfl fun a0 hfr0 => ?_
 have hst0 := zW hA (zg [] _ w m)
 have hM : MLe m m := MLe.refl m
 have hce := zBD t
 have hkl := zDW t.kids
 have hal := cntLa_len t.arms
 refine zB fun _ hK1 => ?_
 replace hst0 := hst0.more (r := .free) trivial List.nodup_nil (by simp [Res.blocks])
 replace hst0 := hst0.more (r := .free) trivial List.nodup_nil (by simp [Res.blocks])
 refine ra0 (tch := [(0, 0, (fun v => .blk v _)), (1, 1, (fun v => .blk v _))]) hst0 hfr0 (.consT rfl rfl (fun _ => rfl) rfl (zEB rfl rfl) <| .consT rfl rfl (fun _ => rfl) rfl (zP zeroValue25 rfl) <| .nil) fun a1 w1 m1 hst1 hle1 hk1 => ?_
 have hfr1 := hk1.fr (.nil)
 obtain ⟨g1, e2, _⟩ := hk1.ex 1 rfl
 replace hfr1 := hfr1.cons e2
 obtain ⟨g2, e3, _⟩ := hk1.ex 2 rfl
 replace hfr1 := hfr1.cons e3
 replace hst1 := hst1.fin (L' := [_, _]) (.cons e2 <| .cons e3 <| .nil)
 replace hkk_t := hkk_t.mono hle1
 replace haa_t := haa_t.mono hle1
 clear hst0 hfr0 hk1
 refine hK1 _ _ ?_
 refine join_any (T := [(1, _), (2, _)]) (fun (y : Int) => ([] : List (Nat × Value))) (fun y => [.blk (.pointer (some ⟨g1, 0, none⟩)) (.cells (cdV ⟨y, t.name, t.param, t.n, t.kids, t.arms⟩ ⟨oK_t, cK_t, oA_t, cA_t⟩).toArray 25), _]) (fun (y : Int) m => (fun (kk : Int) => (kk = (if t.kind = 8 then 7 else t.kind))) y) ((t.kind)) ⟨hst1, MLe.refl _, hfr1.sub (.c <| .c <| .nil), trivial⟩ (fun y a2 w2 m2 hh2 => ?_) (fun K4 hj4 => ?_)
 ·have hst2 := hh2.st; have hle2 := hh2.le; have hfr2 := hh2.fr; have hrel := hh2.rel; clear hh2
  clear hst1 hfr1
  obtain ⟨kk, rfl⟩ : ∃ z, z = y := ⟨_, rfl⟩
  try dsimp only at hrel
  try dsimp only at hfr2
  try dsimp only at hst2
  have hkk9 := hrel
  subst hkk9
  refine zB fun _ hK5 => ?_
  replace hst2 := hst2.more (r := .free) trivial List.nodup_nil (by simp [Res.blocks])
  replace hkk_t := hkk_t.mono hle2
  refine ra0 (tch := [(3, 2, (fun v => .mrowx v _ _ _ _)), (5, 0, (fun u => .blk _ (.cells (_ ++ [u] ++ _).toArray _)))]) hst2 hfr2 (.cons rfl (Zx underlying22 sizeOf25) <| .cons rfl (zA (off := 4) rfl underlying25 rfl rfl sizeOf22 rfl) <| .cons rfl (zK (j := 0) rfl rfl isAgg22 rfl) <| .consT rfl rfl (fun _ => rfl) rfl (zb 9 rfl rfl rfl fun y9 => zDr (size := 6) (bytes := 96) rfl rfl underlying22 type25 rfl rfl rfl rfl (fun w m hK => hkk_t.mono (KC.le hK)) (by decide) (by simp only [maxLen]; omega) (by omega)) <| .cons rfl (zA (off := 4) rfl underlying25 rfl rfl sizeOf22 rfl) <| .consT rfl rfl (fun _ => rfl) rfl (zb 12 rfl rfl rfl fun y12 => zAj rfl rfl rfl rfl rfl sizeOf22 rfl rfl rfl) <| .nil) fun a3 w3 m3 hst3 hle3 hk3 => ?_
  have hfr3 := hk3.fr (.o 1 <| .o 2 <| .nil)
  obtain ⟨⟨oK, cK⟩, e6, hcK⟩ := hk3.ex 12 rfl
  replace hst3 := hst3.fin (L' := [_, _, _]) (.cons e6 <| .cons e6 <| .nil)
  try simp only [List.take_succ_cons, List.take_zero, List.drop_succ_cons, List.drop_zero, List.cons_append, List.nil_append, List.append_nil, List.length_cons, List.length_nil, Nat.zero_add, Nat.reduceAdd] at hst3
  clear hst2 hfr2 hk3
  refine hK5 _ _ ?_
  refine zB fun _ hK7 => ?_
  replace hst3 := hst3.more (r := .free) trivial List.nodup_nil (by simp [Res.blocks])
  have zq1 := hle2.trans hle3
  replace haa_t := haa_t.mono zq1
  refine ra0 (tch := [(3, 3, (fun v => .mrowx v _ _ _ _)), (5, 0, (fun u => .blk _ (.cells (_ ++ [u] ++ _).toArray _)))]) hst3 hfr3 (.cons rfl (Zx underlying23 sizeOf47) <| .cons rfl (zA (off := 5) rfl underlying25 rfl rfl sizeOf23 rfl) <| .cons rfl (zK (j := 0) rfl rfl isAgg23 rfl) <| .consT rfl rfl (fun _ => rfl) rfl (zb 14 rfl rfl rfl fun y14 => zDr (size := 9) (bytes := 144) rfl rfl underlying23 type47 rfl rfl rfl rfl (fun w m hK => haa_t.mono (KC.le hK)) (by decide) (by simp only [maxLen]; omega) (by omega)) <| .cons rfl (zA (off := 5) rfl underlying25 rfl rfl sizeOf23 rfl) <| .consT rfl rfl (fun _ => rfl) rfl (zb 17 rfl rfl rfl fun y17 => zAj rfl rfl rfl rfl rfl sizeOf23 rfl rfl rfl) <| .nil) fun a4 w4 m4 hst4 hle4 hk4 => ?_
  have hfr4 := hk4.fr (.o 1 <| .o 2 <| .nil)
  obtain ⟨⟨oA, cA⟩, e8, hcA⟩ := hk4.ex 17 rfl
  replace hst4 := hst4.fin (L' := [_, _, _, _]) (.cons e8 <| .cons e8 <| .nil)
  try simp only [List.take_succ_cons, List.take_zero, List.drop_succ_cons, List.drop_zero, List.cons_append, List.nil_append, List.append_nil, List.length_cons, List.length_nil, Nat.zero_add, Nat.reduceAdd] at hst4
  clear hst3 hfr3 hk4
  refine hK7 _ _ ?_
  refine zB fun _ hK9 => ?_
  refine zB fun _ hK10 => ?_
  refine rp0 hst4 hfr4 (.cons rfl (zD rfl) <| .nil) fun a5 w5 m5 hst5 hle5 hk5 => ?_
  have hfr5 := hk5.fr (.o 1 <| .o 2 <| .n 3 <| .nil)
  clear hst4 hfr4 hk5
  refine hK10 _ _ ?_
  refine zT ?_
  refine zx (T := [(1, _), (2, _)]) (fun (y : Nat × List Cd) => ([(3, .int .i64 (y.1 : Int))] : List (Nat × Value))) (fun y => [_, _, .mrowx (.slice oK t.kids.length cK) t.kids.length 6 25 (MP.reads (fun m vs t => CdR m t vs) 6 (y.2 ++ t.kids.drop y.1)), _]) (fun (y : Nat × List Cd) m => (fun (y : Nat) (dk : List Cd) => (y ≤ t.kids.length) ∧ (dk.length = y) ∧ (t.kids.map z0 = dk ++ (t.kids.drop y).map z0)) y.1 y.2) (fun y => t.kids.length - y.1) ((0, [])) ⟨hst5, MLe.refl _, hfr5.sub (.c <| .c <| .c <| .nil), ⟨Nat.zero_le _, rfl, rfl⟩⟩ fun y a6 w6 m6 hh6 => ?_
  have hst6 := hh6.st; have hle6 := hh6.le; have hfr6 := hh6.fr; have hrel := hh6.rel; clear hh6
  clear hst5 hfr5
  obtain ⟨y, dk⟩ := y
  dsimp only at hrel hfr6 hst6
  obtain ⟨hyn, hjl, hj1⟩ := hrel
  have hlh6 := hle6
  refine zB fun _ hK12 => ?_
  refine zB fun _ hK13 => ?_
  refine rp0 hst6 hfr6 (.cons rfl (zC rfl) <| .cons rfl (zA (off := 4) rfl underlying25 rfl rfl sizeOf22 rfl) <| .cons rfl (zK (j := 0) rfl rfl isAgg22 rfl) <| .cons rfl (zl rfl underlying22) <| .cons rfl (ZA rfl rfl) <| .nil) fun a7 w7 m7 hst7 hle7 hk7 => ?_
  have hfr7 := hk7.fr (.o 3 <| .o 1 <| .o 2 <| .n 23 <| .nil)
  clear hst6 hfr6 hk7
  refine hK13 _ _ ?_
  refine zE hfr7 rfl rfl (fun hb23 => ?_) (fun hb23 => ?_)
  ·try simp only [nqs] at hb23
   refine zR ?_
   refine hK12 _ _ ?_
   refine zB fun _ hK14 => ?_
   refine zT ?_
   obtain ⟨x9, hx9, hd9⟩ : ∃ x, t.kids[y]? = some x ∧ t.kids.drop y = x :: t.kids.drop (y + 1) := ⟨t.kids[y]'(by omega), List.getElem?_eq_getElem (by omega), List.drop_eq_getElem_cons (by omega)⟩
   have hm9 : x9 ∈ t.kids := List.mem_of_getElem? hx9
   rw [hd9] at hst7 hj1
   rw [List.map_cons] at hj1
   have hga9 : (dk ++ x9 :: t.kids.drop (y + 1))[y]? = some x9 := get_midY hjl
   have hcm9 := zCU hm9
   obtain ⟨gK, hgK⟩ := MP.made_some (hst7.loc.at_ (k := 2) rfl) (by omega)
   subst hgK
   refine zc (tch := [(10, 2, (fun _ => .mrowx _ _ _ _ _))]) (fun _ => zw) hst7 hfr7 (by kernel_rfl) (by kernel_rfl) (by kernel_rfl) (.cons rfl (zA (off := 4) rfl underlying25 rfl rfl sizeOf22 rfl) <| .cons rfl (zK (j := 0) rfl rfl isAgg22 rfl) <| .cons rfl (zC rfl) <| .cons rfl (zA (off := 4) rfl underlying25 rfl rfl sizeOf22 rfl) <| .cons rfl (zK (j := 0) rfl rfl isAgg22 rfl) <| .cons rfl (zC rfl) <| .cons rfl (zI (k := y) rfl rfl underlying22 sizeOf25 rfl (by omega)) <| .cons rfl (ob_loadMX (R := (fun m vs t => CdR m t vs)) (i := y) (j := 2) (l := dk ++ x9 :: t.kids.drop (y + 1)) rfl rfl isAgg25 sizeOf25 hga9 (by decide)) <| .cons rfl (zAf 33 rfl rfl rfl fun y33 => zm (φ := MP.cd (z0 x9)) rfl (.cons rfl <| .nil) call27 (fun w m hK => by have hle_ := KC.le hK; have hA := KC.agree hK; have hr0_ := hK.2; exact FnG.mono (ihk _ hm9 hA hr0_ (by omega)) fun _ _ _ _ h => h)) <| .cons rfl (zI (k := y) rfl rfl underlying22 sizeOf25 rfl (by omega)) <| .consT rfl rfl (fun _ => rfl) rfl (zb 34 rfl rfl rfl fun y34 => zBe (R := (fun m vs t => CdR m t vs)) (i := y) (off := 0) (l := dk ++ x9 :: t.kids.drop (y + 1)) (b := z0 x9) (ws := cdV (z0 x9) y34) rfl rfl rfl sizeOf25 hga9 (by decide) (by show 0 + 6 ≤ 6; omega) (fun w m hK vs hv _ => by rw [zFG (by rw [hv]; rfl)]; exact hK.2) (fun w m hK => hK.2.one)) <| .nil) fun a8 w8 m8 hst8 hle8 hk8 => ?_
   have hfr8 := hk8.fr (.o 3 <| .o 1 <| .o 2 <| .nil)
   replace hst8 := hst8.fin (L' := [_, _, _, _]) (.cons rfl <| .nil)
   try simp only [List.take_succ_cons, List.take_zero, List.drop_succ_cons, List.drop_zero, List.cons_append, List.nil_append, List.append_nil, List.length_cons, List.length_nil, Nat.zero_add, Nat.reduceAdd] at hst8
   clear hst7 hfr7 hk8
   rw [set_midY hjl] at hst8
   refine hK14 _ _ ?_
   refine rp0 hst8 hfr8 (.cons rfl (zC rfl) <| .cons rfl (z6 rfl rfl ⟨by omega, by omega⟩) <| .cons rfl (zD rfl) <| .nil) fun a9 w9 m9 hst9 hle9 hk9 => ?_
   have hfr9 := hk9.fr (.o 1 <| .o 2 <| .n 3 <| .nil)
   clear hst8 hfr8 hk9
   have zq2 := hle8.trans hle9
   have zq3 := hle7.trans zq2
   have hlh9 := hlh6.trans zq3
   exact ⟨(y + 1, (dk ++ [z0 x9])), m9, by show t.kids.length - (y + 1) < t.kids.length - y; omega, ⟨hst9, hlh9, hfr9.sub (.c <| .c <| .c <| .nil), ⟨by show y + 1 ≤ t.kids.length; omega, by show (dk ++ [_]).length = y + 1; rw [List.length_append, hjl]; rfl, by rw [hj1]; simp⟩⟩⟩
  ·try simp only [nqs] at hb23
   have hge : y = t.kids.length := by omega
   rw [List.drop_of_length_le (by omega), List.map_nil, List.append_nil] at hj1
   rw [List.drop_of_length_le (by omega), List.append_nil] at hst7
   have hgeK := hge
   clear hge
   refine zv ?_
   refine hK9 _ _ ?_
   refine zB fun _ hK15 => ?_
   refine zB fun _ hK16 => ?_
   refine rp0 hst7 hfr7 (.cons rfl (zD rfl) <| .nil) fun a8 w8 m8 hst8 hle8 hk8 => ?_
   have hfr8 := hk8.fr (.o 3 <| .o 1 <| .o 2 <| .n 4 <| .nil)
   clear hst7 hfr7 hk8
   refine hK16 _ _ ?_
   refine zT ?_
   have zq4 := hle7.trans hle8
   have hlh8 := hlh6.trans zq4
   have hlq17 := hlh8
   refine zx (T := [(3, _), (1, _), (2, _)]) (fun (y : Nat × List Ca) => ([(4, .int .i64 (y.1 : Int))] : List (Nat × Value))) (fun y => [_, _, _, .mrowx (.slice oA t.arms.length cA) t.arms.length 9 47 (MP.reads (fun m vs t => CaR m t vs) 9 (y.2 ++ t.arms.drop y.1))]) (fun (y : Nat × List Ca) m => (fun (y : Nat) (da : List Ca) => (y ≤ t.arms.length) ∧ (da.length = y) ∧ (t.arms.map zAM = da ++ (t.arms.drop y).map zAM)) y.1 y.2) (fun y => t.arms.length - y.1) ((0, [])) ⟨hst8, MLe.refl _, hfr8.sub (.c <| .c <| .c <| .c <| .nil), ⟨Nat.zero_le _, rfl, rfl⟩⟩ fun y a9 w9 m9 hh9 => ?_
   have hst9 := hh9.st; have hle9 := hh9.le; have hfr9 := hh9.fr; have hrel := hh9.rel; clear hh9
   clear hst8 hfr8
   obtain ⟨y, da⟩ := y
   dsimp only at hrel hfr9 hst9
   obtain ⟨hyn, hil, hi1⟩ := hrel
   have hlh9 := hle9
   refine zB fun _ hK18 => ?_
   refine zB fun _ hK19 => ?_
   refine rp0 hst9 hfr9 (.cons rfl (zC rfl) <| .cons rfl (zA (off := 5) rfl underlying25 rfl rfl sizeOf23 rfl) <| .cons rfl (zK (j := 0) rfl rfl isAgg23 rfl) <| .cons rfl (zl rfl underlying23) <| .cons rfl (ZA rfl rfl) <| .nil) fun a10 w10 m10 hst10 hle10 hk10 => ?_
   have hfr10 := hk10.fr (.o 4 <| .o 3 <| .o 1 <| .o 2 <| .n 40 <| .nil)
   clear hst9 hfr9 hk10
   refine hK19 _ _ ?_
   refine zE hfr10 rfl rfl (fun hb40 => ?_) (fun hb40 => ?_)
   ·try simp only [nqs] at hb40
    refine zR ?_
    refine hK18 _ _ ?_
    refine zB fun _ hK20 => ?_
    refine zT ?_
    obtain ⟨a9, ha9, hd9⟩ : ∃ x, t.arms[y]? = some x ∧ t.arms.drop y = x :: t.arms.drop (y + 1) := ⟨t.arms[y]'(by omega), List.getElem?_eq_getElem (by omega), List.drop_eq_getElem_cons (by omega)⟩
    have hm9 : a9 ∈ t.arms := List.mem_of_getElem? ha9
    rw [hd9] at hst10 hi1
    rw [List.map_cons] at hi1
    have hga9 : (da ++ a9 :: t.arms.drop (y + 1))[y]? = some a9 := get_midY hil
    have hcm9 := zCS hm9
    obtain ⟨gA, hgA⟩ := MP.made_some (hst10.loc.at_ (k := 3) rfl) (by omega)
    subst hgA
    refine zc (tch := [(12, 3, (fun _ => .mrowx _ _ _ _ _))]) (fun _ => zw) hst10 hfr10 (by kernel_rfl) (by kernel_rfl) (by kernel_rfl) (.cons rfl (zA (off := 5) rfl underlying25 rfl rfl sizeOf23 rfl) <| .cons rfl (zK (j := 0) rfl rfl isAgg23 rfl) <| .cons rfl (zC rfl) <| .cons rfl (zA (off := 5) rfl underlying25 rfl rfl sizeOf23 rfl) <| .cons rfl (zK (j := 0) rfl rfl isAgg23 rfl) <| .cons rfl (zC rfl) <| .cons rfl (zI (k := y) rfl rfl underlying23 sizeOf47 rfl (by omega)) <| .cons rfl (zA (off := 3) rfl underlying47 rfl rfl sizeOf25 rfl) <| .cons rfl (ob_loadMXS (R := (fun m vs t => CaR m t vs)) (i := y) (off := 3) (k := 6) (j := 3) (l := da ++ a9 :: t.arms.drop (y + 1)) (φ := MP.cdS a9.body) (by rw [← zAs]; rfl) rfl isAgg25 sizeOf25 hga9 (by decide) (by decide) (fun m vs h => ca_sel h)) <| .cons rfl (zAf 51 rfl rfl rfl fun y51 => zm (φ := MP.cd (z0 a9.body)) rfl (.cons rfl <| .nil) call27 (fun w m hK => by have hle_ := KC.le hK; have hA := KC.agree hK; have hr0_ := hK.2; exact FnG.mono (iha _ hm9 hA hr0_ (by omega)) fun _ _ _ _ h => h)) <| .cons rfl (zI (k := y) rfl rfl underlying23 sizeOf47 rfl (by omega)) <| .cons rfl (zA (off := 3) rfl underlying47 rfl rfl sizeOf25 rfl) <| .consT rfl rfl (fun _ => rfl) rfl (zb 52 rfl rfl rfl fun y52 => zBe (R := (fun m vs t => CaR m t vs)) (i := y) (off := 3) (l := da ++ a9 :: t.arms.drop (y + 1)) (b := zAM a9) (ws := cdV (z0 a9.body) y52) (by rw [← zAs]; rfl) rfl rfl sizeOf25 hga9 (by decide) (by show 3 + 6 ≤ 9; omega) (fun w m hK vs hv h => ca_body h hK.2) (fun w m hK => hK.2.one)) <| .nil) fun a11 w11 m11 hst11 hle11 hk11 => ?_
    have hfr11 := hk11.fr (.o 4 <| .o 3 <| .o 1 <| .o 2 <| .nil)
    replace hst11 := hst11.fin (L' := [_, _, _, _]) (.cons rfl <| .nil)
    try simp only [List.take_succ_cons, List.take_zero, List.drop_succ_cons, List.drop_zero, List.cons_append, List.nil_append, List.append_nil, List.length_cons, List.length_nil, Nat.zero_add, Nat.reduceAdd] at hst11
    clear hst10 hfr10 hk11
    rw [set_midY hil] at hst11
    refine hK20 _ _ ?_
    refine rp0 hst11 hfr11 (.cons rfl (zC rfl) <| .cons rfl (z6 rfl rfl ⟨by omega, by omega⟩) <| .cons rfl (zD rfl) <| .nil) fun a12 w12 m12 hst12 hle12 hk12 => ?_
    have hfr12 := hk12.fr (.o 3 <| .o 1 <| .o 2 <| .n 4 <| .nil)
    clear hst11 hfr11 hk12
    have zq5 := hle11.trans hle12
    have zq6 := hle10.trans zq5
    have hlh12 := hlh9.trans zq6
    exact ⟨(y + 1, (da ++ [zAM a9])), m12, by show t.arms.length - (y + 1) < t.arms.length - y; omega, ⟨hst12, hlh12, hfr12.sub (.c <| .c <| .c <| .c <| .nil), ⟨by show y + 1 ≤ t.arms.length; omega, by show (da ++ [_]).length = y + 1; rw [List.length_append, hil]; rfl, by rw [hi1]; simp⟩⟩⟩
   ·try simp only [nqs] at hb40
    have hge : y = t.arms.length := by omega
    rw [List.drop_of_length_le (by omega), List.map_nil, List.append_nil] at hi1
    rw [List.drop_of_length_le (by omega), List.append_nil] at hst10
    refine zv ?_
    refine hK15 _ _ ?_
    refine zB fun _ hK21 => ?_
    obtain ⟨m11, hle11, hst11, oX_K, cX_K, eX_K, hsl_K⟩ := hst10.freezeX (k := 2) rfl (hjl.trans hgeK) (by decide) (by omega)
    simp only [List.set_cons_succ, List.set_cons_zero] at hst11
    injection eX_K with eX1_K _ eX2_K; subst eX1_K; subst eX2_K
    have hfr11 := hfr10; obtain ⟨a11, rfl⟩ : ∃ a, a = a10 := ⟨_, rfl⟩; obtain ⟨w11, rfl⟩ : ∃ w, w = w10 := ⟨_, rfl⟩
    clear hst10 hfr10
    replace hsl_K : Cds m11 oK t.kids.length cK dk := hsl_K
    obtain ⟨m12, hle12, hst12, oX_A, cX_A, eX_A, hsl_A⟩ := hst11.freezeX (k := 3) rfl (hil.trans hge) (by decide) (by omega)
    simp only [List.set_cons_succ, List.set_cons_zero] at hst12
    injection eX_A with eX1_A _ eX2_A; subst eX1_A; subst eX2_A
    have hfr12 := hfr11; obtain ⟨a12, rfl⟩ : ∃ a, a = a11 := ⟨_, rfl⟩; obtain ⟨w12, rfl⟩ : ∃ w, w = w11 := ⟨_, rfl⟩
    clear hst11 hfr11
    replace hsl_A : Cas m12 oA t.arms.length cA da := hsl_A
    have hfin : z0 t = ⟨(if t.kind = 8 then 7 else t.kind), t.name, t.param, t.n, dk, da⟩ := by rw [zAw, hj1, hi1]
    replace hsl_K := hsl_K.mono hle12
    have hout : CdR m12 (z0 t) (cdV ⟨(if t.kind = 8 then 7 else t.kind), t.name, t.param, t.n, t.kids, t.arms⟩ ⟨oK, cK, oA, cA⟩) := by rw [hfin]; have h9 := CdR.build (t := ⟨(if t.kind = 8 then 7 else t.kind), t.name, t.param, t.n, dk, da⟩) (y := ⟨oK, cK, oA, cA⟩) (by show zo (if t.kind = 8 then 7 else t.kind); split; exact ⟨by decide, by decide⟩; exact hik_t) hin_t (by show Cds _ oK dk.length cK dk; rw [hjl, hgeK]; exact hsl_K) (by show Cas _ oA da.length cA da; rw [hil, hge]; exact hsl_A); simp only [cdV, Cd.kids, Cd.arms, hjl, hil, hge, hgeK] at h9 ⊢; exact h9
    have htv : cdV (z0 t) ⟨oK, cK, oA, cA⟩ = cdV ⟨(if t.kind = 8 then 7 else t.kind), t.name, t.param, t.n, t.kids, t.arms⟩ ⟨oK, cK, oA, cA⟩ := by rw [hfin]; simp only [cdV, Cd.kind, Cd.name, Cd.param, Cd.n, Cd.kids, Cd.arms, hjl, hil, hge, hgeK]
    refine ra0 (tch := [(1, 1, (fun _ => .blk _ _))]) hst12 hfr12 (.cons rfl (zh (j := 0) rfl rfl isAgg25 sizeOf25 rfl) <| .consT rfl rfl (fun _ => rfl) rfl (ze rfl rfl rfl sizeOf25 rfl rfl hout.one) <| .nil) fun a13 w13 m13 hst13 hle13 hk13 => ?_
    have hfr13 := hk13.fr (.o 4 <| .o 3 <| .o 2 <| .nil)
    replace hst13 := hst13.fin (L' := [_, _, _, _]) (.cons rfl <| .nil)
    try simp only [List.take_succ_cons, List.take_zero, List.drop_succ_cons, List.drop_zero, List.cons_append, List.nil_append, List.append_nil, List.length_cons, List.length_nil, Nat.zero_add, Nat.reduceAdd] at hst13
    clear hst12 hfr12 hk13
    refine hK21 _ _ ?_
    refine zN ?_
    repeat (with_reducible first | refine zH ?_ | refine zG ?_)
    replace hout := hout.mono hle13
    exact zO hst13 hfr13 rfl (.cell rfl (zi (zf (hst13.loc.at_ (k := 1) rfl)) isAgg25 sizeOf25) <| .nil) (⟨⟨oK, cK, oA, cA⟩, by show Value.agg _ = Value.agg (cdV (z0 t) ⟨oK, cK, oA, cA⟩).toArray; rw [htv], by show CdR _ (z0 t) (cdV (z0 t) ⟨oK, cK, oA, cA⟩); rw [htv]; exact hout⟩)
 ·have hlj4 : MLe m1 m1 := MLe.refl _
  refine zB fun _ hK23 => ?_
  refine rp0 hst1 hfr1 (.cons rfl (zA (off := 0) rfl underlying25 rfl rfl sizeOf3 rfl) <| .cons rfl (zK (j := 0) rfl rfl isAgg3 rfl) <| .cons rfl (zS rfl rfl) <| .nil) fun a2 w2 m2 hst2 hle2 hk2 => ?_
  have hfr2 := hk2.fr (.o 1 <| .o 2 <| .n 7 <| .nil)
  clear hst1 hfr1 hk2
  refine hK23 _ _ ?_
  refine zE hfr2 rfl rfl (fun hb7 => ?_) (fun hb7 => ?_)
  ·try simp only [nqs] at hb7
   refine ra0 (tch := [(1, 0, (fun _ => .blk _ _))]) hst2 hfr2 (.cons rfl (zA (off := 0) rfl underlying25 rfl rfl sizeOf3 rfl) <| .consT rfl rfl (fun _ => rfl) rfl (z1 rfl rfl rfl sizeOf3 rfl rfl rfl) <| .nil) fun a3 w3 m3 hst3 hle3 hk3 => ?_
   have hfr3 := hk3.fr (.o 1 <| .o 2 <| .nil)
   replace hst3 := hst3.fin (L' := [_, _]) (.cons rfl <| .nil)
   try simp only [List.take_succ_cons, List.take_zero, List.drop_succ_cons, List.drop_zero, List.cons_append, List.nil_append, List.append_nil, List.length_cons, List.length_nil, Nat.zero_add, Nat.reduceAdd] at hst3
   clear hst2 hfr2 hk3
   repeat (with_reducible first | refine Zi ?_ | refine ZT ?_ | refine ZD ?_)
   have zq7 := hle2.trans hle3
   replace hlj4 := hlj4.trans zq7
   exact hj4 ((7 : Int)) _ _ _ ⟨hst3, hlj4, hfr3.sub (.c <| .c <| .nil), (by rw [if_pos (by omega)])⟩
  ·try simp only [nqs] at hb7
   refine zR ?_
   repeat (with_reducible first | refine Zi ?_ | refine ZT ?_ | refine ZD ?_)
   replace hlj4 := hlj4.trans hle2
   exact hj4 (t.kind) _ _ _ ⟨hst2, hlj4, hfr2.sub (.c <| .c <| .nil), (by rw [if_neg (by omega)])⟩
theorem lets_c (t : Cd) : lets_G t := Cd.rec_ (p := lets_G) (fun t ihk iha => lets_s ihk iha) t
end Go.Proofs.Ytnppknioifgdfaa
namespace Go.Proofs.Ytnppknioifgdfaa
set_option linter.all false
set_option maxRecDepth 4000
open Go.RowKit
abbrev askN (n : Int) : Cd := ⟨14, [103, 101, 116], [], 0, [zDz n], []⟩
abbrev letN (n : Int) : Cd := ⟨7, [97], [], 0, [askN n, zDC [97]], []⟩
abbrev armL : Ca := ⟨[103, 101, 116], [[120], [107]], false, zDC [120]⟩
abbrev proN (n : Int) : Cd := ⟨15, [69], [], 0, [letN n], [zEv, armL]⟩
theorem run_let (n : Int) : runR (proN n) efs [] 100 = some ⟨4, VT.z, [], 3, 0⟩ := by kernel_rfl
theorem nK_le (k : Int) : ∀ t : Cd, nK k t ≤ zAH t := by
 refine Cd.rec_ fun t ihk iha => ?_
 rw [nK_eq, zBD]
 have h1 : ∀ l : List Cd, (∀ u ∈ l, nK k u ≤ zAH u) → nKs k l ≤ zAP l := fun l => by
  induction l with
  | nil => intro _; simp [nKs]
  | cons u l ih => intro h; rw [nKs, zAP]; have := h u (.head _); have := ih fun x hx => h x (.tail _ hx); omega
 have h2 : ∀ l : List Ca, (∀ a ∈ l, nK k a.body ≤ zAH a.body) → nAs k l ≤ zBo l := fun l => by
  induction l with
  | nil => intro _; simp [nAs]
  | cons u l ih => intro h; rw [zFJ, zBf]; have := h u (.head _); have := ih fun x hx => h x (.tail _ hx); omega
 have := h1 t.kids ihk; have := h2 t.arms iha
 split <;> omega
theorem lets_few {c : Cd} (h1 : ¬ 200 < ((min (zAH c) 501 : Nat) : Int)) (h2 : ¬ 0 < IntKind.i64.wrap (nK 14 c : Int)) : nK 14 c = 0 ∧ zAH c ≤ 1000 := by
 have h3 := nK_le 14 c
 have h4 : zAH c ≤ 200 := by omega
 rw [zDE ⟨by omega, by omega⟩] at h2
 omega
end Go.Proofs.Ytnppknioifgdfaa
namespace Go.Proofs.Ytnppknioifgdfaa
open Go.Proofs.Try
set_option linter.all false
set_option maxRecDepth 4000
open Go.RowKit
set_option maxHeartbeats 12800000 in
theorem machineLets_c {w : World} {m : Mem} {c : Cd} {vs_c : List Value} {o_l : Option Addr} {c_l : Nat} {l : List Int} {n : Int} (hA : Agree w m) (h_c : CdR m c vs_c) (h_l : Ints m o_l l.length c_l l) (hi : ∀ x ∈ l, zo x) (hn : zo n) : FnV Try.prog 11 #[.agg vs_c.toArray, .slice o_l l.length c_l, .int .i64 n] w m (fun _ _ v => v = .bool true) := by
 obtain ⟨⟨oK_c, cK_c, oA_c, cA_c⟩, rfl, ⟨hik_c, hin_c⟩, hkk_c, haa_c⟩ := h_c.open_
 dsimp only at hkk_c haa_c
 have hbg_c := hkk_c.big; have hcp_c := hkk_c.cap; have hbh_c := haa_c.big; have hcq_c := haa_c.cap
 have hb_l := h_l.big; have hc_l := h_l.cap
 refine zZ (vs := [_, _, _]) func11 rfl rfl rfl fun a0 hfr0 => ?_
 have hst0 := zW hA (zg [] _ w m)
 have hM : MLe m m := MLe.refl m
 refine zB fun _ hK1 => ?_
 refine rp0 hst0 hfr0 (.cons rfl (zr rfl rfl) <| .cons rfl (zD rfl) <| .nil) fun a1 w1 m1 hst1 hle1 hk1 => ?_
 have hfr1 := hk1.fr (.o 1 <| .o 2 <| .nil)
 obtain ⟨g2, e2, hc3⟩ := hk1.ex 3 rfl
 replace hfr1 := hfr1.cons e2
 replace h_c := h_c.mono hle1
 replace h_l := h_l.mono hle1
 clear hst0 hfr0 hk1
 refine hK1 _ _ ?_
 refine zB fun _ hK3 => ?_
 refine rp0 hst1 hfr1 (.cons rfl (zX rfl (.nil) call12 (fun w m hK => by have hle_ := KC.le hK; have hA := KC.agree hK; exact shown_c hA)) <| .cons rfl (zD rfl) <| .nil) fun a2 w2 m2 hst2 hle2 hk2 => ?_
 have hfr2 := hk2.fr (.o 1 <| .o 2 <| .o 3 <| .n 7 <| .nil)
 replace h_c := h_c.mono hle2
 replace h_l := h_l.mono hle2
 replace hc3 := hc3.mono hle2
 clear hst1 hfr1 hk2
 refine hK3 _ _ ?_
 refine zB fun _ hK4 => ?_
 refine z7 5 (by kernel_rfl) ?_
 refine zq (tch := []) hst2 hfr2 (by kernel_rfl) (by kernel_rfl) (by kernel_rfl) (.cons rfl (Zx underlying26 sizeOf3) <| .cons rfl (zC rfl) <| .cons rfl (zC rfl) <| .cons rfl (zl rfl underlying26) <| .cons rfl (ob_min2 rfl rfl) <| .nil) fun a3 w3 m3 hst3 hle3 hk3 => ?_
 have hfr3 := hk3.fr (.o 1 <| .o 2 <| .o 3 <| .o 7 <| .n 16 <| .n 19 <| .nil)
 obtain ⟨y5, e5, hy5⟩ := hk3.ex 15 rfl
 replace hfr3 := hfr3.cons e5
 replace h_c := h_c.mono hle3
 replace h_l := h_l.mono hle3
 replace hc3 := hc3.mono hle3
 clear hst2 hfr2 hk3
 rw [show (if (50 : Int) < (l.length : Int) then (50 : Int) else (l.length : Int)) = ((min l.length 50 : Nat) : Int) by split <;> omega] at hfr3
 have hct6 : Ints _ _ _ _ ((l.take ((min l.length 50))).drop (0)) := h_l.cut (l := 0) (k := (min l.length 50)) (by omega) (by omega)
 have hcl6 : ((min l.length 50)) - (0) = (((l.take ((min l.length 50))).drop (0))).length := hct6.len.symm
 have hcu6 : Ints _ _ _ _ ((l.take ((min l.length 50))).drop (0)) := hct6.lenL
 obtain ⟨cs_7, hrw_7, hrd_7, hcl_7⟩ := hct6.reads
 replace hst3 := hst3.more (r := .free) trivial List.nodup_nil (by simp [Res.blocks])
 refine zq (tch := [(1, 0, (fun v => .row (nz v) _ _ _ _))]) hst3 hfr3 (by kernel_rfl) (by kernel_rfl) (by kernel_rfl) (.cons rfl (zAW (l := 0) (h := (min l.length 50)) rfl .none (.some rfl (by omega)) underlying26 sizeOf3 (by first | omega | (dsimp only; omega)) (by first | omega | (dsimp only; omega))) <| .consT rfl rfl (fun _ => rfl) rfl (zCk (size := 1) (bytes := 8) rfl rfl (fun _ => .inr ⟨rfl, rfl, rfl, rfl⟩) underlying26 type3 rfl rfl rfl rfl (fun w m hK => hrw_7.mono (KC.le hK)) hcl_7 (by decide) hrd_7.one (by simp only [maxLen]; omega) (by omega)) <| .consA 21 rfl rfl <| .nil) fun a4 w4 m4 hst4 hle4 hk4 => ?_
 have hfr4 := hk4.fr (.o 2 <| .o 3 <| .o 7 <| .o 16 <| .o 19 <| .o 15 <| .nil)
 obtain ⟨⟨oz7, cz7⟩, e8, hrz7, hcz7⟩ := hk4.ex 21 rfl
 replace e8 : zV a4 21 = .slice oz7 (((l.take ((min l.length 50))).drop (0))).length cz7 := by rw [e8]; refine congrArg (fun q => Value.slice _ q _) ?_; first | omega | (simp only [List.length_append, List.length_cons, List.length_nil, List.nil_append, List.length_take, List.length_drop]; try omega)
 replace hfr4 := hfr4.cons e8
 replace hfr4 := hfr4.cons (hk4.same 1 rfl e8)
 replace hst4 := hst4.fin (L' := [_]) (.cons e8 <| .nil)
 replace h_c := h_c.mono hle4
 replace hc3 := hc3.mono hle4
 replace hrd_7 := hrd_7.mono hle4
 clear hst3 hfr3 hk4
 have hsz7 : Ints m4 oz7 (((l.take ((min l.length 50))).drop (0))).length cz7 ((l.take ((min l.length 50))).drop (0)) := Reads.sl (Reads.nil.app hrd_7) hrz7 (by decide) rfl (by have h := hcz7; first | omega | (simp only [List.length_append, List.length_cons, List.length_nil, List.nil_append, List.length_take, List.length_drop] at h ⊢; omega)) (by first | omega | (simp only [List.length_append, List.length_cons, List.length_nil, List.nil_append, List.length_take, List.length_drop]; omega))
 obtain ⟨lx, hlx⟩ : ∃ q, (l.take (min l.length 50)).drop 0 = q := ⟨_, rfl⟩
 have hlx9 : lx.length ≤ 1000000 := by rw [← hlx]; simp; omega
 have hix9 : ∀ x ∈ lx, zo x := fun x hx => hi x (by rw [← hlx] at hx; exact List.mem_of_mem_take (List.mem_of_mem_drop hx))
 have hsI : Ints m4 oz7 lx.length cz7 lx := by rw [← hlx]; exact hsz7
 rw [hlx] at hfr4
 refine hK4 _ _ ?_
 refine zB fun _ hK9 => ?_
 refine z7 3 (by kernel_rfl) ?_
 refine zq (tch := []) hst4 hfr4 (by kernel_rfl) (by kernel_rfl) (by kernel_rfl) (.cons rfl (zC rfl) <| .cons rfl (zX rfl (.cons rfl <| .nil) call19 (fun w m hK => by have hle_ := KC.le hK; have hA := KC.agree hK; exact lnum_c (n := n) hA)) <| .cons rfl (ZV rfl underlying22 sizeOf25 zeroValue25 rfl rfl rfl rfl) <| .nil) fun a5 w5 m5 hst5 hle5 hk5 => ?_
 have hfr5 := hk5.fr (.o 2 <| .o 3 <| .o 7 <| .o 16 <| .o 19 <| .o 15 <| .o 1 <| .nil)
 obtain ⟨gA, e10, hA9⟩ := hk5.ex 24 rfl
 replace hfr5 := hfr5.cons e10
 replace h_c := h_c.mono hle5
 replace hc3 := hc3.mono hle5
 replace hsI := hsI.mono hle5
 clear hst4 hfr4 hk5
 have hask : CdR m5 (askN n) (cdV (askN n) ⟨some ⟨gA, 0, none⟩, 1, none, 0⟩) := node1_R ⟨by decide, by decide⟩ hA9 (int_R hn)
 replace hst5 := hst5.more (r := .free) trivial List.nodup_nil (by simp [Res.blocks])
 refine zq (tch := [(1, 1, (fun v => .blk v _)), (2, 1, (fun v => .blk v _))]) hst5 hfr5 (by kernel_rfl) (by kernel_rfl) (by kernel_rfl) (.cons rfl (zQ (cs := cdV (askN n) ⟨some ⟨gA, 0, none⟩, 1, none, 0⟩) (.cons rfl <| .cons rfl <| .cons rfl <| .nil) underlying25 zeroValue25 (.cons sizeOf3 <| .cons sizeOf9 <| .cons sizeOf9 <| .cons sizeOf3 <| .cons sizeOf22 <| .cons sizeOf23 <| .nil) (rfl)) <| .consT rfl rfl (fun _ => rfl) rfl (zP zeroValue25 rfl) <| .consT rfl rfl (fun _ => rfl) rfl (zb 8 rfl rfl rfl fun y8 => za rfl rfl rfl rfl rfl sizeOf25 rfl rfl rfl) <| .nil) fun a6 w6 m6 hst6 hle6 hk6 => ?_
 have hfr6 := hk6.fr (.o 2 <| .o 3 <| .o 7 <| .o 16 <| .o 19 <| .o 15 <| .o 1 <| .o 24 <| .nil)
 obtain ⟨g8, e11, _⟩ := hk6.ex 8 rfl
 replace hfr6 := hfr6.cons e11
 replace hst6 := hst6.fin (L' := [_, _]) (.cons e11 <| .cons e11 <| .nil)
 try simp only [List.take_succ_cons, List.take_zero, List.drop_succ_cons, List.drop_zero, List.cons_append, List.nil_append, List.append_nil, List.length_cons, List.length_nil, Nat.zero_add, Nat.reduceAdd] at hst6
 replace h_c := h_c.mono hle6
 replace hc3 := hc3.mono hle6
 replace hsI := hsI.mono hle6
 replace hask := hask.mono hle6
 clear hst5 hfr5 hk6
 refine hK9 _ _ ?_
 refine zB fun _ hK12 => ?_
 replace hst6 := hst6.more (r := .free) trivial List.nodup_nil (by simp [Res.blocks])
 refine zc (tch := [(4, 2, (fun v => .blk v _)), (5, 2, (fun v => .blkx v _ _))]) (fun _ => zw) hst6 hfr6 (by kernel_rfl) (by kernel_rfl) (by kernel_rfl) (.cons rfl (zh (j := 1) rfl rfl isAgg25 sizeOf25 rfl) <| .cons rfl (zX rfl (.cons rfl <| .nil) call18 (fun w m hK => by have hle_ := KC.le hK; have hA := KC.agree hK; exact zAx (s := [97]) hA)) <| .cons rfl (ZO rfl rfl underlying22 sizeOf25 zeroValue25 rfl rfl rfl rfl rfl) <| .cons rfl (zAI 28 rfl rfl rfl fun y28 => zQ (.cons rfl <| .cons rfl <| .cons rfl <| .nil) underlying25 zeroValue25 (.cons sizeOf3 <| .cons sizeOf9 <| .cons sizeOf9 <| .cons sizeOf3 <| .cons sizeOf22 <| .cons sizeOf23 <| .nil) rfl) <| .consT rfl rfl (fun _ => rfl) rfl (zP zeroValue25 rfl) <| .consT rfl rfl (fun _ => rfl) rfl (zb 9 rfl rfl rfl fun y9 => z8 29 rfl rfl rfl fun y29 => za rfl rfl rfl rfl rfl sizeOf25 rfl rfl rfl) <| .nil) fun a7 w7 m7 hst7 hle7 hk7 => ?_
 have hfr7 := hk7.fr (.o 3 <| .o 7 <| .o 1 <| .nil)
 obtain ⟨g9, e13, _⟩ := hk7.ex 9 rfl
 replace hfr7 := hfr7.cons e13
 replace hst7 := hst7.fin (L' := [_, _, _]) (.cons e13 <| .cons e13 <| .nil)
 try simp only [List.take_succ_cons, List.take_zero, List.drop_succ_cons, List.drop_zero, List.cons_append, List.nil_append, List.append_nil, List.length_cons, List.length_nil, Nat.zero_add, Nat.reduceAdd] at hst7
 obtain ⟨g28, h28, hst7⟩ := hst7.unx (k := 2) rfl (fun _ => rfl)
 replace h_c := h_c.mono hle7
 replace hc3 := hc3.mono hle7
 replace hsI := hsI.mono hle7
 replace hask := hask.mono hle7
 clear hst6 hfr6 hk7
 have h28b : CellsAt m7 ⟨g28, 0, none⟩ (cdV (askN n) ⟨some ⟨gA, 0, none⟩, 1, none, 0⟩ ++ cdV (zDC [97]) noY) := h28
 have hlet : CdR m7 (letN n) (cdV (letN n) ⟨some ⟨g28, 0, none⟩, 2, none, 0⟩) := node2_R ⟨by decide, by decide⟩ h28b hask (var_R [97])
 refine hK12 _ _ ?_
 refine zB fun _ hK15 => ?_
 replace hst7 := hst7.more (r := .free) trivial List.nodup_nil (by simp [Res.blocks])
 refine ra0 (tch := [(3, 3, (fun v => .blk v _)), (4, 3, (fun v => .blkx v _ _))]) hst7 hfr7 (.cons rfl (Zb (.cons rfl <| .cons rfl <| .nil) underlying45 sizeOf9 zeroValue9 rfl rfl rfl rfl) <| .cons rfl (zX rfl (.cons rfl <| .nil) call18 (fun w m hK => by have hle_ := KC.le hK; have hA := KC.agree hK; exact zAx (s := [120]) hA)) <| .cons rfl (zAI 30 rfl rfl rfl fun y30 => zQ (.cons rfl <| .cons rfl <| .cons rfl <| .nil) underlying47 zeroValue47 (.cons sizeOf9 <| .cons sizeOf45 <| .cons sizeOf4 <| .cons sizeOf25 <| .nil) rfl) <| .consT rfl rfl (fun _ => rfl) rfl (zP zeroValue47 rfl) <| .consT rfl rfl (fun _ => rfl) rfl (zb 10 rfl rfl rfl fun y10 => z8 32 rfl rfl rfl fun y32 => za rfl rfl rfl rfl rfl sizeOf47 rfl rfl rfl) <| .nil) fun a8 w8 m8 hst8 hle8 hk8 => ?_
 have hfr8 := hk8.fr (.o 3 <| .o 7 <| .o 1 <| .o 9 <| .nil)
 obtain ⟨g10, e16, _⟩ := hk8.ex 10 rfl
 replace hfr8 := hfr8.cons e16
 replace hst8 := hst8.fin (L' := [_, _, _, _]) (.cons e16 <| .cons e16 <| .nil)
 try simp only [List.take_succ_cons, List.take_zero, List.drop_succ_cons, List.drop_zero, List.cons_append, List.nil_append, List.append_nil, List.length_cons, List.length_nil, Nat.zero_add, Nat.reduceAdd] at hst8
 obtain ⟨g30, h30, hst8⟩ := hst8.unx (k := 3) rfl (fun _ => rfl)
 replace h_c := h_c.mono hle8
 replace hc3 := hc3.mono hle8
 replace hsI := hsI.mono hle8
 replace hlet := hlet.mono hle8
 clear hst7 hfr7 hk8
 have harm : CaR m8 armL (caV armL (some ⟨g30, 0, none⟩, 2, noY)) := arm_R (l := [[120], [107]]) (zEX (l := [[120], [107]]) h30 (by decide)) (var_R [120])
 refine hK15 _ _ ?_
 refine zB fun _ hK18 => ?_
 replace hst8 := hst8.more (r := .free) trivial List.nodup_nil (by simp [Res.blocks])
 refine zc (tch := [(8, 4, (fun v => .blk v _)), (9, 4, (fun v => .blkx v _ _))]) (fun _ => zw) hst8 hfr8 (by kernel_rfl) (by kernel_rfl) (by kernel_rfl) (.cons rfl (zh (j := 2) rfl rfl isAgg25 sizeOf25 rfl) <| .cons rfl (ZV rfl underlying22 sizeOf25 zeroValue25 rfl rfl rfl rfl) <| .cons rfl (zm (φ := MP.ca zEv) rfl (.nil) call21 (fun w m hK => by have hle_ := KC.le hK; have hA := KC.agree hK; exact FnG.mono (same_c hA) fun _ _ _ _ h => h)) <| .cons rfl (zh (j := 3) rfl rfl isAgg47 sizeOf47 rfl) <| .cons rfl (zBA 35 rfl rfl rfl fun y35 => ZO rfl rfl underlying23 sizeOf47 zeroValue47 rfl rfl rfl rfl rfl) <| .cons rfl (zBA 34 rfl rfl rfl fun y34 => zAI 37 rfl rfl rfl fun y37 => zQ (.cons rfl <| .cons rfl <| .cons rfl <| .cons rfl <| .nil) underlying25 zeroValue25 (.cons sizeOf3 <| .cons sizeOf9 <| .cons sizeOf9 <| .cons sizeOf3 <| .cons sizeOf22 <| .cons sizeOf23 <| .nil) rfl) <| .cons rfl (zm (φ := MP.efs efs) rfl (.nil) call15 (fun w m hK => by have hle_ := KC.le hK; have hA := KC.agree hK; exact FnG.mono (zBQ hA) fun _ _ _ _ h => h)) <| .cons rfl (zAf 38 rfl rfl rfl fun y38 => zAf 39 rfl rfl rfl fun y39 => zm (φ := MP.rn ⟨4, VT.z, [], 3, 0⟩) rfl (.cons rfl <| .cons rfl <| .cons rfl <| .cons rfl <| .nil) call14 (fun w m hK => by have hle_ := KC.le hK; have hA := KC.agree hK; have hr0_ := hK.2; have hr1_ := hK.1.2; have hlet := hlet.mono hle_; have harm := harm.mono hle_; exact FnG.mono (run_c (c := proN n) (es := efs) (input := []) (fuel := 100) (r := ⟨4, VT.z, [], 3, 0⟩) hA (node1a_R ⟨by decide, by decide⟩ (show CellsAt _ ⟨_, 0, none⟩ (cdV (letN n) ⟨some ⟨g28, 0, none⟩, 2, none, 0⟩) from hr1_.1) hlet (arms2_R (show CellsAt _ ⟨_, 0, none⟩ (caV zEv _ ++ caV armL (some ⟨g30, 0, none⟩, 2, noY)) from hr1_.2.2) hr1_.2.1 harm)) hr0_ Sl.empty (by simp) (run_let n) (by simp) (by omega)) fun _ _ _ _ h => h)) <| .consT rfl rfl (fun _ => rfl) rfl (zP zeroValue35 rfl) <| .consT rfl rfl (fun _ => rfl) rfl (zb 11 rfl rfl rfl fun y11 => z8 40 rfl rfl rfl fun y40 => za rfl rfl rfl rfl rfl sizeOf35 rfl rfl rfl) <| .nil) fun a9 w9 m9 hst9 hle9 hk9 => ?_
 have hfr9 := hk9.fr (.o 3 <| .o 7 <| .o 1 <| .nil)
 obtain ⟨g11, e19, _⟩ := hk9.ex 11 rfl
 replace hfr9 := hfr9.cons e19
 replace hst9 := hst9.fin (L' := [_, _, _, _, _]) (.cons e19 <| .cons e19 <| .nil)
 try simp only [List.take_succ_cons, List.take_zero, List.drop_succ_cons, List.drop_zero, List.cons_append, List.nil_append, List.append_nil, List.length_cons, List.length_nil, Nat.zero_add, Nat.reduceAdd] at hst9
 obtain ⟨y40, h40, hst9⟩ := hst9.unx (k := 4) rfl (fun _ => rfl)
 replace h_c := h_c.mono hle9
 replace hc3 := hc3.mono hle9
 replace hsI := hsI.mono hle9
 clear hst8 hfr8 hk9
 refine hK18 _ _ ?_
 refine zB fun _ hK21 => ?_
 refine zB fun _ hK22 => ?_
 refine rp0 hst9 hfr9 (.cons rfl (zA (off := 0) rfl underlying35 rfl rfl sizeOf33 rfl) <| .cons rfl (zA (off := 0) rfl underlying33 rfl rfl sizeOf3 rfl) <| .cons rfl (zK (k := 0) (j := 4) rfl rfl isAgg3 rfl) <| .cons rfl (Zs rfl rfl) <| .cons rfl (zC rfl) <| .cons rfl (zA (off := 6) rfl underlying35 rfl rfl sizeOf3 rfl) <| .cons rfl (zK (j := 4) rfl rfl isAgg3 rfl) <| .cons rfl (Zs rfl rfl) <| .cons rfl (Zd rfl rfl rfl) <| .cons rfl (zC rfl) <| .cons rfl (zA (off := 7) rfl underlying35 rfl rfl sizeOf3 rfl) <| .cons rfl (zK (j := 4) rfl rfl isAgg3 rfl) <| .cons rfl (Zs rfl rfl) <| .cons rfl (Zd rfl rfl rfl) <| .nil) fun a10 w10 m10 hst10 hle10 hk10 => ?_
 have hfr10 := hk10.fr (.o 3 <| .o 7 <| .o 1 <| .n 54 <| .nil)
 replace h_c := h_c.mono hle10
 replace hc3 := hc3.mono hle10
 replace hsI := hsI.mono hle10
 clear hst9 hfr9 hk10
 refine hK22 _ _ ?_
 refine zE hfr10 rfl rfl (fun hb54 => ?_) (fun hb54 => ?_)
 ·simp at hb54
 ·try simp only [nqs] at hb54
  refine zR ?_
  refine hK21 _ _ ?_
  refine zB fun _ hK23 => ?_
  refine zB fun _ hK24 => ?_
  refine rp0 hst10 hfr10 (.cons rfl (zY rfl hc3 isAgg25 sizeOf25 rfl rfl) <| .cons rfl (zX rfl (.cons rfl <| .nil) call13 (fun w m hK => by have hle_ := KC.le hK; have hA := KC.agree hK; have h_c := h_c.mono hle_; exact lcount_c c hA h_c)) <| .cons rfl (zFI rfl rfl) <| .cons rfl (zC rfl) <| .cons rfl (zY rfl hc3 isAgg25 sizeOf25 rfl rfl) <| .cons rfl (zX rfl (.cons rfl <| .cons rfl <| .nil) call26 (fun w m hK => by have hle_ := KC.le hK; have hA := KC.agree hK; have h_c := h_c.mono hle_; exact ccount_c c (k := 14) hA h_c)) <| .cons rfl (zFI rfl rfl) <| .cons rfl (Zd rfl rfl rfl) <| .nil) fun a11 w11 m11 hst11 hle11 hk11 => ?_
  have hfr11 := hk11.fr (.o 3 <| .o 7 <| .o 1 <| .n 62 <| .nil)
  clear hst10 hfr10 hk11
  refine hK24 _ _ ?_
  refine zE hfr11 rfl rfl (fun hb62 => ?_) (fun hb62 => ?_)
  ·try simp only [nqs] at hb62
   refine zB fun _ hK25 => ?_
   refine rp0 hst11 hfr11 (.cons rfl (zC rfl) <| .cons rfl (zD rfl) <| .nil) fun a12 w12 m12 hst12 hle12 hk12 => ?_
   have hfr12 := hk12.fr (.n 6 <| .nil)
   clear hst11 hfr11 hk12
   refine hK25 _ _ ?_
   refine zN ?_
   repeat (with_reducible first | refine zH ?_ | refine zG ?_)
   exact zO hst12 hfr12 rfl (.tmp rfl <| .nil) (rfl)
  ·try simp only [nqs] at hb62
   obtain ⟨h14, hfew⟩ := lets_few (c := c) hb62.1 hb62.2
   obtain ⟨r9, hr9, hr8⟩ := lets_law c efs lx h14 hfew
   refine zR ?_
   refine hK23 _ _ ?_
   refine zB fun _ hK27 => ?_
   replace hst11 := hst11.more (r := .free) trivial List.nodup_nil (by simp [Res.blocks])
   replace h_c := h_c.mono hle11
   replace hc3 := hc3.mono hle11
   replace hsI := hsI.mono hle11
   refine zc (tch := [(4, 5, (fun v => .blk v _)), (5, 5, (fun v => .blkx v _ _))]) (fun _ => zw) hst11 hfr11 (by kernel_rfl) (by kernel_rfl) (by kernel_rfl) (.cons rfl (zY rfl hc3 isAgg25 sizeOf25 rfl rfl) <| .cons rfl (zm (φ := MP.efs efs) rfl (.nil) call15 (fun w m hK => by have hle_ := KC.le hK; have hA := KC.agree hK; exact FnG.mono (zBQ hA) fun _ _ _ _ h => h)) <| .cons rfl (zC rfl) <| .cons rfl (zAf 65 rfl rfl rfl fun y65 => zm (φ := MP.rn r9) rfl (.cons rfl <| .cons rfl <| .cons rfl <| .cons rfl <| .nil) call14 (fun w m hK => by have hle_ := KC.le hK; have hA := KC.agree hK; have hr0_ := hK.2; have h_c := h_c.mono hle_; have hsI := hsI.mono hle_; exact FnG.mono (run_c (c := c) (es := efs) (input := lx) (fuel := 1500) (r := r9) hA h_c hr0_ hsI hix9 hr9 hlx9 (by omega)) fun _ _ _ _ h => h)) <| .consT rfl rfl (fun _ => rfl) rfl (zP zeroValue35 rfl) <| .consT rfl rfl (fun _ => rfl) rfl (zb 12 rfl rfl rfl fun y12 => z8 67 rfl rfl rfl fun y67 => za rfl rfl rfl rfl rfl sizeOf35 rfl rfl rfl) <| .nil) fun a12 w12 m12 hst12 hle12 hk12 => ?_
   have hfr12 := hk12.fr (.o 3 <| .o 7 <| .o 1 <| .nil)
   obtain ⟨g12, e28, _⟩ := hk12.ex 12 rfl
   replace hfr12 := hfr12.cons e28
   replace hst12 := hst12.fin (L' := [_, _, _, _, _, _]) (.cons e28 <| .cons e28 <| .nil)
   try simp only [List.take_succ_cons, List.take_zero, List.drop_succ_cons, List.drop_zero, List.cons_append, List.nil_append, List.append_nil, List.length_cons, List.length_nil, Nat.zero_add, Nat.reduceAdd] at hst12
   obtain ⟨y67, ⟨h67, i67⟩, hst12⟩ := hst12.unx (k := 5) rfl (fun _ => rfl)
   clear hst11 hfr11 hk12
   refine hK27 _ _ ?_
   refine zB fun _ hK30 => ?_
   replace hst12 := hst12.more (r := .free) trivial List.nodup_nil (by simp [Res.blocks])
   replace h_c := h_c.mono hle12
   replace hc3 := hc3.mono hle12
   replace hsI := hsI.mono hle12
   refine ra0 (tch := [(5, 6, (fun v => .blk v _)), (6, 6, (fun v => .blkx v _ _))]) hst12 hfr12 (.cons rfl (zY rfl hc3 isAgg25 sizeOf25 rfl rfl) <| .cons rfl (zm (φ := MP.cd (z0 c)) rfl (.cons rfl <| .nil) call27 (fun w m hK => by have hle_ := KC.le hK; have hA := KC.agree hK; have h_c := h_c.mono hle_; exact FnG.mono (lets_c c hA h_c hfew) fun _ _ _ _ h => h)) <| .cons rfl (zm (φ := MP.efs efs) rfl (.nil) call15 (fun w m hK => by have hle_ := KC.le hK; have hA := KC.agree hK; exact FnG.mono (zBQ hA) fun _ _ _ _ h => h)) <| .cons rfl (zC rfl) <| .cons rfl (zAf 69 rfl rfl rfl fun y69 => zAf 70 rfl rfl rfl fun y70 => zm (φ := MP.rn r9) rfl (.cons rfl <| .cons rfl <| .cons rfl <| .cons rfl <| .nil) call14 (fun w m hK => by have hle_ := KC.le hK; have hA := KC.agree hK; have hr0_ := hK.2; have hr1_ := hK.1.2; have hsI := hsI.mono hle_; exact FnG.mono (run_c (c := (z0 c)) (es := efs) (input := lx) (fuel := 1500) (r := r9) hA hr1_ hr0_ hsI hix9 hr8 hlx9 (by omega)) fun _ _ _ _ h => h)) <| .consT rfl rfl (fun _ => rfl) rfl (zP zeroValue35 rfl) <| .consT rfl rfl (fun _ => rfl) rfl (zb 13 rfl rfl rfl fun y13 => z8 72 rfl rfl rfl fun y72 => za rfl rfl rfl rfl rfl sizeOf35 rfl rfl rfl) <| .nil) fun a13 w13 m13 hst13 hle13 hk13 => ?_
   have hfr13 := hk13.fr (.o 7 <| .o 12 <| .nil)
   obtain ⟨g13, e31, _⟩ := hk13.ex 13 rfl
   replace hfr13 := hfr13.cons e31
   replace hst13 := hst13.fin (L' := [_, _, _, _, _, _, _]) (.cons e31 <| .cons e31 <| .nil)
   try simp only [List.take_succ_cons, List.take_zero, List.drop_succ_cons, List.drop_zero, List.cons_append, List.nil_append, List.append_nil, List.length_cons, List.length_nil, Nat.zero_add, Nat.reduceAdd] at hst13
   obtain ⟨y72, ⟨h72, i72⟩, hst13⟩ := hst13.unx (k := 6) rfl (fun _ => rfl)
   clear hst12 hfr12 hk13
   refine hK30 _ _ ?_
   refine zB fun _ hK33 => ?_
   replace h67 := h67.mono hle13
   replace i67 := i67.mono hle13
   refine rp0 hst13 hfr13 (.cons rfl (zC rfl) <| .cons rfl (zC rfl) <| .cons rfl (zh (j := 5) rfl rfl isAgg35 sizeOf35 rfl) <| .cons rfl (zh (j := 6) rfl rfl isAgg35 sizeOf35 rfl) <| .cons rfl (zX rfl (.cons rfl <| .cons rfl <| .nil) call17 (fun w m hK => by have hle_ := KC.le hK; have hA := KC.agree hK; have h67 := h67.mono hle_; have i67 := i67.mono hle_; have h72 := h72.mono hle_; have i72 := i72.mono hle_; exact rsame_c (r := r9) (y_p := y67) (y_q := y72) hA ⟨h67, i67⟩ ⟨h72, i72⟩)) <| .cons rfl (zU rfl rfl rfl) <| .cons rfl (zD rfl) <| .nil) fun a14 w14 m14 hst14 hle14 hk14 => ?_
   have hfr14 := hk14.fr (.n 6 <| .nil)
   clear hst13 hfr13 hk14
   refine hK33 _ _ ?_
   refine zN ?_
   repeat (with_reducible first | refine zH ?_ | refine zG ?_)
   exact zO hst14 hfr14 rfl (.tmp rfl <| .nil) (by simp [ZS])
end Go.Proofs.Ytnppknioifgdfaa
namespace Go.Proofs.Ytnppknioifgdfaa
set_option linter.all false
open Go.RowKit Go.WideShapes Go.ChangeShapes Go.Deep Go.WideElems Go.ChangeAt Go.ChangeMaps
def zBF (W : World) : Mem := ⟨fun b o => W.cell? ⟨b, o, none⟩, fun b => match W.heap[b]? with | some (.map es cl) => some (es, cl) | _ => none⟩
theorem agree_snap (W : World) : Agree W (zBF W) := ⟨fun _ _ _ h => h, fun b es h => by
 change (match W.heap[b]? with | some (.map es cl) => some (es, cl) | _ => none) = some es at h
 split at h
 ·rename_i ents cl he
  injection h with h
  subst h; exact he
 ·cases h⟩
theorem cell_spot {W : World} {a : Addr} {v : Value} (h : W.cell? a = some v) : a.spot = none := by
 unfold World.cell? at h
 split at h
 ·split at h
  ·cases h
  ·rename_i hs; cases e : a.spot with
   | none => rfl
   | some x => rw [e] at hs; exact absurd rfl hs
 ·cases h
theorem snap_of {W : World} {a : Addr} {v : Value} (h : W.cell? a = some v) : zBF W a.block a.off = some v := by
 have := cell_spot h
 show W.cell? ⟨a.block, a.off, none⟩ = some v
 rw [← h]; congr 1
 cases a; simp only at this; subst this; rfl
theorem zDD {W : World} {base : Nat} {a : Addr} {n : Nat} {cs : List Value} (h : W.cells? base a n = some cs) (hn : 0 < n) : CellsAt (zBF W) a cs ∧ cs.length = n := by
 obtain ⟨_, hl, hat⟩ := World.cells?_some h
 have h0 := hat 0 hn
 have e0 : a.add 0 = a := by unfold Addr.add; rfl
 rw [e0, List.getElem?_eq_getElem (by omega)] at h0
 refine ⟨⟨cell_spot h0, fun i v e => ?_⟩, hl⟩
 have hi : i < n := by have := (List.getElem?_eq_some_iff.1 e).1; omega
 have := hat i hi
 rw [e] at this
 have := snap_of this
 rwa [zCV, zEC] at this
section
variable {H : Type} {enc : TypeId × Value → H} {P : Program} {W : World} {base : Nat} {spare : Nat → Bool} {held : Bool}
theorem open_I {r : Reach} {b0 : Nat} {t : TypeId} {v : Value} {d : DataW H} {ps : List MemPlace} (ht : P.underlying t = some (.int .i64)) (hval : Value.okWide P W r b0 t v) (hd : DataW.Trod enc P W base spare held t v d ps) :
  ∃ n : Int, v = .int .i64 n ∧ zo n := by
 obtain ⟨n, rfl, _, _, hs⟩ := open_int ht hval hd
 simp only [Lit.wf, Bool.and_eq_true, decide_eq_true_eq] at hs
 have h1 : IntKind.i64.min = -9223372036854775808 := by decide
 have h2 : IntKind.i64.max = 9223372036854775807 := by decide
 exact ⟨n, rfl, by omega, by omega⟩
theorem sl_of_trod {α : Type} {R : Mem → List Value → α → Prop} {t e : TypeId} {sz fuel : Nat} {cs : List Value} {x : DataW H × List MemPlace} (ht : P.underlying t = some (.slice e)) (hc : P.cellsOf e = sz) (hsz : 0 < sz)
  (hR : ∀ n cs x, DataW.trod enc P W base spare held n e cs = some x → cs.length = sz → ∃ a : α, R (zBF W) cs a) (h : DataW.trod enc P W base spare held fuel t cs = some x) :
  ∃ o n c l, cs = [.slice o n c] ∧ Sl R sz (zBF W) o n c l ∧ c ≤ maxLen := by
 rcases open_slice ht h with ⟨rfl, _⟩ | ⟨a, len, cap, m, n, D, Pl, rfl, hb, hl, hm, hmm, _, hi⟩
 ·exact ⟨none, 0, 0, [], rfl, ⟨rfl, Nat.le_refl _, Nat.zero_le _, fun i x hx => by simp at hx⟩, Nat.zero_le _⟩
 ·have hlm : len ≤ m := by rw [hmm]; split <;> omega
  have key : ∀ k, k ≤ len → ∃ l : List α, l.length = k ∧ ∀ i x, l[i]? = some x → ∃ vs, CellsAt (zBF W) (a.add (i * sz)) vs ∧ vs.length = sz ∧ R (zBF W) vs x := by
   intro k
   induction k with
   | zero => intro _; exact ⟨[], rfl, fun i x hx => by simp at hx⟩
   | succ k ih =>
    intro hk
    obtain ⟨l, hl1, hl2⟩ := ih (by omega)
    obtain ⟨cs', hcs, htr⟩ := hi k (by omega)
    rw [hc] at hcs
    obtain ⟨h1, h2⟩ := zDD hcs hsz
    obtain ⟨y, hy⟩ := hR n cs' _ htr h2
    refine ⟨l ++ [y], by simp [hl1], fun i x hx => ?_⟩
    rw [List.getElem?_append] at hx
    split at hx
    ·exact hl2 i x hx
    ·have hik : i = k := by
      have := (List.getElem?_eq_some_iff.1 hx).1
      simp at this; omega
     subst hik
     rw [hl1, Nat.sub_self] at hx
     simp only [List.getElem?_cons_zero, Option.some.injEq] at hx
     subst hx
     exact ⟨cs', h1, h2, hy⟩
  obtain ⟨l, hl1, hl2⟩ := key len (Nat.le_refl _)
  refine ⟨some a, len, cap, l, rfl, ⟨hl1, hl, ?_, fun i x hx => ?_⟩, hm⟩
  ·simp only [maxLen] at hm; omega
  ·obtain ⟨vs, h1, h2, h3⟩ := hl2 i x hx
   exact ⟨a, vs, rfl, h1, h2, h3⟩
theorem sl_of {α : Type} {R : Mem → List Value → α → Prop} {r : Reach} {b0 : Nat} {t e : TypeId} {sz : Nat} {v : Value} {d : DataW H} {ps : List MemPlace} (ht : P.underlying t = some (.slice e)) (hc : P.cellsOf e = sz) (hsz : 0 < sz)
  (hR : ∀ n cs x, DataW.trod enc P W base spare held n e cs = some x → cs.length = sz → ∃ a : α, R (zBF W) cs a) (hval : Value.okWide P W r b0 t v) (hd : DataW.Trod enc P W base spare held t v d ps) :
  ∃ o n c l, v = .slice o n c ∧ Sl R sz (zBF W) o n c l ∧ c ≤ maxLen := by
 obtain ⟨o, n, c, rfl⟩ := okWide_slice ht hval
 obtain ⟨fuel, hf⟩ := hd
 obtain ⟨o', n', c', l, e1, h1, h2⟩ := sl_of_trod ht hc hsz hR hf
 simp only [Value.cells, List.cons.injEq, and_true] at e1
 injection e1 with e1 e2 e3
 subst e1 e2 e3
 exact ⟨_, _, _, l, rfl, h1, h2⟩
theorem zCd (hl : laidOutB P = true) {W' : World} {sp : Nat → Bool} : ∀ {ts : List TypeId} {vs : List Value} {ds : List (DataW H)} {ps : List MemPlace}, (ts.all fun t => P.readableRec t && decide (t < P.types.size)) = true →
  DataW.TrodAll enc P W base (fun _ => true) true ts vs ds ps → (∀ p ∈ ps, W.sameAt W' p) → (∀ p ∈ ps, sp p.block = true) → DataW.TrodAll enc P W' base sp true ts vs ds ps
 | [], vs, ds, ps, _, h, _, _ => by
  obtain ⟨rfl, rfl, rfl⟩ := trodAll_nil h
  exact rfl
 | t :: ts, vs, ds, ps, hts, h, h1, h2 => by
  obtain ⟨v, vs', d, ds', p, q, rfl, rfl, rfl, hd, hr⟩ := trodAll_cons h
  simp only [List.all_cons, Bool.and_eq_true, decide_eq_true_eq] at hts
  obtain ⟨⟨hr1, hr2⟩, hts'⟩ := hts
  exact ⟨p, q, Trod_stays hl hr1 hr2 hd (fun x hx => h1 x (List.mem_append_left _ hx)) (fun x hx => h2 x (List.mem_append_left _ hx)),
   zCd hl hts' hr (fun x hx => h1 x (List.mem_append_right _ hx)) (fun x hx => h2 x (List.mem_append_right _ hx)), rfl⟩
theorem post_law {f : Func} {s : ChangeSpec} {W' : World} {m' : Mem} {args : Array Value} {ds : List (DataW H)} {gs : List (DataW H)} {before : List MemPlace} {t : TypeId}
  (hl : laidOutB P = true) (hts : (f.params.toList.all fun t => P.readableRec t && decide (t < P.types.size)) = true) (hvs : s.vars = []) (hres : f.resultTypes = #[t]) (ht : P.underlying t = some .bool)
  (hfn : s.fn H (ds ++ gs) = { results := [.lit (.bool true)], args := ds }) (hW : DataW.Whole enc P f.params.toList s.vars false W args.toList ds gs before) (hx : ExtG [] W (zBF W) W' m') :
  s.post enc P f false true false false W args (.bool true) W' := by
 have hb := hx.below
 have hlt : ∀ p ∈ before, p.block < W.heap.size := fun p hp => hW.lt p hp
 have hold : ∀ p ∈ before, (fun b => decide (b < W.heap.size)) p.block = true := fun p hp => by simpa using hlt p hp
 have hsame : ∀ p ∈ before, W.sameAt W' p := fun p hp => hb.same (hlt p hp)
 have hW0 := hW
 obtain ⟨pa, pv, hA, hV, hps, hz, hn⟩ := hW
 rw [hvs] at hV
 obtain ⟨rfl, rfl⟩ := trodVars_none hV
 rw [List.append_nil] at hps
 subst hps
 have hres' : ∀ (b : Nat) (sp : Nat → Bool) (hd : Bool), DataW.TrodAll enc P W' b sp hd f.resultTypes.toList ((Value.bool true).resultList f.resultTypes.size) (s.fn H (ds ++ [])).results [] := fun b sp hd => by
  rw [hfn, hres]
  exact trodAll_mk1 ⟨1, by simp [DataW.trod, Value.cells, ht]⟩
 have hargs : ∀ sp : Nat → Bool, (∀ p ∈ before, sp p.block = true) → DataW.TrodAll enc P W' 0 sp true f.params.toList args.toList (s.fn H (ds ++ [])).args before := fun sp hsp => by
  rw [hfn]; exact zCd hl hts hA hsame hsp
 have hvars : ∀ sp : Nat → Bool, DataW.TrodVars enc P W' sp s.vars (s.fn H (ds ++ [])).vars [] := fun sp => by
  rw [hvs, hfn]; exact rfl
 refine ⟨ds, [], before, [], before, [], hW0, hres' _ _ _, hargs _ hold, hvars _, World.keptBut_mono (fun p hp => ⟨hp, ?_⟩) (hb.frame (· ∈ before)), fun _ => ?_⟩
 ·exact Or.inr (Or.inl hp)
 ·refine ⟨ok_one hres rfl (okWide_bool_mk ht true), _, _, ([] ++ before) ++ [], ⟨[] ++ before, [], trodAll_append (hargs _ (fun _ _ => rfl)) (hres' _ _ _), hvars _, rfl, ?_, ?_⟩, ?_⟩
  ·intro b off hp
   have hin : MemPlace.cell b off ∈ before := by simpa using hp
   rw [hb.frozen (hlt _ hin)]
   exact hz b off hin
  ·intro ha
   have := hn ha
   simpa using this
  ·intro p hp _
   simpa using hp
end
end Go.Proofs.Ytnppknioifgdfaa
namespace Go.Proofs.Ytnppknioifgdfaa
set_option linter.all false
open Go.RowKit Go.WideShapes Go.ChangeShapes Go.Deep Go.WideElems Go.ChangeAt Go.ChangeMaps
section
variable {H : Type} {enc : TypeId × Value → H} {P : Program} {W : World} {base : Nat} {spare : Nat → Bool} {held : Bool}
theorem bulk_mem {d : DataW H} : ∀ {l : List (DataW H)}, d ∈ l → Rows.uptoBulk d ≤ Rows.uptoBulkAll l
 | x :: l, h => by
  rw [Rows.uptoBulkAll]
  rcases List.mem_cons.1 h with rfl | h
  ·omega
  ·have := bulk_mem h; omega
theorem zEg (d : DataW H) : 1 ≤ Rows.uptoBulk d := by
 cases d with
 | lit l => cases l <;> simp [Rows.uptoBulk]
 | _ => simp [Rows.uptoBulk]
theorem bulk_app : ∀ (l r : List (DataW H)), Rows.uptoBulkAll (l ++ r) = Rows.uptoBulkAll l + Rows.uptoBulkAll r
 | [], r => by simp [Rows.uptoBulkAll]
 | x :: l, r => by simp only [List.cons_append, Rows.uptoBulkAll, bulk_app l r]; omega
theorem sl_open {α : Type} {R : Mem → List Value → α → Prop} {β : α → Nat} {t e : TypeId} {sz fuel : Nat} {cs : List Value} {x : DataW H × List MemPlace} (B : Nat) (ht : P.underlying t = some (.slice e)) (hc : P.cellsOf e = sz) (hsz : 0 < sz)
  (hR : ∀ n cs (x : DataW H × List MemPlace), Rows.uptoBulk x.1 < B → DataW.trod enc P W base spare held n e cs = some x → cs.length = sz → ∃ a : α, R (zBF W) cs a ∧ β a ≤ Rows.uptoBulk x.1)
  (h : DataW.trod enc P W base spare held fuel t cs = some x) (hB : Rows.uptoBulk x.1 ≤ B) :
  ∃ o n c l, cs = [.slice o n c] ∧ Sl R sz (zBF W) o n c l ∧ c ≤ maxLen ∧ (l.map β).sum + 1 ≤ Rows.uptoBulk x.1 := by
 rcases open_slice ht h with ⟨rfl, rfl⟩ | ⟨a, len, cap, m, n, D, Pl, rfl, hb, hl, hm, hmm, rfl, hi⟩
 ·exact ⟨none, 0, 0, [], rfl, ⟨rfl, Nat.le_refl _, Nat.zero_le _, fun i x hx => by simp at hx⟩, Nat.zero_le _, by simp [Rows.uptoBulk]⟩
 ·have hlm : len ≤ m := by rw [hmm]; split <;> omega
  simp only [Rows.uptoBulk] at hB ⊢
  have key : ∀ k, k ≤ len → ∃ l : List α, l.length = k ∧ (l.map β).sum ≤ Rows.uptoBulkAll ((List.range k).map D) ∧ ∀ i x, l[i]? = some x → ∃ vs, CellsAt (zBF W) (a.add (i * sz)) vs ∧ vs.length = sz ∧ R (zBF W) vs x := by
   intro k
   induction k with
   | zero => intro _; exact ⟨[], rfl, by simp, fun i x hx => by simp at hx⟩
   | succ k ih =>
    intro hk
    obtain ⟨l, hl1, hl0, hl2⟩ := ih (by omega)
    obtain ⟨cs', hcs, htr⟩ := hi k (by omega)
    rw [hc] at hcs
    obtain ⟨h1, h2⟩ := zDD hcs hsz
    have hD : Rows.uptoBulk (D k) ≤ Rows.uptoBulkAll ((List.range len).map D) := bulk_mem (List.mem_map.2 ⟨k, List.mem_range.2 (by omega), rfl⟩)
    obtain ⟨y, hy, hβ⟩ := hR n cs' _ (by simp only; omega) htr h2
    refine ⟨l ++ [y], by simp [hl1], ?_, fun i x hx => ?_⟩
    ·simp only [List.range_succ, List.map_append, bulk_app, List.sum_append, List.map_cons, List.map_nil, List.sum_cons, List.sum_nil, Rows.uptoBulkAll] at hβ ⊢; omega
    rw [List.getElem?_append] at hx
    split at hx
    ·exact hl2 i x hx
    ·have hik : i = k := by
      have := (List.getElem?_eq_some_iff.1 hx).1
      simp at this; omega
     subst hik
     rw [hl1, Nat.sub_self] at hx
     simp only [List.getElem?_cons_zero, Option.some.injEq] at hx
     subst hx
     exact ⟨cs', h1, h2, hy⟩
  obtain ⟨l, hl1, hl0, hl2⟩ := key len (Nat.le_refl _)
  refine ⟨some a, len, cap, l, rfl, ⟨hl1, hl, ?_, fun i x hx => ?_⟩, hm, by omega⟩
  ·simp only [maxLen] at hm; omega
  ·obtain ⟨vs, h1, h2, h3⟩ := hl2 i x hx
   exact ⟨a, vs, rfl, h1, h2, h3⟩
theorem zDp {e : TypeId} {fs : Array Field} {fuel : Nat} {cs : List Value} {x : DataW H × List MemPlace} (he : P.underlying e = some (.struct fs)) (h : DataW.trod enc P W base spare held fuel e cs = some x) :
  ∃ (n : Nat) (ys : List (DataW H × List MemPlace)), ys.length = fs.size ∧ Rows.uptoBulk x.1 = Rows.uptoBulkAll (ys.map (·.1)) + 1 ∧ cs.length = P.cellsOf e ∧
   ∀ (i : Nat) (f : Field), fs[i]? = some f → ∃ y, ys[i]? = some y ∧ DataW.trod enc P W base spare held n f.type ((cs.drop f.offset).take (P.cellsOf f.type)) = some y := by
 obtain ⟨xs, n, rfl, rfl, hl, hx, hf⟩ := DataW.trod_struct he h
 refine ⟨n, xs, hx, by simp [Rows.uptoBulk], hl, fun i f hi => ?_⟩
 have h1 : i < fs.size := (Array.getElem?_eq_some_iff.1 hi).1
 have h2 : xs[i]? = some (xs[i]'(by omega)) := List.getElem?_eq_getElem (by omega)
 exact ⟨_, h2, (hf i f hi).trans h2⟩
theorem zEh {t : TypeId} {n : Nat} {cs : List Value} {x : DataW H × List MemPlace} (ht : P.underlying t = some (.int .i64)) (h : DataW.trod enc P W base spare held n t cs = some x) : ∃ k : Int, cs = [.int .i64 k] ∧ zo k ∧ Rows.uptoBulk x.1 = 1 := by
 obtain ⟨k, e, rfl, hs⟩ := DataW.trod_int ht h
 simp only [Lit.wf, Bool.and_eq_true, decide_eq_true_eq] at hs
 have h1 : IntKind.i64.min = -9223372036854775808 := by decide
 have h2 : IntKind.i64.max = 9223372036854775807 := by decide
 exact ⟨k, e, ⟨by omega, by omega⟩, by simp [Rows.uptoBulk]⟩
theorem zDN {t : TypeId} {n : Nat} {cs : List Value} {x : DataW H × List MemPlace} (ht : P.underlying t = some .string) (h : DataW.trod enc P W base spare held n t cs = some x) : ∃ l : Str, cs = [S l] ∧ l.length ≤ maxLen ∧ Rows.uptoBulk x.1 = l.length + 1 := by
 obtain ⟨s, e, rfl, hs⟩ := DataW.trod_string ht h
 obtain ⟨⟨l⟩⟩ := s
 exact ⟨l, e, by rw [S_size] at hs; exact hs, by simp [Rows.uptoBulk]⟩
end
end Go.Proofs.Ytnppknioifgdfaa
namespace Go.Proofs.Ytnppknioifgdfaa
open Go.Proofs.Try
set_option linter.all false
set_option maxRecDepth 4000
open Go.RowKit Go.WideShapes Go.ChangeShapes Go.Deep Go.WideElems Go.ChangeAt Go.ChangeMaps
theorem ints_arg {H : Type} {enc : TypeId × Value → H} {W : World} {base : Nat} {spare : Nat → Bool} {held : Bool} {r : Reach} {b0 : Nat} {v : Value} {d : DataW H} {ps : List MemPlace} (hval : Value.okWide Try.prog W r b0 26 v) (hd : DataW.Trod enc Try.prog W base spare held 26 v d ps) :
  ∃ o c l, v = .slice o l.length c ∧ Ints (zBF W) o l.length c l ∧ ∀ x ∈ l, zo x := by
 obtain ⟨o, n, c, l, rfl, h1, _⟩ := sl_of (R := fun _ vs (x : Int) => vs = [Value.int .i64 x] ∧ zo x) (sz := 1) underlying26 (by kernel_rfl) (by omega) (fun n cs x ht _ => by obtain ⟨k, e, h, _⟩ := zEh underlying3 ht; exact ⟨k, e, h⟩) hval hd
 obtain rfl := h1.len
 refine ⟨o, c, l, rfl, ⟨rfl, h1.cap, h1.big, fun i x hx => ?_⟩, fun x hx => ?_⟩
 ·obtain ⟨p, vs, a1, a2, a3, a4⟩ := h1.at_ i x hx; exact ⟨p, vs, a1, a2, a3, a4.1⟩
 ·obtain ⟨i, hi⟩ := List.mem_iff_getElem?.1 hx
  obtain ⟨p, vs, a1, a2, a3, a4⟩ := h1.at_ i x hi; exact a4.2
end Go.Proofs.Ytnppknioifgdfaa
namespace Go.Proofs.Ytnppknioifgdfaa
set_option linter.all false
set_option maxRecDepth 4000
open Go.RowKit
mutual
/-- How much there is in code. -/
def zBX : Cd → Nat
 | ⟨_, s, p, n, ks, az⟩ => 60 + s.length + p.length + (Go.Lib.itoa n).length + zEm ks + zCj az
def zEm : List Cd → Nat
 | [] => 0
 | t :: ts => zBX t + zEm ts
def zCj : List Ca → Nat
 | [] => 0
 | ⟨s, l, _, b⟩ :: ts => 30 + s.length + (l.map fun x => x.length + 2).sum + zBX b + zCj ts
end
theorem bulkAs_cons (a : Ca) (ts : List Ca) : zCj (a :: ts) = 30 + a.name.length + (a.vars.map fun x => x.length + 2).sum + zBX a.body + zCj ts := by obtain ⟨s, l, tl, b⟩ := a; rw [zCj]; rfl
end Go.Proofs.Ytnppknioifgdfaa
