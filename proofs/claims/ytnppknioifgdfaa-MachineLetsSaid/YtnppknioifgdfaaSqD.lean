/-
  Texts that the law rests on: Mach8, Mach9, Vt. Conditions: those of each theorem.
-/
import Derived.Test.YtnppknioifgdfaaSqC
namespace Go.Proofs.Ytnppknioifgdfaa
open Go.Proofs.Try
set_option linter.all false
set_option maxRecDepth 4000
set_option linter.all false
set_option maxRecDepth 4000
open Go.RowKit
abbrev Zh (s : Mc) (y : McY) : Res := .rowx (nz (.slice y.to s.trace.length y.tc)) s.trace.length 1 3 (MP.reads (fun _ vs (x : Int) => vs = [Value.int .i64 x]) 1 s.trace)
abbrev Ze (s : Mc) (y : McY) : Res := .mrowx (.slice y.co s.cells.length y.cc) s.cells.length 7 72 (MP.reads (fun m vs v => VlR m v vs) 7 s.cells)
abbrev ML (g : Nat) (s : Mc) (y : McY) : List Res := [MB g s y, Zh s y, Ze s y]
abbrev MBc (g : Nat) (s : Mc) (y : McY) (n : Nat) : Res := .blk (.pointer (some ⟨g, 0, none⟩)) (.cells (
  [.int .i64 s.c.kind, S s.c.name, S s.c.param, .int .i64 s.c.n, .slice y.yc.o1 s.c.kids.length y.yc.c1, .slice y.yc.o2 s.c.arms.length y.yc.c2, .pointer y.pe, .bool s.at_,
   .int .i64 s.v.kind, .int .i64 s.v.n, S s.v.name, .slice none 0 0, .slice y.yv.o1 s.v.kids.length y.yv.c1, .pointer y.yv.p, .slice y.yv.o2 s.v.fs.length y.yv.c2, .pointer y.pv, .int .i64 s.next,
   .slice y.fo s.frames.length y.fc, .slice y.co n y.cc, .slice y.io s.input.length y.ic, .map (some y.mo), .int .i64 s.kind, .int .i64 0, .int .i64 0, S [], .slice none 0 0, .slice y.to s.trace.length y.tc, .int .i64 s.steps, .int .i64 s.konts] : List Value).toArray 79)
abbrev CRn (y : McY) (n : Nat) (l : List Vl) : Res := .mrowx (.slice y.co n y.cc) n 7 72 (MP.reads (fun m vs v => VlR m v vs) 7 l)
theorem st_cells {G0 : List Nat} {W : World} {mE : Mem} {g n : Nat} {s : Mc} {y : McY} {l : List Vl} {b : Res} {r : List Res} {w : World} {m : Mem} (h : St G0 W mE (MBc g s y n :: b :: CRn y n l :: r) w m) (e : n = l.length) : St G0 W mE (MB g { s with cells := l } y :: b :: Ze { s with cells := l } y :: r) w m := by subst e; exact h
theorem ref_R {m : Mem} {a b : Int} (h : zo a) (e : b = a) : VlR m (refVl a) (vlV (refVl b) zDI) := by subst e; exact VlR.flat ⟨by decide, by decide⟩ h
theorem zBM (x : Int) : zo (IntKind.i64.wrap x) := by rw [IntKind.wrap_i64]; exact ⟨by show (-9223372036854775808 : Int) ≤ _; omega, by show _ ≤ (9223372036854775807 : Int); omega⟩
theorem zEG {s : Str} {a b : Int} {v : Vl} (h : zEc s a b = some v) : ∃ k n, v = ⟨k, n, [], [], .none, []⟩ ∧ zo k ∧ zo n ∧ zAm s a b = (VlV k n [] zBw, true) := by
 unfold zEc at h; unfold zAm
 split at h
 ·rename_i e; injection h with h; subst h; rw [if_pos e]; exact ⟨_, _, rfl, ⟨by decide, by decide⟩, zBM _, rfl⟩
 ·rename_i e; rw [if_neg e]
  split at h
  ·rename_i e; injection h with h; subst h; rw [if_pos e]; exact ⟨_, _, rfl, ⟨by decide, by decide⟩, zBM _, rfl⟩
  ·rename_i e; rw [if_neg e]
   split at h
   ·rename_i e; injection h with h; subst h; rw [if_pos e]; exact ⟨_, _, rfl, ⟨by decide, by decide⟩, zBM _, rfl⟩
   ·rename_i e; rw [if_neg e]
    split at h
    ·rename_i e; rw [if_pos e]
     split at h
     ·cases h
     ·rename_i e; injection h with h; subst h; rw [if_neg e]; exact ⟨_, _, rfl, ⟨by decide, by decide⟩, zBM _, rfl⟩
    ·rename_i e; rw [if_neg e]
     split at h
     ·rename_i e; injection h with h; subst h; rw [if_pos e]; exact ⟨_, _, rfl, ⟨by decide, by decide⟩, by split <;> exact ⟨by decide, by decide⟩, by simp only [decide_eq_true_eq]⟩
     ·rename_i e; rw [if_neg e]
      split at h
      ·rename_i e; injection h with h; subst h; rw [if_pos e]; exact ⟨_, _, rfl, ⟨by decide, by decide⟩, by split <;> exact ⟨by decide, by decide⟩, by simp only [decide_eq_true_eq]⟩
      ·cases h
theorem zEE {s : Str} {a b : Int} (h : zEc s a b = none) : zAm s a b = (VlV 0 0 [] zBw, false) := by
 unfold zEc at h; unfold zAm
 split at h
 ·cases h
 ·rename_i e; rw [if_neg e]
  split at h
  ·cases h
  ·rename_i e; rw [if_neg e]
   split at h
   ·cases h
   ·rename_i e; rw [if_neg e]
    split at h
    ·rename_i e; rw [if_pos e]
     split at h
     ·rename_i e; rw [if_pos e]
     ·cases h
    ·rename_i e; rw [if_neg e]
     split at h
     ·cases h
     ·rename_i e; rw [if_neg e]
      split at h
      ·cases h
      ·rename_i e; rw [if_neg e]
theorem zDn {w : World} {m : Mem} {s : Str} {a b : Int} {p : Value × Bool} (hA : Agree w m) (h : zAm s a b = p) : FnV Try.prog 65 #[S s, .int .i64 a, .int .i64 b] w m fun _ _ v => v = .tuple #[p.1, .bool p.2] := by
 subst h; exact op_c hA
abbrev rdS : Str := [114, 101, 97, 100]
abbrev rfS : Str := [114, 101, 102]
abbrev prS : Str := [112, 114, 105, 110, 116]
theorem op_ways {s s2 : Mc} {name : Str} {l : List Vl} {b : Bool} (h : opM s name l = some (s2, b)) :
  (name = rdS ∧ s.input = [] ∧ s2 = s.ends 3 ∧ b = true) ∨ (∃ n r, name = rdS ∧ s.input = n :: r ∧ s2 = ({ s with input := r } : Mc).has (zCY n) ∧ b = true) ∨
  (∃ v r, name = prS ∧ l = v :: r ∧ v.kind = 1 ∧ s.bnd = true ∧ s2 = ({ s with trace := s.trace ++ [v.n] } : Mc).has zDZ ∧ b = true) ∨ (∃ v r, name = prS ∧ l = v :: r ∧ ¬ v.kind = 1 ∧ opA s name l = some (s2, b)) ∨
  (∃ v r, name = [33] ∧ l = v :: r ∧ ¬ v.kind = 5 ∧ opA s name l = some (s2, b)) ∨ (∃ v r, name = [58, 61] ∧ l = v :: r ∧ ¬ v.kind = 5 ∧ opA s name l = some (s2, b)) ∨
  (¬ name = rdS ∧ ¬ name = rfS ∧ ¬ name = prS ∧ ¬ name = [33] ∧ ¬ name = [58, 61] ∧ opA s name l = some (s2, b)) ∨
  (∃ v r, name = rfS ∧ l = v :: r ∧ s.bnd = true ∧ s2 = ({ s with cells := s.cells ++ [v] } : Mc).has (refVl (s.cells.length : Int)) ∧ b = true) ∨
  (∃ v r x, name = [33] ∧ l = v :: r ∧ v.kind = 5 ∧ 0 ≤ v.n ∧ s.cells[v.n.toNat]? = some x ∧ s2 = s.has x ∧ b = true) ∨
  (∃ v x r, name = [58, 61] ∧ l = v :: x :: r ∧ v.kind = 5 ∧ 0 ≤ v.n ∧ v.n.toNat < s.cells.length ∧ s2 = ({ s with cells := s.cells.set v.n.toNat x } : Mc).has zDZ ∧ b = true) := by
 unfold opM at h
 split at h
 ·rename_i e
  cases hi : s.input with
  | nil => rw [hi] at h; injection h with h; injection h with h1 h2; exact .inl ⟨e, rfl, h1.symm, h2.symm⟩
  | cons n r => rw [hi] at h; injection h with h; injection h with h1 h2; exact .inr (.inl ⟨n, r, e, rfl, h1.symm, h2.symm⟩)
 ·rename_i e1
  split at h
  ·rename_i e2
   cases l with
   | nil => cases h
   | cons v r =>
    simp only at h
    split at h
    ·rename_i hb; injection h with h; injection h with h1 h2; exact .inr (.inr (.inr (.inr (.inr (.inr (.inr (.inl ⟨v, r, e2, rfl, hb, h1.symm, h2.symm⟩)))))))
    ·cases h
  ·rename_i e2
   split at h
   ·rename_i e3
    cases l with
    | nil => cases h
    | cons v r =>
     simp only at h
     split at h
     ·rename_i hk
      split at h
      ·rename_i hb; injection h with h; injection h with h1 h2; exact .inr (.inr (.inl ⟨v, r, e3, rfl, hk, hb, h1.symm, h2.symm⟩))
      ·cases h
     ·rename_i hk; exact .inr (.inr (.inr (.inl ⟨v, r, e3, rfl, hk, h⟩)))
   ·rename_i e3
    split at h
    ·rename_i e4
     cases l with
     | nil => cases h
     | cons v r =>
      simp only at h
      split at h
      ·rename_i hk
       split at h
       ·rename_i h0
        split at h
        ·rename_i e5
         split at h
         ·rename_i x hx; injection h with h; injection h with h1 h2; exact .inr (.inr (.inr (.inr (.inr (.inr (.inr (.inr (.inl ⟨v, r, x, e5, rfl, hk, h0, hx, h1.symm, h2.symm⟩))))))))
         ·cases h
        ·rename_i e5
         cases r with
         | nil => cases h
         | cons x r =>
          simp only at h
          split at h
          ·rename_i hl; injection h with h; injection h with h1 h2; exact .inr (.inr (.inr (.inr (.inr (.inr (.inr (.inr (.inr ⟨v, x, r, e4.resolve_left e5, rfl, hk, h0, hl, h1.symm, h2.symm⟩))))))))
          ·cases h
       ·cases h
      ·rename_i hk
       rcases e4 with e4 | e4
       ·exact .inr (.inr (.inr (.inr (.inl ⟨v, r, e4, rfl, hk, h⟩))))
       ·exact .inr (.inr (.inr (.inr (.inr (.inl ⟨v, r, e4, rfl, hk, h⟩)))))
    ·rename_i e4
     exact .inr (.inr (.inr (.inr (.inr (.inr (.inl ⟨e1, e2, e3, fun e => e4 (.inl e), fun e => e4 (.inr e), h⟩))))))
theorem zDT {s s2 : Mc} {name : Str} {x y : Vl} {b : Bool} (h : opA s name [x, y] = some (s2, b)) (hx : x.kind = 1) (hy : y.kind = 1) :
  (∃ v, zEc name x.n y.n = some v ∧ s2 = s.has v ∧ b = true) ∨ (zEc name x.n y.n = none ∧ ((name = [47] ∧ s2 = s.ends 2 ∧ b = true) ∨ (¬ name = [47] ∧ s2 = s ∧ b = false))) := by
 simp only [opA, if_pos (show x.kind = 1 ∧ y.kind = 1 from ⟨hx, hy⟩)] at h
 cases hb : zEc name x.n y.n with
 | some v => rw [hb] at h; injection h with h; injection h with h1 h2; exact .inl ⟨v, rfl, h1.symm, h2.symm⟩
 | none =>
  rw [hb] at h; simp only at h
  split at h
  ·rename_i e; injection h with h; injection h with h1 h2; exact .inr ⟨rfl, .inl ⟨e, h1.symm, h2.symm⟩⟩
  ·rename_i e; injection h with h; injection h with h1 h2; exact .inr ⟨rfl, .inr ⟨e, h1.symm, h2.symm⟩⟩
theorem zAT {s s2 : Mc} {name : Str} {l : List Vl} {b : Bool} (h : opA s name l = some (s2, b)) (hn : ¬ ∃ x y, l = [x, y] ∧ x.kind = 1 ∧ y.kind = 1) : s2 = s ∧ b = false := by
 unfold opA at h
 split at h
 ·rename_i x y
  split at h
  ·rename_i hk; exact absurd ⟨x, y, rfl, hk.1, hk.2⟩ hn
  ·injection h with h; injection h with h1 h2; exact ⟨h1.symm, h2.symm⟩
 ·injection h with h; injection h with h1 h2; exact ⟨h1.symm, h2.symm⟩
theorem zDQ (l : List Vl) : (∃ x y, l = [x, y] ∧ x.kind = 1 ∧ y.kind = 1) ∨ (∃ x y, l = [x, y] ∧ x.kind = 1 ∧ ¬ y.kind = 1) ∨ (∃ x y, l = [x, y] ∧ ¬ x.kind = 1) ∨ ¬ l.length = 2 := by
 match l with
 | [] => exact .inr (.inr (.inr (by simp)))
 | [x] => exact .inr (.inr (.inr (by simp)))
 | [x, y] =>
  by_cases hx : x.kind = 1
  ·by_cases hy : y.kind = 1
   ·exact .inl ⟨x, y, rfl, hx, hy⟩
   ·exact .inr (.inl ⟨x, y, rfl, hx, hy⟩)
  ·exact .inr (.inr (.inl ⟨x, y, rfl, hx⟩))
 | x :: y :: z :: r => exact .inr (.inr (.inr (by simp)))
set_option maxHeartbeats 6400000 in
theorem op_g {w : World} {m : Mem} {g : Nat} {s : Mc} {y : McY} {name : Str} {o_l : Option Addr} {c_l : Nat} {l : List Vl} {s2 : Mc} {b : Bool} (hA : Agree w m) (hL : Loc ((ML g s y).flatMap Res.blocks) w.heap.size (ML g s y) w m) (hS : McR m s y) (h_l : Vls m o_l l.length c_l l) (hrun : opM s name l = some (s2, b)) : FnR Try.prog 52 #[.pointer (some ⟨g, 0, none⟩), S name, .slice o_l l.length c_l] (ML g s y) w m fun rs' m' v => ∃ y', rs' = ML g s2 y' ∧ McR m' s2 y' ∧ v = .bool b := by
 have hb_l := h_l.big; have hc_l := h_l.cap
 refine zZ (vs := [_, _, _]) func52 rfl rfl rfl fun a0 hfr0 => ?_
 have hst0 := zW hA hL
 have hM : MLe m m := MLe.refl m
 have hin := hS.inp.1
 have hbi9 := hin.big
 have hci9 := hin.cap
 have htr := hS.tr
 obtain ⟨yc, pe, yv, pv, fo, fc, co, cc, io, ic, mo, to, tc⟩ := y
 have hwy9 := op_ways hrun
 refine zB fun _ hK1 => ?_
 refine rp0 hst0 hfr0 (.cons rfl (zD rfl) <| .nil) fun a1 w1 m1 hst1 hle1 hk1 => ?_
 have hfr1 := hk1.fr (.o 0 <| .o 1 <| .o 2 <| .nil)
 replace hS := hS.mono hle1
 replace h_l := h_l.mono hle1
 replace hin := hin.mono hle1
 replace htr := htr.mono hle1
 replace hM := hM.trans hle1
 clear hst0 hfr0 hk1
 refine hK1 _ _ ?_
 refine zB fun _ hK2 => ?_
 replace hst1 := hst1.more (r := .free) trivial List.nodup_nil (by simp [Res.blocks])
 refine ra0 (tch := [(2, 3, (fun v => .blk v _)), (3, 3, (fun v => .blk v _))]) hst1 hfr1 (.cons rfl (zQ (.cons rfl <| .nil) underlying31 zeroValue31 (.cons sizeOf3 <| .cons sizeOf3 <| .cons sizeOf9 <| .cons sizeOf29 <| .nil) rfl) <| .cons rfl (zQ (.cons rfl <| .nil) underlying72 zeroValue72 (.cons sizeOf31 <| .cons sizeOf68 <| .cons sizeOf69 <| .cons sizeOf70 <| .nil) rfl) <| .consT rfl rfl (fun _ => rfl) rfl (zP zeroValue72 rfl) <| .consT rfl rfl (fun _ => rfl) rfl (zb 7 rfl rfl rfl fun y7 => za rfl rfl rfl rfl rfl sizeOf72 rfl rfl rfl) <| .nil) fun a2 w2 m2 hst2 hle2 hk2 => ?_
 have hfr2 := hk2.fr (.o 0 <| .o 1 <| .o 2 <| .nil)
 obtain ⟨g7, e3, _⟩ := hk2.ex 7 rfl
 replace hfr2 := hfr2.cons e3
 replace hst2 := hst2.fin (L' := [_, _, _, _]) (.cons e3 <| .cons e3 <| .nil)
 try simp only [List.take_succ_cons, List.take_zero, List.drop_succ_cons, List.drop_zero, List.cons_append, List.nil_append, List.append_nil, List.length_cons, List.length_nil, Nat.zero_add, Nat.reduceAdd] at hst2
 replace hS := hS.mono hle2
 replace h_l := h_l.mono hle2
 replace hin := hin.mono hle2
 replace htr := htr.mono hle2
 replace hM := hM.trans hle2
 clear hst1 hfr1 hk2
 refine hK2 _ _ ?_
 refine zB fun _ hK4 => ?_
 refine zT ?_
 refine zB fun _ hK5 => ?_
 rcases hwy9 with ⟨rfl, hi9, rfl, rfl⟩ | ⟨n9, r9, rfl, hi9, rfl, rfl⟩ | ⟨v9, r9, rfl, hlc9, hvk9, hbn, rfl, rfl⟩ | ⟨v9, r9, rfl, hlc9, hnk, hop9⟩ | ⟨v9, r9, rfl, hlc9, hnk, hop9⟩ | ⟨v9, r9, rfl, hlc9, hnk, hop9⟩ | ⟨hz0, hz1, hz2, hz3, hz4, hop9⟩ | ⟨v9, r9, rfl, hlc9, hbn, rfl, rfl⟩ | ⟨v9, r9, z9, rfl, hlc9, hvk9, hv09, hcx9, rfl, rfl⟩ | ⟨v9, z9, r9, rfl, hlc9, hvk9, hv09, hcl9, rfl, rfl⟩
 ·skip
  refine rp0 hst2 hfr2 (.cons rfl (zC rfl) <| .cons rfl (zd rfl rfl) <| .cons rfl (zC rfl) <| .cons rfl (zC rfl) <| .cons rfl (zL rfl) <| .cons rfl (zA (off := 19) rfl underlying79 rfl rfl sizeOf26 rfl) <| .cons rfl (zK (j := 0) rfl rfl isAgg26 rfl) <| .cons rfl (zl rfl underlying26) <| .cons rfl (zS rfl rfl) <| .cons rfl (zU rfl rfl rfl) <| .cons rfl (zD rfl) <| .nil) fun a3 w3 m3 hst3 hle3 hk3 => ?_
  have hfr3 := hk3.fr (.o 0 <| .o 1 <| .o 2 <| .o 7 <| .n 13 <| .nil)
  clear hst2 hfr2 hk3
  refine hK5 _ _ ?_
  refine zE hfr3 rfl rfl (fun hb13 => ?_) (fun hb13 => ?_)
  ·try simp only [nqs] at hb13
   refine zB fun _ hK6 => ?_
   replace hS := hS.mono hle3
   replace h_l := h_l.mono hle3
   replace hin := hin.mono hle3
   replace htr := htr.mono hle3
   replace hM := hM.trans hle3
   refine ra0 (tch := [(1, 0, (fun _ => MK g (s.ends 3) ⟨yc, pe, yv, pv, fo, fc, co, cc, io, ic, mo, to, tc⟩))]) hst3 hfr3 (.cons rfl (zC rfl) <| .consT rfl rfl (fun _ => rfl) rfl (zj rfl (.cons rfl <| .cons rfl <| .nil) call35 (κ := .eq (.bool true)) (fun σ w m hK hr hkn => by have hle_ := KC.le hK; have hA := KC.agree hK; have hM := hM.trans hle_; have hS := hS.mono hle_; have h_l := h_l.mono hle_; have hin := hin.mono hle_; have htr := htr.mono hle_; exact Zy (s := s) (zDf (s := s) (y := ⟨yc, pe, yv, pv, fo, fc, co, cc, io, ic, mo, to, tc⟩) hA hr hS ⟨by decide, by decide⟩))) <| .cons rfl (zD rfl) <| .nil) fun a4 w4 m4 hst4 hle4 hk4 => ?_
   have hfr4 := hk4.fr (.n 6 <| .nil)
   replace hst4 := hst4.fin (L' := [_, _, _, _]) (.cons rfl <| .nil)
   clear hst3 hfr3 hk4
   obtain ⟨y7, hst4, hS7, hK7⟩ := zp (k := 0) hst4 rfl
   simp only [List.set_cons_zero] at hst4
   refine hK6 _ _ ?_
   refine zN ?_
   repeat (with_reducible first | refine zH ?_ | refine zG ?_)
   exact zO hst4 hfr4 rfl (.tmp rfl <| .nil) (⟨_, (hst4.take 3).loc, y7, (by simp only [ML, Zh, Ze]; rw [hK7.to, hK7.tc, hK7.co, hK7.cc]; rfl), hS7, rfl⟩)
  ·rw [hi9] at hb13; simp [rdS] at hb13
 ·skip
  have hil9 : s.input.length = r9.length + 1 := by rw [hi9]; rfl
  refine rp0 hst2 hfr2 (.cons rfl (zC rfl) <| .cons rfl (zd rfl rfl) <| .cons rfl (zC rfl) <| .cons rfl (zC rfl) <| .cons rfl (zL rfl) <| .cons rfl (zA (off := 19) rfl underlying79 rfl rfl sizeOf26 rfl) <| .cons rfl (zK (j := 0) rfl rfl isAgg26 rfl) <| .cons rfl (zl rfl underlying26) <| .cons rfl (zS rfl rfl) <| .cons rfl (zU rfl rfl rfl) <| .cons rfl (zD rfl) <| .nil) fun a3 w3 m3 hst3 hle3 hk3 => ?_
  have hfr3 := hk3.fr (.o 0 <| .o 1 <| .o 2 <| .o 7 <| .n 13 <| .nil)
  clear hst2 hfr2 hk3
  refine hK5 _ _ ?_
  refine zE hfr3 rfl rfl (fun hb13 => ?_) (fun hb13 => ?_)
  ·rw [hi9] at hb13; simp at hb13; omega
  ·try simp only [nqs] at hb13
   refine zB fun _ hK8 => ?_
   refine rp0 hst3 hfr3 (.cons rfl (zC rfl) <| .cons rfl (zd rfl rfl) <| .cons rfl (zD rfl) <| .nil) fun a4 w4 m4 hst4 hle4 hk4 => ?_
   have hfr4 := hk4.fr (.o 0 <| .o 1 <| .o 2 <| .o 7 <| .n 26 <| .nil)
   clear hst3 hfr3 hk4
   refine hK8 _ _ ?_
   refine zE hfr4 rfl rfl (fun hb26 => ?_) (fun hb26 => ?_)
   ·try simp only [nqs] at hb26
    refine zB fun _ hK9 => ?_
    have zq1 := hle3.trans hle4
    replace hin := hin.mono zq1
    obtain ⟨p10, vs10, x10, ho10, hd10, hm_x10, ht10, hcv10, hl10, hv10⟩ := hin.nth (k := 0) (by omega)
    cases ho10
    subst hv10
    have hxn9 : x10 = n9 := by have h9 := hd10; rw [hi9] at h9; simp at h9; exact h9.symm
    subst hxn9
    replace hS := hS.mono zq1
    have hni9 := hS.inp.2 x10 hm_x10
    refine rp0 hst4 hfr4 (.cons rfl (zC rfl) <| .cons rfl (zL rfl) <| .cons rfl (zA (off := 19) rfl underlying79 rfl rfl sizeOf26 rfl) <| .cons rfl (zK (j := 0) rfl rfl isAgg26 rfl) <| .cons rfl (zI (k := 0) rfl rfl underlying26 sizeOf3 rfl (by omega)) <| .cons rfl (zk rfl hcv10 isAgg3 rfl) <| .cons rfl (zD rfl) <| .nil) fun a5 w5 m5 hst5 hle5 hk5 => ?_
    have hfr5 := hk5.fr (.o 0 <| .n 8 <| .nil)
    clear hst4 hfr4 hk5
    refine hK9 _ _ ?_
    refine zB fun _ hK11 => ?_
    replace hin := hin.mono hle5
    have hct12 : Ints _ _ _ _ ((s.input.take (s.input.length)).drop (1)) := hin.cut (l := 1) (k := s.input.length) (by omega) (by omega)
    have hcl12 : (s.input.length) - (1) = (((s.input.take (s.input.length)).drop (1))).length := hct12.len.symm
    have hcu12 : Ints _ _ _ _ ((s.input.take (s.input.length)).drop (1)) := hct12.lenL
    refine ra0 (tch := [(8, 0, (fun _ => .blk _ _))]) hst5 hfr5 (.cons rfl (zC rfl) <| .cons rfl (zC rfl) <| .cons rfl (zL rfl) <| .cons rfl (zA (off := 19) rfl underlying79 rfl rfl sizeOf26 rfl) <| .cons rfl (zK (j := 0) rfl rfl isAgg26 rfl) <| .cons rfl (zAW (l := 1) (h := s.input.length) rfl (.some rfl (by omega)) .none underlying26 sizeOf3 (by first | omega | (dsimp only; omega)) (by first | omega | (dsimp only; omega))) <| .cons rfl (zL rfl) <| .cons rfl (zA (off := 19) rfl underlying79 rfl rfl sizeOf26 rfl) <| .consT rfl rfl (fun _ => rfl) rfl (z1 rfl rfl rfl sizeOf26 rfl rfl rfl) <| .nil) fun a6 w6 m6 hst6 hle6 hk6 => ?_
    have hfr6 := hk6.fr (.o 0 <| .o 8 <| .nil)
    replace hst6 := hst6.fin (L' := [_, _, _, _]) (.cons rfl <| .nil)
    try simp only [List.take_succ_cons, List.take_zero, List.drop_succ_cons, List.drop_zero, List.cons_append, List.nil_append, List.append_nil, List.length_cons, List.length_nil, Nat.zero_add, Nat.reduceAdd] at hst6
    clear hst5 hfr5 hk6
    have hr9 : (s.input.take s.input.length).drop 1 = r9 := by rw [List.take_length, hi9]; rfl
    rw [hcl12, hr9] at hst6
    replace hcu12 := hcu12.mono hle6
    have hi8 := hcu12
    rw [hr9] at hi8
    have zq2 := hle5.trans hle6
    replace hS := hS.mono zq2
    have hS9 : McR m6 ({ s with input := r9 } : Mc) ⟨yc, pe, yv, pv, fo, fc, co, cc, (if ic = 1 then (some p10 : Option Addr) else (some p10).map (fun x : Addr => x.add (1 * 1))), ic - 1, mo, to, tc⟩ := ⟨hS.c, hS.e, hS.v, hS.ev, hS.fr, ⟨hi8, fun q hq => hS.inp.2 q (by rw [hi9]; exact .tail _ hq)⟩, hS.next, hS.kind, hS.eff, hS.steps, hS.konts, hS.tr⟩
    refine hK11 _ _ ?_
    refine zB fun _ hK13 => ?_
    have zq3 := zq1.trans zq2
    replace h_l := h_l.mono zq3
    replace htr := htr.mono zq3
    replace hM := hM.trans zq3
    replace hcv10 := hcv10.mono zq2
    replace hin := hin.mono hle6
    replace hct12 := hct12.mono hle6
    refine ra0 (tch := [(4, 0, (fun _ => MK g (({ s with input := r9 } : Mc).has ⟨1, x10, [], [], .none, []⟩) ⟨yc, pe, yv, pv, fo, fc, co, cc, (if ic = 1 then (some p10 : Option Addr) else (some p10).map (fun x : Addr => x.add (1 * 1))), ic - 1, mo, to, tc⟩))]) hst6 hfr6 (.cons rfl (zC rfl) <| .cons rfl (zC rfl) <| .cons rfl (zQ (.cons rfl <| .cons rfl <| .nil) underlying31 zeroValue31 (.cons sizeOf3 <| .cons sizeOf3 <| .cons sizeOf9 <| .cons sizeOf29 <| .nil) rfl) <| .cons rfl (zQ (.cons rfl <| .nil) underlying72 zeroValue72 (.cons sizeOf31 <| .cons sizeOf68 <| .cons sizeOf69 <| .cons sizeOf70 <| .nil) rfl) <| .consT rfl rfl (fun _ => rfl) rfl (zj rfl (.cons rfl <| .cons rfl <| .nil) call49 (κ := .eq (.bool true)) (fun σ w m hK hr hkn => by have hle_ := KC.le hK; have hA := KC.agree hK; have hM := hM.trans hle_; have hS := hS.mono hle_; have h_l := h_l.mono hle_; have hin := hin.mono hle_; have htr := htr.mono hle_; have hcv10 := hcv10.mono hle_; have hct12 := hct12.mono hle_; have hcu12 := hcu12.mono hle_; have hS9 := hS9.mono hle_; exact Zy (s := ({ s with input := r9 } : Mc)) (zBu (s := ({ s with input := r9 } : Mc)) (x := ⟨1, x10, [], [], .none, []⟩) (y := ⟨yc, pe, yv, pv, fo, fc, co, cc, (if ic = 1 then (some p10 : Option Addr) else (some p10).map (fun x : Addr => x.add (1 * 1))), ic - 1, mo, to, tc⟩) hA hr hS9 (VlR.flat (k := 1) (n := x10) ⟨by decide, by decide⟩ hni9)))) <| .cons rfl (zD rfl) <| .nil) fun a7 w7 m7 hst7 hle7 hk7 => ?_
    have hfr7 := hk7.fr (.n 6 <| .nil)
    replace hst7 := hst7.fin (L' := [_, _, _, _]) (.cons rfl <| .nil)
    clear hst6 hfr6 hk7
    obtain ⟨y7, hst7, hS7, hK7⟩ := zp (k := 0) hst7 rfl
    simp only [List.set_cons_zero] at hst7
    refine hK13 _ _ ?_
    refine zN ?_
    repeat (with_reducible first | refine zH ?_ | refine zG ?_)
    exact zO hst7 hfr7 rfl (.tmp rfl <| .nil) (⟨_, (hst7.take 3).loc, y7, (by simp only [ML, Zh, Ze]; rw [hK7.to, hK7.tc, hK7.co, hK7.cc]; rfl), hS7, rfl⟩)
   ·simp [rdS] at hb26
 ·skip
  have hll9 : l.length = r9.length + 1 := by rw [hlc9]; rfl
  have hbd9 := zBj hbn
  refine rp0 hst2 hfr2 (.cons rfl (zC rfl) <| .cons rfl (zd rfl rfl) <| .cons rfl (zC rfl) <| .cons rfl (zF (κ := .eq (.bool false)) (b := true) 16 rfl rfl (fun h => by first | (exact absurd h (by decide)) | (simp at h; done) | (simp only [nq3] at h; exact absurd h (by assumption)) | simp_all)) <| .cons rfl (zF (κ := .eq (.bool false)) (b := true) 16 rfl rfl (fun h => by first | (exact absurd h (by decide)) | (simp at h; done) | (simp only [nq3] at h; exact absurd h (by assumption)) | simp_all)) <| .cons rfl (zF (κ := .eq (.bool false)) (b := true) 16 rfl rfl (fun h => by first | (exact absurd h (by decide)) | (simp at h; done) | (simp only [nq3] at h; exact absurd h (by assumption)) | simp_all)) <| .cons rfl (zF (κ := .eq (.bool false)) (b := true) 16 rfl rfl (fun h => by first | (exact absurd h (by decide)) | (simp at h; done) | (simp only [nq3] at h; exact absurd h (by assumption)) | simp_all)) <| .cons rfl (zF (κ := .eq (.bool false)) (b := true) 16 rfl rfl (fun h => by first | (exact absurd h (by decide)) | (simp at h; done) | (simp only [nq3] at h; exact absurd h (by assumption)) | simp_all)) <| .cons rfl (zF (κ := .eq (.bool false)) (b := true) 16 rfl rfl (fun h => by first | (exact absurd h (by decide)) | (simp at h; done) | (simp only [nq3] at h; exact absurd h (by assumption)) | simp_all)) <| .cons rfl (zU rfl rfl rfl) <| .cons rfl (zD rfl) <| .nil) fun a3 w3 m3 hst3 hle3 hk3 => ?_
  have hfr3 := hk3.fr (.o 0 <| .o 1 <| .o 2 <| .o 7 <| .n 13 <| .nil)
  clear hst2 hfr2 hk3
  refine hK5 _ _ ?_
  refine zE hfr3 rfl rfl (fun hb13 => ?_) (fun hb13 => ?_)
  ·simp [rdS, rfS, prS] at hb13
  ·try simp only [nqs] at hb13
   refine zB fun _ hK15 => ?_
   refine rp0 hst3 hfr3 (.cons rfl (zC rfl) <| .cons rfl (zd rfl rfl) <| .cons rfl (zD rfl) <| .nil) fun a4 w4 m4 hst4 hle4 hk4 => ?_
   have hfr4 := hk4.fr (.o 0 <| .o 1 <| .o 2 <| .o 7 <| .n 26 <| .nil)
   clear hst3 hfr3 hk4
   refine hK15 _ _ ?_
   refine zE hfr4 rfl rfl (fun hb26 => ?_) (fun hb26 => ?_)
   ·simp [rdS, rfS, prS] at hb26
   ·try simp only [nqs] at hb26
    refine zB fun _ hK16 => ?_
    refine rp0 hst4 hfr4 (.cons rfl (zC rfl) <| .cons rfl (zd rfl rfl) <| .cons rfl (zD rfl) <| .nil) fun a5 w5 m5 hst5 hle5 hk5 => ?_
    have hfr5 := hk5.fr (.o 0 <| .o 1 <| .o 2 <| .o 7 <| .n 48 <| .nil)
    clear hst4 hfr4 hk5
    refine hK16 _ _ ?_
    refine zE hfr5 rfl rfl (fun hb48 => ?_) (fun hb48 => ?_)
    ·simp [rdS, rfS, prS] at hb48
    ·try simp only [nqs] at hb48
     refine zB fun _ hK17 => ?_
     have zq4 := hle4.trans hle5
     have zq5 := hle3.trans zq4
     replace h_l := h_l.mono zq5
     obtain ⟨p18, vs18, x18, ho18, hd18, hm_x18, ht18, hcv18, hl18, hv18⟩ := h_l.nth (k := 0) (by omega)
     cases ho18
     obtain ⟨⟨oa18, ca18, pf18, ob18, cb18⟩, rfl, ⟨hi18, hj18⟩, hvk18, hcl18, hfm18, hnl18⟩ := hv18.open_
     have hbk18 := hvk18.big; have hbf18 := hfm18.big
     have hxv9 : x18 = v9 := by have h9 := hd18; rw [hlc9] at h9; simp at h9; exact h9.symm
     subst hxv9
     refine rp0 hst5 hfr5 (.cons rfl (zC rfl) <| .cons rfl (zd rfl rfl) <| .cons rfl (zC rfl) <| .cons rfl (zC rfl) <| .cons rfl (zI (k := 0) rfl rfl underlying68 sizeOf72 rfl (by omega)) <| .cons rfl (zA (off := 0) rfl underlying72 rfl rfl sizeOf31 rfl) <| .cons rfl (zA (off := 0) rfl underlying31 rfl rfl sizeOf3 rfl) <| .cons rfl (zJ rfl (hcv18.drop 0) isAgg3 rfl) <| .cons rfl (zS rfl rfl) <| .cons rfl (zU rfl rfl rfl) <| .cons rfl (zD rfl) <| .nil) fun a6 w6 m6 hst6 hle6 hk6 => ?_
     have hfr6 := hk6.fr (.o 0 <| .o 1 <| .o 2 <| .o 7 <| .n 74 <| .nil)
     clear hst5 hfr5 hk6
     refine hK17 _ _ ?_
     refine zE hfr6 rfl rfl (fun hb74 => ?_) (fun hb74 => ?_)
     ·try simp only [nqs] at hb74
      refine zB fun _ hK19 => ?_
      replace hcv18 := hcv18.mono hle6
      refine zc (tch := [(12, 1, (fun v => .rowx (nz v) _ _ _ _)), (16, 0, (fun u => .blk _ (.cells (_ ++ [u] ++ _).toArray _)))]) (fun _ => zw) hst6 hfr6 (by kernel_rfl) (by kernel_rfl) (by kernel_rfl) (.cons rfl (zC rfl) <| .cons rfl (zC rfl) <| .cons rfl (zL rfl) <| .cons rfl (zA (off := 21) rfl underlying79 rfl rfl sizeOf35 rfl) <| .cons rfl (zA (off := 5) rfl underlying35 rfl rfl sizeOf26 rfl) <| .cons rfl (zK (k := 26) (j := 0) rfl rfl isAgg26 rfl) <| .cons rfl (zC rfl) <| .cons rfl (zI (k := 0) rfl rfl underlying68 sizeOf72 rfl (by omega)) <| .cons rfl (zA (off := 0) rfl underlying72 rfl rfl sizeOf31 rfl) <| .cons rfl (zA (off := 1) rfl underlying31 rfl rfl sizeOf3 rfl) <| .cons rfl (zJ rfl (hcv18.drop 0) isAgg3 rfl) <| .cons rfl (Zb (.cons rfl <| .nil) underlying26 sizeOf3 zeroValue3 rfl rfl rfl rfl) <| .consT rfl rfl (fun _ => rfl) rfl (zb 96 rfl rfl rfl fun y96 => zCm (size := 1) (bytes := 8) (l := s.trace) (l' := [x18.n]) rfl rfl (fun _ => by first | exact .inl rfl | exact .inr (.inl rfl)) underlying26 type3 rfl rfl rfl rfl (fun w m hK => Sl.one (vs := [_]) hK.2 rfl rfl) rfl (by decide) (by simp only [maxLen]; omega) (by omega)) <| .cons rfl (zL rfl) <| .cons rfl (zA (off := 21) rfl underlying79 rfl rfl sizeOf35 rfl) <| .cons rfl (zA (off := 5) rfl underlying35 rfl rfl sizeOf26 rfl) <| .consT rfl rfl (fun _ => rfl) rfl (zb 97 rfl rfl rfl fun y97 => zAj (k := 26) rfl rfl rfl rfl rfl sizeOf26 rfl rfl rfl) <| .nil) fun a7 w7 m7 hst7 hle7 hk7 => ?_
      have hfr7 := hk7.fr (.o 0 <| .o 7 <| .nil)
      obtain ⟨⟨tr_20o, tr_20p⟩, e21, hsl_tr_20⟩ := hk7.ex 97 rfl
      replace hst7 := hst7.fin (L' := [_, _, _, _]) (.cons e21 <| .cons e21 <| .nil)
      try simp only [List.take_succ_cons, List.take_zero, List.drop_succ_cons, List.drop_zero, List.cons_append, List.nil_append, List.append_nil, List.length_cons, List.length_nil, Nat.zero_add, Nat.reduceAdd] at hst7
      clear hst6 hfr6 hk7
      replace hsl_tr_20 : Ints m7 tr_20o (s.trace ++ [x18.n]).length tr_20p (s.trace ++ [x18.n]) := hsl_tr_20
      have zq6 := hle6.trans hle7
      have zq7 := zq5.trans zq6
      replace hS := hS.mono zq7
      have hS9 : McR m7 ({ s with trace := s.trace ++ [x18.n] } : Mc) ⟨yc, pe, yv, pv, fo, fc, co, cc, io, ic, mo, tr_20o, tr_20p⟩ := ⟨hS.c, hS.e, hS.v, hS.ev, hS.fr, hS.inp, hS.next, hS.kind, hS.eff, hS.steps, hS.konts, hsl_tr_20⟩
      refine hK19 _ _ ?_
      refine zB fun _ hK22 => ?_
      replace hin := hin.mono zq7
      replace htr := htr.mono zq7
      replace hM := hM.trans zq7
      replace h_l := h_l.mono zq6
      replace hv18 := hv18.mono zq6
      replace hvk18 := hvk18.mono zq6
      replace hcl18 := hcl18.mono zq6
      replace hfm18 := hfm18.mono zq6
      replace hcv18 := hcv18.mono hle7
      refine ra0 (tch := [(2, 0, (fun _ => MK g (({ s with trace := s.trace ++ [x18.n] } : Mc).has ⟨3, 0, [], [], .none, []⟩) ⟨yc, pe, yv, pv, fo, fc, co, cc, io, ic, mo, tr_20o, tr_20p⟩))]) hst7 hfr7 (.cons rfl (zC rfl) <| .cons rfl (zh (j := 3) rfl rfl isAgg72 sizeOf72 rfl) <| .consT rfl rfl (fun _ => rfl) rfl (zj rfl (.cons rfl <| .cons rfl <| .nil) call49 (κ := .eq (.bool true)) (fun σ w m hK hr hkn => by have hle_ := KC.le hK; have hA := KC.agree hK; have hM := hM.trans hle_; have hS := hS.mono hle_; have h_l := h_l.mono hle_; have hin := hin.mono hle_; have htr := htr.mono hle_; have hcv18 := hcv18.mono hle_; have hv18 := hv18.mono hle_; have hvk18 := hvk18.mono hle_; have hcl18 := hcl18.mono hle_; have hfm18 := hfm18.mono hle_; have hsl_tr_20 := hsl_tr_20.mono hle_; have hS9 := hS9.mono hle_; exact Zy (s := ({ s with trace := s.trace ++ [x18.n] } : Mc)) (zBu (s := ({ s with trace := s.trace ++ [x18.n] } : Mc)) (x := ⟨3, 0, [], [], .none, []⟩) (y := ⟨yc, pe, yv, pv, fo, fc, co, cc, io, ic, mo, tr_20o, tr_20p⟩) hA hr hS9 (VlR.flat (k := 3) (n := 0) ⟨by decide, by decide⟩ ⟨by decide, by decide⟩)))) <| .cons rfl (zD rfl) <| .nil) fun a8 w8 m8 hst8 hle8 hk8 => ?_
      have hfr8 := hk8.fr (.n 6 <| .nil)
      replace hst8 := hst8.fin (L' := [_, _, _, _]) (.cons rfl <| .nil)
      clear hst7 hfr7 hk8
      obtain ⟨y7, hst8, hS7, hK7⟩ := zp (k := 0) hst8 rfl
      simp only [List.set_cons_zero] at hst8
      refine hK22 _ _ ?_
      refine zN ?_
      repeat (with_reducible first | refine zH ?_ | refine zG ?_)
      exact zO hst8 hfr8 rfl (.tmp rfl <| .nil) (⟨_, (hst8.take 3).loc, y7, (by simp only [ML, Zh, Ze]; rw [hK7.to, hK7.tc, hK7.co, hK7.cc]; rfl), hS7, rfl⟩)
     ·simp [prS, hvk9] at hb74
 ·skip
  have hll9 : l.length = r9.length + 1 := by rw [hlc9]; rfl
  refine rp0 hst2 hfr2 (.cons rfl (zC rfl) <| .cons rfl (zd rfl rfl) <| .cons rfl (zC rfl) <| .cons rfl (zF (κ := .eq (.bool false)) (b := true) 16 rfl rfl (fun h => by first | (exact absurd h (by decide)) | (simp at h; done) | (simp only [nq3] at h; exact absurd h (by assumption)) | simp_all)) <| .cons rfl (zF (κ := .eq (.bool false)) (b := true) 16 rfl rfl (fun h => by first | (exact absurd h (by decide)) | (simp at h; done) | (simp only [nq3] at h; exact absurd h (by assumption)) | simp_all)) <| .cons rfl (zF (κ := .eq (.bool false)) (b := true) 16 rfl rfl (fun h => by first | (exact absurd h (by decide)) | (simp at h; done) | (simp only [nq3] at h; exact absurd h (by assumption)) | simp_all)) <| .cons rfl (zF (κ := .eq (.bool false)) (b := true) 16 rfl rfl (fun h => by first | (exact absurd h (by decide)) | (simp at h; done) | (simp only [nq3] at h; exact absurd h (by assumption)) | simp_all)) <| .cons rfl (zF (κ := .eq (.bool false)) (b := true) 16 rfl rfl (fun h => by first | (exact absurd h (by decide)) | (simp at h; done) | (simp only [nq3] at h; exact absurd h (by assumption)) | simp_all)) <| .cons rfl (zF (κ := .eq (.bool false)) (b := true) 16 rfl rfl (fun h => by first | (exact absurd h (by decide)) | (simp at h; done) | (simp only [nq3] at h; exact absurd h (by assumption)) | simp_all)) <| .cons rfl (zU rfl rfl rfl) <| .cons rfl (zD rfl) <| .nil) fun a3 w3 m3 hst3 hle3 hk3 => ?_
  have hfr3 := hk3.fr (.o 0 <| .o 1 <| .o 2 <| .o 7 <| .n 13 <| .nil)
  clear hst2 hfr2 hk3
  refine hK5 _ _ ?_
  refine zE hfr3 rfl rfl (fun hb13 => ?_) (fun hb13 => ?_)
  ·simp [rdS, rfS, prS] at hb13
  ·try simp only [nqs] at hb13
   refine zB fun _ hK24 => ?_
   refine rp0 hst3 hfr3 (.cons rfl (zC rfl) <| .cons rfl (zd rfl rfl) <| .cons rfl (zD rfl) <| .nil) fun a4 w4 m4 hst4 hle4 hk4 => ?_
   have hfr4 := hk4.fr (.o 0 <| .o 1 <| .o 2 <| .o 7 <| .n 26 <| .nil)
   clear hst3 hfr3 hk4
   refine hK24 _ _ ?_
   refine zE hfr4 rfl rfl (fun hb26 => ?_) (fun hb26 => ?_)
   ·simp [rdS, rfS, prS] at hb26
   ·try simp only [nqs] at hb26
    refine zB fun _ hK25 => ?_
    refine rp0 hst4 hfr4 (.cons rfl (zC rfl) <| .cons rfl (zd rfl rfl) <| .cons rfl (zD rfl) <| .nil) fun a5 w5 m5 hst5 hle5 hk5 => ?_
    have hfr5 := hk5.fr (.o 0 <| .o 1 <| .o 2 <| .o 7 <| .n 48 <| .nil)
    clear hst4 hfr4 hk5
    refine hK25 _ _ ?_
    refine zE hfr5 rfl rfl (fun hb48 => ?_) (fun hb48 => ?_)
    ·simp [rdS, rfS, prS] at hb48
    ·try simp only [nqs] at hb48
     refine zB fun _ hK26 => ?_
     have zq8 := hle4.trans hle5
     have zq9 := hle3.trans zq8
     replace h_l := h_l.mono zq9
     obtain ⟨p27, vs27, x27, ho27, hd27, hm_x27, ht27, hcv27, hl27, hv27⟩ := h_l.nth (k := 0) (by omega)
     cases ho27
     obtain ⟨⟨oa27, ca27, pf27, ob27, cb27⟩, rfl, ⟨hi27, hj27⟩, hvk27, hcl27, hfm27, hnl27⟩ := hv27.open_
     have hbk27 := hvk27.big; have hbf27 := hfm27.big
     have hxv9 : x27 = v9 := by have h9 := hd27; rw [hlc9] at h9; simp at h9; exact h9.symm
     subst hxv9
     refine rp0 hst5 hfr5 (.cons rfl (zC rfl) <| .cons rfl (zd rfl rfl) <| .cons rfl (zC rfl) <| .cons rfl (zC rfl) <| .cons rfl (zI (k := 0) rfl rfl underlying68 sizeOf72 rfl (by omega)) <| .cons rfl (zA (off := 0) rfl underlying72 rfl rfl sizeOf31 rfl) <| .cons rfl (zA (off := 0) rfl underlying31 rfl rfl sizeOf3 rfl) <| .cons rfl (zJ rfl (hcv27.drop 0) isAgg3 rfl) <| .cons rfl (zS rfl rfl) <| .cons rfl (zU rfl rfl rfl) <| .cons rfl (zD rfl) <| .nil) fun a6 w6 m6 hst6 hle6 hk6 => ?_
     have hfr6 := hk6.fr (.o 0 <| .o 1 <| .o 2 <| .o 7 <| .n 74 <| .nil)
     clear hst5 hfr5 hk6
     refine hK26 _ _ ?_
     refine zE hfr6 rfl rfl (fun hb74 => ?_) (fun hb74 => ?_)
     ·simp [prS, hnk] at hb74
     ·try simp only [nqs] at hb74
      refine zB fun _ hK28 => ?_
      refine rp0 hst6 hfr6 (.cons rfl (zC rfl) <| .cons rfl (zd rfl rfl) <| .cons rfl (zC rfl) <| .cons rfl (zF (κ := .eq (.bool false)) (b := true) 107 rfl rfl (fun h => by first | (exact absurd h (by decide)) | (simp at h; done) | (simp only [nq3] at h; exact absurd h (by assumption)) | simp_all)) <| .cons rfl (zF (κ := .eq (.bool false)) (b := true) 107 rfl rfl (fun h => by first | (exact absurd h (by decide)) | (simp at h; done) | (simp only [nq3] at h; exact absurd h (by assumption)) | simp_all)) <| .cons rfl (zF (κ := .eq (.bool false)) (b := true) 107 rfl rfl (fun h => by first | (exact absurd h (by decide)) | (simp at h; done) | (simp only [nq3] at h; exact absurd h (by assumption)) | simp_all)) <| .cons rfl (zF (κ := .eq (.bool false)) (b := true) 107 rfl rfl (fun h => by first | (exact absurd h (by decide)) | (simp at h; done) | (simp only [nq3] at h; exact absurd h (by assumption)) | simp_all)) <| .cons rfl (zF (κ := .eq (.bool false)) (b := true) 107 rfl rfl (fun h => by first | (exact absurd h (by decide)) | (simp at h; done) | (simp only [nq3] at h; exact absurd h (by assumption)) | simp_all)) <| .cons rfl (zF (κ := .eq (.bool false)) (b := true) 107 rfl rfl (fun h => by first | (exact absurd h (by decide)) | (simp at h; done) | (simp only [nq3] at h; exact absurd h (by assumption)) | simp_all)) <| .cons rfl (zU rfl rfl rfl) <| .cons rfl (zD rfl) <| .nil) fun a7 w7 m7 hst7 hle7 hk7 => ?_
      have hfr7 := hk7.fr (.o 0 <| .o 1 <| .o 2 <| .o 7 <| .n 104 <| .nil)
      clear hst6 hfr6 hk7
      refine hK28 _ _ ?_
      refine zE hfr7 rfl rfl (fun hb104 => ?_) (fun hb104 => ?_)
      ·simp [rdS, rfS, prS] at hb104
      ·try simp only [nqs] at hb104
       refine zB fun _ hK29 => ?_
       refine rp0 hst7 hfr7 (.cons rfl (zC rfl) <| .cons rfl (zd rfl rfl) <| .cons rfl (zC rfl) <| .cons rfl (zF (κ := .eq (.bool false)) (b := true) 131 rfl rfl (fun h => by first | (exact absurd h (by decide)) | (simp at h; done) | (simp only [nq3] at h; exact absurd h (by assumption)) | simp_all)) <| .cons rfl (zF (κ := .eq (.bool false)) (b := true) 131 rfl rfl (fun h => by first | (exact absurd h (by decide)) | (simp at h; done) | (simp only [nq3] at h; exact absurd h (by assumption)) | simp_all)) <| .cons rfl (zF (κ := .eq (.bool false)) (b := true) 131 rfl rfl (fun h => by first | (exact absurd h (by decide)) | (simp at h; done) | (simp only [nq3] at h; exact absurd h (by assumption)) | simp_all)) <| .cons rfl (zF (κ := .eq (.bool false)) (b := true) 131 rfl rfl (fun h => by first | (exact absurd h (by decide)) | (simp at h; done) | (simp only [nq3] at h; exact absurd h (by assumption)) | simp_all)) <| .cons rfl (zF (κ := .eq (.bool false)) (b := true) 131 rfl rfl (fun h => by first | (exact absurd h (by decide)) | (simp at h; done) | (simp only [nq3] at h; exact absurd h (by assumption)) | simp_all)) <| .cons rfl (zF (κ := .eq (.bool false)) (b := true) 131 rfl rfl (fun h => by first | (exact absurd h (by decide)) | (simp at h; done) | (simp only [nq3] at h; exact absurd h (by assumption)) | simp_all)) <| .cons rfl (zU rfl rfl rfl) <| .cons rfl (zD rfl) <| .nil) fun a8 w8 m8 hst8 hle8 hk8 => ?_
       have hfr8 := hk8.fr (.o 0 <| .o 1 <| .o 2 <| .o 7 <| .n 128 <| .nil)
       clear hst7 hfr7 hk8
       refine hK29 _ _ ?_
       refine zE hfr8 rfl rfl (fun hb128 => ?_) (fun hb128 => ?_)
       ·simp [rdS, rfS, prS] at hb128
       ·try simp only [nqs] at hb128
        refine zB fun _ hK30 => ?_
        rcases zDQ l with ⟨x9, y9, hl2, hxk, hyk⟩ | ⟨x9, y9, hl2, hxk, hyk⟩ | ⟨x9, y9, hl2, hxk⟩ | hln
        ·skip
         have hlw9 : l.length = 2 := by rw [hl2]; rfl
         have hxx9 : x27 = x9 := by have h9 := hd27; rw [hl2] at h9; simp at h9; exact h9.symm
         subst hxx9
         have zq10 := hle7.trans hle8
         have zq11 := hle6.trans zq10
         replace h_l := h_l.mono zq11
         obtain ⟨p31, vs31, x31, ho31, hd31, hm_x31, ht31, hcv31, hl31, hv31⟩ := h_l.nth (k := 1) (by omega)
         cases ho31
         obtain ⟨⟨oa31, ca31, pf31, ob31, cb31⟩, rfl, ⟨hi31, hj31⟩, hvk31, hcl31, hfm31, hnl31⟩ := hv31.open_
         have hbk31 := hvk31.big; have hbf31 := hfm31.big
         have hxy9 : x31 = y9 := by have h9 := hd31; rw [hl2] at h9; simp at h9; exact h9.symm
         subst hxy9
         rw [hl2] at hop9
         have hq9 := zDT hop9 hxk hyk
         replace hcv27 := hcv27.mono zq11
         refine rp0 hst8 hfr8 (.cons rfl (zC rfl) <| .cons rfl (zl rfl underlying68) <| .cons rfl (zS rfl rfl) <| .cons rfl (zC rfl) <| .cons rfl (zC rfl) <| .cons rfl (zI (k := 0) rfl rfl underlying68 sizeOf72 rfl (by omega)) <| .cons rfl (zA (off := 0) rfl underlying72 rfl rfl sizeOf31 rfl) <| .cons rfl (zA (off := 0) rfl underlying31 rfl rfl sizeOf3 rfl) <| .cons rfl (zJ rfl (hcv27.drop 0) isAgg3 rfl) <| .cons rfl (zS rfl rfl) <| .cons rfl (zU rfl rfl rfl) <| .cons rfl (zC rfl) <| .cons rfl (zC rfl) <| .cons rfl (zI (k := 1) rfl rfl underlying68 sizeOf72 rfl (by omega)) <| .cons rfl (zA (off := 0) rfl underlying72 rfl rfl sizeOf31 rfl) <| .cons rfl (zA (off := 0) rfl underlying31 rfl rfl sizeOf3 rfl) <| .cons rfl (zJ rfl (hcv31.drop 0) isAgg3 rfl) <| .cons rfl (zS rfl rfl) <| .cons rfl (zU rfl rfl rfl) <| .cons rfl (zD rfl) <| .nil) fun a9 w9 m9 hst9 hle9 hk9 => ?_
         have hfr9 := hk9.fr (.o 0 <| .o 1 <| .o 2 <| .n 155 <| .nil)
         clear hst8 hfr8 hk9
         refine hK30 _ _ ?_
         refine zE hfr9 rfl rfl (fun hb155 => ?_) (fun hb155 => ?_)
         ·try simp only [nqs] at hb155
          refine zB fun _ hK32 => ?_
          rcases hq9 with ⟨v8, hbm, rfl, rfl⟩ | ⟨hbm, hq8⟩
          ·skip
           obtain ⟨k8, n8, rfl, hik8, hin8, hor8⟩ := zEG hbm
           replace hst9 := hst9.more (r := .free) trivial List.nodup_nil (by simp [Res.blocks])
           replace hcv27 := hcv27.mono hle9
           replace hcv31 := hcv31.mono hle9
           refine zc (tch := [(15, 4, (fun v => .blk v _)), (16, 4, (fun v => .blk v _))]) (fun _ => zw) hst9 hfr9 (by kernel_rfl) (by kernel_rfl) (by kernel_rfl) (.cons rfl (zC rfl) <| .cons rfl (zC rfl) <| .cons rfl (zI (k := 0) rfl rfl underlying68 sizeOf72 rfl (by omega)) <| .cons rfl (zA (off := 0) rfl underlying72 rfl rfl sizeOf31 rfl) <| .cons rfl (zA (off := 1) rfl underlying31 rfl rfl sizeOf3 rfl) <| .cons rfl (zJ rfl (hcv27.drop 0) isAgg3 rfl) <| .cons rfl (zC rfl) <| .cons rfl (zI (k := 1) rfl rfl underlying68 sizeOf72 rfl (by omega)) <| .cons rfl (zA (off := 0) rfl underlying72 rfl rfl sizeOf31 rfl) <| .cons rfl (zA (off := 1) rfl underlying31 rfl rfl sizeOf3 rfl) <| .cons rfl (zJ rfl (hcv31.drop 0) isAgg3 rfl) <| .cons rfl (zX rfl (.cons rfl <| .cons rfl <| .cons rfl <| .nil) call65 (fun w m hK => by have hle_ := KC.le hK; have hA := KC.agree hK; exact zDn hA hor8)) <| .cons rfl (zC rfl) <| .cons rfl (zM rfl rfl) <| .cons rfl (zM rfl rfl) <| .consT rfl rfl (fun _ => rfl) rfl (zP zeroValue31 rfl) <| .consT rfl rfl (fun _ => rfl) rfl (zb 9 rfl rfl rfl fun y9 => za rfl rfl rfl rfl rfl sizeOf31 rfl rfl rfl) <| .cons rfl (zD rfl) <| .nil) fun a10 w10 m10 hst10 hle10 hk10 => ?_
           have hfr10 := hk10.fr (.o 0 <| .o 1 <| .n 10 <| .nil)
           obtain ⟨g9, e33, _⟩ := hk10.ex 9 rfl
           replace hfr10 := hfr10.cons e33
           replace hst10 := hst10.fin (L' := [_, _, _, _, _]) (.cons e33 <| .cons e33 <| .nil)
           try simp only [List.take_succ_cons, List.take_zero, List.drop_succ_cons, List.drop_zero, List.cons_append, List.nil_append, List.append_nil, List.length_cons, List.length_nil, Nat.zero_add, Nat.reduceAdd] at hst10
           clear hst9 hfr9 hk10
           refine hK32 _ _ ?_
           refine zB fun _ hK34 => ?_
           refine zB fun _ hK35 => ?_
           refine rp0 hst10 hfr10 (.cons rfl (zC rfl) <| .cons rfl (z2 rfl) <| .nil) fun a11 w11 m11 hst11 hle11 hk11 => ?_
           have hfr11 := hk11.fr (.o 0 <| .o 1 <| .o 9 <| .n 191 <| .nil)
           clear hst10 hfr10 hk11
           refine hK35 _ _ ?_
           refine zE hfr11 rfl rfl (fun hb191 => ?_) (fun hb191 => ?_)
           ·simp at hb191
           ·try simp only [nqs] at hb191
            refine zR ?_
            refine hK34 _ _ ?_
            refine zB fun _ hK36 => ?_
            have zq12 := hle10.trans hle11
            have zq13 := hle9.trans zq12
            have zq14 := zq11.trans zq13
            have zq15 := zq9.trans zq14
            replace hS := hS.mono zq15
            replace hin := hin.mono zq15
            replace htr := htr.mono zq15
            replace hM := hM.trans zq15
            replace hv27 := hv27.mono zq14
            replace hvk27 := hvk27.mono zq14
            replace hcl27 := hcl27.mono zq14
            replace hfm27 := hfm27.mono zq14
            replace h_l := h_l.mono zq13
            replace hv31 := hv31.mono zq13
            replace hvk31 := hvk31.mono zq13
            replace hcl31 := hcl31.mono zq13
            replace hfm31 := hfm31.mono zq13
            replace hcv27 := hcv27.mono zq12
            replace hcv31 := hcv31.mono zq12
            refine ra0 (tch := [(3, 0, (fun _ => MK g (s.has ⟨k8, n8, [], [], .none, []⟩) ⟨yc, pe, yv, pv, fo, fc, co, cc, io, ic, mo, to, tc⟩))]) hst11 hfr11 (.cons rfl (zC rfl) <| .cons rfl (zh (j := 4) rfl rfl isAgg31 sizeOf31 rfl) <| .cons rfl (zQ (.cons rfl <| .nil) underlying72 zeroValue72 (.cons sizeOf31 <| .cons sizeOf68 <| .cons sizeOf69 <| .cons sizeOf70 <| .nil) rfl) <| .consT rfl rfl (fun _ => rfl) rfl (zj rfl (.cons rfl <| .cons rfl <| .nil) call49 (κ := .eq (.bool true)) (fun σ w m hK hr hkn => by have hle_ := KC.le hK; have hA := KC.agree hK; have hM := hM.trans hle_; have hS := hS.mono hle_; have h_l := h_l.mono hle_; have hin := hin.mono hle_; have htr := htr.mono hle_; have hcv27 := hcv27.mono hle_; have hv27 := hv27.mono hle_; have hvk27 := hvk27.mono hle_; have hcl27 := hcl27.mono hle_; have hfm27 := hfm27.mono hle_; have hcv31 := hcv31.mono hle_; have hv31 := hv31.mono hle_; have hvk31 := hvk31.mono hle_; have hcl31 := hcl31.mono hle_; have hfm31 := hfm31.mono hle_; exact Zy (s := s) (zBu (s := s) (x := ⟨k8, n8, [], [], .none, []⟩) (y := ⟨yc, pe, yv, pv, fo, fc, co, cc, io, ic, mo, to, tc⟩) hA hr hS (VlR.flat (k := k8) (n := n8) hik8 hin8)))) <| .cons rfl (zD rfl) <| .nil) fun a12 w12 m12 hst12 hle12 hk12 => ?_
            have hfr12 := hk12.fr (.n 6 <| .nil)
            replace hst12 := hst12.fin (L' := [_, _, _, _, _]) (.cons rfl <| .nil)
            clear hst11 hfr11 hk12
            obtain ⟨y7, hst12, hS7, hK7⟩ := zp (k := 0) hst12 rfl
            simp only [List.set_cons_zero] at hst12
            refine hK36 _ _ ?_
            refine zN ?_
            repeat (with_reducible first | refine zH ?_ | refine zG ?_)
            exact zO hst12 hfr12 rfl (.tmp rfl <| .nil) (⟨_, (hst12.take 3).loc, y7, (by simp only [ML, Zh, Ze]; rw [hK7.to, hK7.tc, hK7.co, hK7.cc]; rfl), hS7, rfl⟩)
          ·skip
           replace hst9 := hst9.more (r := .free) trivial List.nodup_nil (by simp [Res.blocks])
           replace hcv27 := hcv27.mono hle9
           replace hcv31 := hcv31.mono hle9
           refine zc (tch := [(15, 4, (fun v => .blk v _)), (16, 4, (fun v => .blk v _))]) (fun _ => zw) hst9 hfr9 (by kernel_rfl) (by kernel_rfl) (by kernel_rfl) (.cons rfl (zC rfl) <| .cons rfl (zC rfl) <| .cons rfl (zI (k := 0) rfl rfl underlying68 sizeOf72 rfl (by omega)) <| .cons rfl (zA (off := 0) rfl underlying72 rfl rfl sizeOf31 rfl) <| .cons rfl (zA (off := 1) rfl underlying31 rfl rfl sizeOf3 rfl) <| .cons rfl (zJ rfl (hcv27.drop 0) isAgg3 rfl) <| .cons rfl (zC rfl) <| .cons rfl (zI (k := 1) rfl rfl underlying68 sizeOf72 rfl (by omega)) <| .cons rfl (zA (off := 0) rfl underlying72 rfl rfl sizeOf31 rfl) <| .cons rfl (zA (off := 1) rfl underlying31 rfl rfl sizeOf3 rfl) <| .cons rfl (zJ rfl (hcv31.drop 0) isAgg3 rfl) <| .cons rfl (zX rfl (.cons rfl <| .cons rfl <| .cons rfl <| .nil) call65 (fun w m hK => by have hle_ := KC.le hK; have hA := KC.agree hK; exact zDn hA (zEE hbm))) <| .cons rfl (zC rfl) <| .cons rfl (zM rfl rfl) <| .cons rfl (zM rfl rfl) <| .consT rfl rfl (fun _ => rfl) rfl (zP zeroValue31 rfl) <| .consT rfl rfl (fun _ => rfl) rfl (zb 9 rfl rfl rfl fun y9 => za rfl rfl rfl rfl rfl sizeOf31 rfl rfl rfl) <| .cons rfl (zD rfl) <| .nil) fun a10 w10 m10 hst10 hle10 hk10 => ?_
           have hfr10 := hk10.fr (.o 0 <| .o 1 <| .n 10 <| .nil)
           obtain ⟨g9, e38, _⟩ := hk10.ex 9 rfl
           replace hfr10 := hfr10.cons e38
           replace hst10 := hst10.fin (L' := [_, _, _, _, _]) (.cons e38 <| .cons e38 <| .nil)
           try simp only [List.take_succ_cons, List.take_zero, List.drop_succ_cons, List.drop_zero, List.cons_append, List.nil_append, List.append_nil, List.length_cons, List.length_nil, Nat.zero_add, Nat.reduceAdd] at hst10
           clear hst9 hfr9 hk10
           refine hK32 _ _ ?_
           refine zB fun _ hK39 => ?_
           refine zB fun _ hK40 => ?_
           refine rp0 hst10 hfr10 (.cons rfl (zC rfl) <| .cons rfl (z2 rfl) <| .nil) fun a11 w11 m11 hst11 hle11 hk11 => ?_
           have hfr11 := hk11.fr (.o 0 <| .o 1 <| .o 9 <| .n 191 <| .nil)
           clear hst10 hfr10 hk11
           refine hK40 _ _ ?_
           refine zE hfr11 rfl rfl (fun hb191 => ?_) (fun hb191 => ?_)
           ·try simp only [nqs] at hb191
            refine zB fun _ hK41 => ?_
            rcases hq8 with ⟨hn47, rfl, rfl⟩ | ⟨hn47, rfl, rfl⟩
            ·skip
             have zq16 := hle10.trans hle11
             have zq17 := hle9.trans zq16
             have zq18 := zq11.trans zq17
             have zq19 := zq9.trans zq18
             replace hS := hS.mono zq19
             replace hin := hin.mono zq19
             replace htr := htr.mono zq19
             replace hM := hM.trans zq19
             replace hv27 := hv27.mono zq18
             replace hvk27 := hvk27.mono zq18
             replace hcl27 := hcl27.mono zq18
             replace hfm27 := hfm27.mono zq18
             replace h_l := h_l.mono zq17
             replace hv31 := hv31.mono zq17
             replace hvk31 := hvk31.mono zq17
             replace hcl31 := hcl31.mono zq17
             replace hfm31 := hfm31.mono zq17
             replace hcv27 := hcv27.mono zq16
             replace hcv31 := hcv31.mono zq16
             refine ra0 (tch := [(4, 0, (fun _ => MK g (s.ends 2) ⟨yc, pe, yv, pv, fo, fc, co, cc, io, ic, mo, to, tc⟩))]) hst11 hfr11 (.cons rfl (zC rfl) <| .cons rfl (zd rfl rfl) <| .cons rfl (zC rfl) <| .cons rfl (zC rfl) <| .consTG rfl rfl (fun _ => rfl) (.inr ⟨_, _, _, rfl, rfl, (by first | (exact absurd hn47 (by decide)) | simp [hn47])⟩) (zj rfl (.cons rfl <| .cons rfl <| .nil) call35 (κ := .eq (.bool true)) (fun σ w m hK hr hkn => by have hle_ := KC.le hK; have hA := KC.agree hK; have hM := hM.trans hle_; have hS := hS.mono hle_; have h_l := h_l.mono hle_; have hin := hin.mono hle_; have htr := htr.mono hle_; have hcv27 := hcv27.mono hle_; have hv27 := hv27.mono hle_; have hvk27 := hvk27.mono hle_; have hcl27 := hcl27.mono hle_; have hfm27 := hfm27.mono hle_; have hcv31 := hcv31.mono hle_; have hv31 := hv31.mono hle_; have hvk31 := hvk31.mono hle_; have hcl31 := hcl31.mono hle_; have hfm31 := hfm31.mono hle_; exact Zy (s := s) (zDf (s := s) (y := ⟨yc, pe, yv, pv, fo, fc, co, cc, io, ic, mo, to, tc⟩) hA hr hS ⟨by decide, by decide⟩))) <| .cons rfl (zU rfl rfl rfl) <| .cons rfl (zD rfl) <| .nil) fun a12 w12 m12 hst12 hle12 hk12 => ?_
             have hfr12 := hk12.fr (.n 6 <| .nil)
             replace hst12 := hst12.fin (L' := [_, _, _, _, _]) (.cons rfl <| .nil)
             clear hst11 hfr11 hk12
             obtain ⟨y7, hst12, hS7, hK7⟩ := zp (k := 0) hst12 rfl
             simp only [List.set_cons_zero] at hst12
             refine hK41 _ _ ?_
             refine zN ?_
             repeat (with_reducible first | refine zH ?_ | refine zG ?_)
             replace hS := hS.mono hle12
             exact zO hst12 hfr12 rfl (.tmp rfl <| .nil) (by first | (exact absurd hn47 (by decide)) | (simp only [hn47]; exact ⟨_, (hst12.take 3).loc, y7, (by simp only [ML, Zh, Ze]; rw [hK7.to, hK7.tc, hK7.co, hK7.cc]; rfl), hS7, rfl⟩) | (rw [decide_eq_false hn47]; exact ⟨_, (hst12.take 3).loc, ⟨yc, pe, yv, pv, fo, fc, co, cc, io, ic, mo, to, tc⟩, rfl, hS, rfl⟩))
            ·skip
             refine rp0 hst11 hfr11 (.cons rfl (zC rfl) <| .cons rfl (zd rfl rfl) <| .cons rfl (zC rfl) <| .cons rfl (zF (κ := .eq (.bool false)) (b := true) 194 rfl rfl (fun h => by simp [hn47] at h)) <| .cons rfl (zF (κ := .eq (.bool false)) (b := true) 194 rfl rfl (fun h => by simp [hn47] at h)) <| .cons rfl (zU rfl rfl rfl) <| .cons rfl (zD rfl) <| .nil) fun a12 w12 m12 hst12 hle12 hk12 => ?_
             have hfr12 := hk12.fr (.n 6 <| .nil)
             clear hst11 hfr11 hk12
             refine hK41 _ _ ?_
             refine zN ?_
             repeat (with_reducible first | refine zH ?_ | refine zG ?_)
             have zq20 := hle11.trans hle12
             have zq21 := hle10.trans zq20
             have zq22 := hle9.trans zq21
             have zq23 := zq11.trans zq22
             have zq24 := zq9.trans zq23
             replace hS := hS.mono zq24
             exact zO hst12 hfr12 rfl (.tmp rfl <| .nil) (by first | (exact absurd hn47 (by decide)) | (simp only [hn47]; exact ⟨_, (hst12.take 3).loc, y7, (by simp only [ML, Zh, Ze]; rw [hK7.to, hK7.tc, hK7.co, hK7.cc]; rfl), hS7, rfl⟩) | (rw [decide_eq_false hn47]; exact ⟨_, (hst12.take 3).loc, ⟨yc, pe, yv, pv, fo, fc, co, cc, io, ic, mo, to, tc⟩, rfl, hS, rfl⟩))
           ·simp at hb191
         ·simp [hlw9, hxk, hyk] at hb155
        ·skip
         have hlw9 : l.length = 2 := by rw [hl2]; rfl
         have hxx9 : x27 = x9 := by have h9 := hd27; rw [hl2] at h9; simp at h9; exact h9.symm
         subst hxx9
         have zq25 := hle7.trans hle8
         have zq26 := hle6.trans zq25
         replace h_l := h_l.mono zq26
         obtain ⟨p44, vs44, x44, ho44, hd44, hm_x44, ht44, hcv44, hl44, hv44⟩ := h_l.nth (k := 1) (by omega)
         cases ho44
         obtain ⟨⟨oa44, ca44, pf44, ob44, cb44⟩, rfl, ⟨hi44, hj44⟩, hvk44, hcl44, hfm44, hnl44⟩ := hv44.open_
         have hbk44 := hvk44.big; have hbf44 := hfm44.big
         have hxy9 : x44 = y9 := by have h9 := hd44; rw [hl2] at h9; simp at h9; exact h9.symm
         subst hxy9
         obtain ⟨rfl, rfl⟩ := zAT hop9 (fun ⟨a, c, e, h1, h2⟩ => by rw [hl2] at e; injection e with e1 e2; injection e2 with e2 _; subst e2; exact hyk h2)
         replace hcv27 := hcv27.mono zq26
         refine rp0 hst8 hfr8 (.cons rfl (zC rfl) <| .cons rfl (zl rfl underlying68) <| .cons rfl (zS rfl rfl) <| .cons rfl (zC rfl) <| .cons rfl (zC rfl) <| .cons rfl (zI (k := 0) rfl rfl underlying68 sizeOf72 rfl (by omega)) <| .cons rfl (zA (off := 0) rfl underlying72 rfl rfl sizeOf31 rfl) <| .cons rfl (zA (off := 0) rfl underlying31 rfl rfl sizeOf3 rfl) <| .cons rfl (zJ rfl (hcv27.drop 0) isAgg3 rfl) <| .cons rfl (zS rfl rfl) <| .cons rfl (zU rfl rfl rfl) <| .cons rfl (zC rfl) <| .cons rfl (zC rfl) <| .cons rfl (zI (k := 1) rfl rfl underlying68 sizeOf72 rfl (by omega)) <| .cons rfl (zA (off := 0) rfl underlying72 rfl rfl sizeOf31 rfl) <| .cons rfl (zA (off := 0) rfl underlying31 rfl rfl sizeOf3 rfl) <| .cons rfl (zJ rfl (hcv44.drop 0) isAgg3 rfl) <| .cons rfl (zS rfl rfl) <| .cons rfl (zU rfl rfl rfl) <| .cons rfl (zD rfl) <| .nil) fun a9 w9 m9 hst9 hle9 hk9 => ?_
         have hfr9 := hk9.fr (.o 0 <| .o 1 <| .o 2 <| .n 155 <| .nil)
         clear hst8 hfr8 hk9
         refine hK30 _ _ ?_
         refine zE hfr9 rfl rfl (fun hb155 => ?_) (fun hb155 => ?_)
         ·simp [hlw9, hxk, hyk] at hb155
         ·try simp only [nqs] at hb155
          refine zR ?_
          refine hK4 _ _ ?_
          refine zB fun _ hK45 => ?_
          refine rp0 hst9 hfr9 (.cons rfl (zD rfl) <| .nil) fun a10 w10 m10 hst10 hle10 hk10 => ?_
          have hfr10 := hk10.fr (.n 6 <| .nil)
          clear hst9 hfr9 hk10
          refine hK45 _ _ ?_
          refine zN ?_
          repeat (with_reducible first | refine zH ?_ | refine zG ?_)
          have zq27 := hle9.trans hle10
          have zq28 := zq26.trans zq27
          have zq29 := zq9.trans zq28
          replace hS := hS.mono zq29
          exact zO hst10 hfr10 rfl (.tmp rfl <| .nil) (⟨_, (hst10.take 3).loc, ⟨yc, pe, yv, pv, fo, fc, co, cc, io, ic, mo, to, tc⟩, rfl, hS, rfl⟩)
        ·skip
         have hlw9 : l.length = 2 := by rw [hl2]; rfl
         have hxx9 : x27 = x9 := by have h9 := hd27; rw [hl2] at h9; simp at h9; exact h9.symm
         subst hxx9
         obtain ⟨rfl, rfl⟩ := zAT hop9 (fun ⟨a, c, e, h1, h2⟩ => by rw [hl2] at e; injection e with e1 e2; subst e1; exact hxk h1)
         have zq30 := hle7.trans hle8
         have zq31 := hle6.trans zq30
         replace hcv27 := hcv27.mono zq31
         refine rp0 hst8 hfr8 (.cons rfl (zC rfl) <| .cons rfl (zl rfl underlying68) <| .cons rfl (zS rfl rfl) <| .cons rfl (zC rfl) <| .cons rfl (zC rfl) <| .cons rfl (zI (k := 0) rfl rfl underlying68 sizeOf72 rfl (by omega)) <| .cons rfl (zA (off := 0) rfl underlying72 rfl rfl sizeOf31 rfl) <| .cons rfl (zA (off := 0) rfl underlying31 rfl rfl sizeOf3 rfl) <| .cons rfl (zJ rfl (hcv27.drop 0) isAgg3 rfl) <| .cons rfl (zS rfl rfl) <| .cons rfl (zU rfl rfl rfl) <| .cons rfl (zC rfl) <| .cons rfl (zF (κ := .eq (.bool false)) (b := true) 167 rfl rfl (fun h => by simp [hxk] at h)) <| .cons rfl (zF (κ := .eq (.bool false)) (b := true) 167 rfl rfl (fun h => by simp [hxk] at h)) <| .cons rfl (zF (κ := .eq (.bool false)) (b := true) 167 rfl rfl (fun h => by simp [hxk] at h)) <| .cons rfl (zF (κ := .eq (.bool false)) (b := true) 167 rfl rfl (fun h => by simp [hxk] at h)) <| .cons rfl (zF (κ := .eq (.bool false)) (b := true) 167 rfl rfl (fun h => by simp [hxk] at h)) <| .cons rfl (zF (κ := .eq (.bool false)) (b := true) 167 rfl rfl (fun h => by simp [hxk] at h)) <| .cons rfl (zU rfl rfl rfl) <| .cons rfl (zD rfl) <| .nil) fun a9 w9 m9 hst9 hle9 hk9 => ?_
         have hfr9 := hk9.fr (.o 0 <| .o 1 <| .o 2 <| .n 155 <| .nil)
         clear hst8 hfr8 hk9
         refine hK30 _ _ ?_
         refine zE hfr9 rfl rfl (fun hb155 => ?_) (fun hb155 => ?_)
         ·simp [hxk] at hb155
         ·try simp only [nqs] at hb155
          refine zR ?_
          refine hK4 _ _ ?_
          refine zB fun _ hK47 => ?_
          refine rp0 hst9 hfr9 (.cons rfl (zD rfl) <| .nil) fun a10 w10 m10 hst10 hle10 hk10 => ?_
          have hfr10 := hk10.fr (.n 6 <| .nil)
          clear hst9 hfr9 hk10
          refine hK47 _ _ ?_
          refine zN ?_
          repeat (with_reducible first | refine zH ?_ | refine zG ?_)
          have zq32 := hle9.trans hle10
          have zq33 := zq31.trans zq32
          have zq34 := zq9.trans zq33
          replace hS := hS.mono zq34
          exact zO hst10 hfr10 rfl (.tmp rfl <| .nil) (⟨_, (hst10.take 3).loc, ⟨yc, pe, yv, pv, fo, fc, co, cc, io, ic, mo, to, tc⟩, rfl, hS, rfl⟩)
        ·skip
         obtain ⟨rfl, rfl⟩ := zAT hop9 (fun ⟨a, c, e, h1, h2⟩ => hln (by rw [e]; rfl))
         refine rp0 hst8 hfr8 (.cons rfl (zC rfl) <| .cons rfl (zl rfl underlying68) <| .cons rfl (zS rfl rfl) <| .cons rfl (zC rfl) <| .cons rfl (zF (κ := .eq (.bool false)) (b := true) 159 rfl rfl (fun h => by first | (simp at h; omega) | (simp at h; done))) <| .cons rfl (zF (κ := .eq (.bool false)) (b := true) 159 rfl rfl (fun h => by first | (simp at h; omega) | (simp at h; done))) <| .cons rfl (zF (κ := .eq (.bool false)) (b := true) 159 rfl rfl (fun h => by first | (simp at h; omega) | (simp at h; done))) <| .cons rfl (zF (κ := .eq (.bool false)) (b := true) 159 rfl rfl (fun h => by first | (simp at h; omega) | (simp at h; done))) <| .cons rfl (zF (κ := .eq (.bool false)) (b := true) 159 rfl rfl (fun h => by first | (simp at h; omega) | (simp at h; done))) <| .cons rfl (zF (κ := .eq (.bool false)) (b := true) 159 rfl rfl (fun h => by first | (simp at h; omega) | (simp at h; done))) <| .cons rfl (zU rfl rfl rfl) <| .cons rfl (zC rfl) <| .cons rfl (zF (κ := .eq (.bool false)) (b := true) 167 rfl rfl (fun h => by first | (simp at h; omega) | (simp at h; done))) <| .cons rfl (zF (κ := .eq (.bool false)) (b := true) 167 rfl rfl (fun h => by first | (simp at h; omega) | (simp at h; done))) <| .cons rfl (zF (κ := .eq (.bool false)) (b := true) 167 rfl rfl (fun h => by first | (simp at h; omega) | (simp at h; done))) <| .cons rfl (zF (κ := .eq (.bool false)) (b := true) 167 rfl rfl (fun h => by first | (simp at h; omega) | (simp at h; done))) <| .cons rfl (zF (κ := .eq (.bool false)) (b := true) 167 rfl rfl (fun h => by first | (simp at h; omega) | (simp at h; done))) <| .cons rfl (zF (κ := .eq (.bool false)) (b := true) 167 rfl rfl (fun h => by first | (simp at h; omega) | (simp at h; done))) <| .cons rfl (zU rfl rfl rfl) <| .cons rfl (zD rfl) <| .nil) fun a9 w9 m9 hst9 hle9 hk9 => ?_
         have hfr9 := hk9.fr (.o 0 <| .o 1 <| .o 2 <| .n 155 <| .nil)
         clear hst8 hfr8 hk9
         refine hK30 _ _ ?_
         refine zE hfr9 rfl rfl (fun hb155 => ?_) (fun hb155 => ?_)
         ·simp at hb155 <;> omega
         ·try simp only [nqs] at hb155
          refine zR ?_
          refine hK4 _ _ ?_
          refine zB fun _ hK49 => ?_
          refine rp0 hst9 hfr9 (.cons rfl (zD rfl) <| .nil) fun a10 w10 m10 hst10 hle10 hk10 => ?_
          have hfr10 := hk10.fr (.n 6 <| .nil)
          clear hst9 hfr9 hk10
          refine hK49 _ _ ?_
          refine zN ?_
          repeat (with_reducible first | refine zH ?_ | refine zG ?_)
          have zq35 := hle9.trans hle10
          have zq36 := hle8.trans zq35
          have zq37 := hle7.trans zq36
          have zq38 := hle6.trans zq37
          have zq39 := zq9.trans zq38
          replace hS := hS.mono zq39
          exact zO hst10 hfr10 rfl (.tmp rfl <| .nil) (⟨_, (hst10.take 3).loc, ⟨yc, pe, yv, pv, fo, fc, co, cc, io, ic, mo, to, tc⟩, rfl, hS, rfl⟩)
 ·skip
  have hll9 : l.length = r9.length + 1 := by rw [hlc9]; rfl
  refine rp0 hst2 hfr2 (.cons rfl (zC rfl) <| .cons rfl (zd rfl rfl) <| .cons rfl (zC rfl) <| .cons rfl (zF (κ := .eq (.bool false)) (b := true) 16 rfl rfl (fun h => by first | (exact absurd h (by decide)) | (simp at h; done) | (simp only [nq3] at h; exact absurd h (by assumption)) | simp_all)) <| .cons rfl (zF (κ := .eq (.bool false)) (b := true) 16 rfl rfl (fun h => by first | (exact absurd h (by decide)) | (simp at h; done) | (simp only [nq3] at h; exact absurd h (by assumption)) | simp_all)) <| .cons rfl (zF (κ := .eq (.bool false)) (b := true) 16 rfl rfl (fun h => by first | (exact absurd h (by decide)) | (simp at h; done) | (simp only [nq3] at h; exact absurd h (by assumption)) | simp_all)) <| .cons rfl (zF (κ := .eq (.bool false)) (b := true) 16 rfl rfl (fun h => by first | (exact absurd h (by decide)) | (simp at h; done) | (simp only [nq3] at h; exact absurd h (by assumption)) | simp_all)) <| .cons rfl (zF (κ := .eq (.bool false)) (b := true) 16 rfl rfl (fun h => by first | (exact absurd h (by decide)) | (simp at h; done) | (simp only [nq3] at h; exact absurd h (by assumption)) | simp_all)) <| .cons rfl (zF (κ := .eq (.bool false)) (b := true) 16 rfl rfl (fun h => by first | (exact absurd h (by decide)) | (simp at h; done) | (simp only [nq3] at h; exact absurd h (by assumption)) | simp_all)) <| .cons rfl (zU rfl rfl rfl) <| .cons rfl (zD rfl) <| .nil) fun a3 w3 m3 hst3 hle3 hk3 => ?_
  have hfr3 := hk3.fr (.o 0 <| .o 1 <| .o 2 <| .o 7 <| .n 13 <| .nil)
  clear hst2 hfr2 hk3
  refine hK5 _ _ ?_
  refine zE hfr3 rfl rfl (fun hb13 => ?_) (fun hb13 => ?_)
  ·simp [rdS, rfS, prS] at hb13
  ·try simp only [nqs] at hb13
   refine zB fun _ hK51 => ?_
   refine rp0 hst3 hfr3 (.cons rfl (zC rfl) <| .cons rfl (zd rfl rfl) <| .cons rfl (zD rfl) <| .nil) fun a4 w4 m4 hst4 hle4 hk4 => ?_
   have hfr4 := hk4.fr (.o 0 <| .o 1 <| .o 2 <| .o 7 <| .n 26 <| .nil)
   clear hst3 hfr3 hk4
   refine hK51 _ _ ?_
   refine zE hfr4 rfl rfl (fun hb26 => ?_) (fun hb26 => ?_)
   ·simp [rdS, rfS, prS] at hb26
   ·try simp only [nqs] at hb26
    refine zB fun _ hK52 => ?_
    refine rp0 hst4 hfr4 (.cons rfl (zC rfl) <| .cons rfl (zd rfl rfl) <| .cons rfl (zD rfl) <| .nil) fun a5 w5 m5 hst5 hle5 hk5 => ?_
    have hfr5 := hk5.fr (.o 0 <| .o 1 <| .o 2 <| .o 7 <| .n 48 <| .nil)
    clear hst4 hfr4 hk5
    refine hK52 _ _ ?_
    refine zE hfr5 rfl rfl (fun hb48 => ?_) (fun hb48 => ?_)
    ·simp [rdS, rfS, prS] at hb48
    ·try simp only [nqs] at hb48
     refine zB fun _ hK53 => ?_
     refine rp0 hst5 hfr5 (.cons rfl (zC rfl) <| .cons rfl (zd rfl rfl) <| .cons rfl (zC rfl) <| .cons rfl (zF (κ := .eq (.bool false)) (b := true) 77 rfl rfl (fun h => by first | (exact absurd h (by decide)) | (simp at h; done) | (simp only [nq3] at h; exact absurd h (by assumption)) | simp_all)) <| .cons rfl (zF (κ := .eq (.bool false)) (b := true) 77 rfl rfl (fun h => by first | (exact absurd h (by decide)) | (simp at h; done) | (simp only [nq3] at h; exact absurd h (by assumption)) | simp_all)) <| .cons rfl (zF (κ := .eq (.bool false)) (b := true) 77 rfl rfl (fun h => by first | (exact absurd h (by decide)) | (simp at h; done) | (simp only [nq3] at h; exact absurd h (by assumption)) | simp_all)) <| .cons rfl (zF (κ := .eq (.bool false)) (b := true) 77 rfl rfl (fun h => by first | (exact absurd h (by decide)) | (simp at h; done) | (simp only [nq3] at h; exact absurd h (by assumption)) | simp_all)) <| .cons rfl (zF (κ := .eq (.bool false)) (b := true) 77 rfl rfl (fun h => by first | (exact absurd h (by decide)) | (simp at h; done) | (simp only [nq3] at h; exact absurd h (by assumption)) | simp_all)) <| .cons rfl (zF (κ := .eq (.bool false)) (b := true) 77 rfl rfl (fun h => by first | (exact absurd h (by decide)) | (simp at h; done) | (simp only [nq3] at h; exact absurd h (by assumption)) | simp_all)) <| .cons rfl (zU rfl rfl rfl) <| .cons rfl (zD rfl) <| .nil) fun a6 w6 m6 hst6 hle6 hk6 => ?_
     have hfr6 := hk6.fr (.o 0 <| .o 1 <| .o 2 <| .o 7 <| .n 74 <| .nil)
     clear hst5 hfr5 hk6
     refine hK53 _ _ ?_
     refine zE hfr6 rfl rfl (fun hb74 => ?_) (fun hb74 => ?_)
     ·simp [rdS, rfS, prS] at hb74
     ·try simp only [nqs] at hb74
      refine zB fun _ hK54 => ?_
      have zq40 := hle5.trans hle6
      have zq41 := hle4.trans zq40
      have zq42 := hle3.trans zq41
      replace h_l := h_l.mono zq42
      obtain ⟨p55, vs55, x55, ho55, hd55, hm_x55, ht55, hcv55, hl55, hv55⟩ := h_l.nth (k := 0) (by omega)
      cases ho55
      obtain ⟨⟨oa55, ca55, pf55, ob55, cb55⟩, rfl, ⟨hi55, hj55⟩, hvk55, hcl55, hfm55, hnl55⟩ := hv55.open_
      have hbk55 := hvk55.big; have hbf55 := hfm55.big
      have hxv9 : x55 = v9 := by have h9 := hd55; rw [hlc9] at h9; simp at h9; exact h9.symm
      subst hxv9
      refine rp0 hst6 hfr6 (.cons rfl (zC rfl) <| .cons rfl (zd rfl rfl) <| .cons rfl (zC rfl) <| .cons rfl (zC rfl) <| .cons rfl (zI (k := 0) rfl rfl underlying68 sizeOf72 rfl (by omega)) <| .cons rfl (zA (off := 0) rfl underlying72 rfl rfl sizeOf31 rfl) <| .cons rfl (zA (off := 0) rfl underlying31 rfl rfl sizeOf3 rfl) <| .cons rfl (zJ rfl (hcv55.drop 0) isAgg3 rfl) <| .cons rfl (zS rfl rfl) <| .cons rfl (zU rfl rfl rfl) <| .cons rfl (zD rfl) <| .nil) fun a7 w7 m7 hst7 hle7 hk7 => ?_
      have hfr7 := hk7.fr (.o 0 <| .o 1 <| .o 2 <| .o 7 <| .n 104 <| .nil)
      clear hst6 hfr6 hk7
      refine hK54 _ _ ?_
      refine zE hfr7 rfl rfl (fun hb104 => ?_) (fun hb104 => ?_)
      ·simp [hnk] at hb104
      ·try simp only [nqs] at hb104
       refine zB fun _ hK56 => ?_
       refine rp0 hst7 hfr7 (.cons rfl (zC rfl) <| .cons rfl (zd rfl rfl) <| .cons rfl (zC rfl) <| .cons rfl (zF (κ := .eq (.bool false)) (b := true) 131 rfl rfl (fun h => by first | (exact absurd h (by decide)) | (simp at h; done) | (simp only [nq3] at h; exact absurd h (by assumption)) | simp_all)) <| .cons rfl (zF (κ := .eq (.bool false)) (b := true) 131 rfl rfl (fun h => by first | (exact absurd h (by decide)) | (simp at h; done) | (simp only [nq3] at h; exact absurd h (by assumption)) | simp_all)) <| .cons rfl (zF (κ := .eq (.bool false)) (b := true) 131 rfl rfl (fun h => by first | (exact absurd h (by decide)) | (simp at h; done) | (simp only [nq3] at h; exact absurd h (by assumption)) | simp_all)) <| .cons rfl (zF (κ := .eq (.bool false)) (b := true) 131 rfl rfl (fun h => by first | (exact absurd h (by decide)) | (simp at h; done) | (simp only [nq3] at h; exact absurd h (by assumption)) | simp_all)) <| .cons rfl (zF (κ := .eq (.bool false)) (b := true) 131 rfl rfl (fun h => by first | (exact absurd h (by decide)) | (simp at h; done) | (simp only [nq3] at h; exact absurd h (by assumption)) | simp_all)) <| .cons rfl (zF (κ := .eq (.bool false)) (b := true) 131 rfl rfl (fun h => by first | (exact absurd h (by decide)) | (simp at h; done) | (simp only [nq3] at h; exact absurd h (by assumption)) | simp_all)) <| .cons rfl (zU rfl rfl rfl) <| .cons rfl (zD rfl) <| .nil) fun a8 w8 m8 hst8 hle8 hk8 => ?_
       have hfr8 := hk8.fr (.o 0 <| .o 1 <| .o 2 <| .o 7 <| .n 128 <| .nil)
       clear hst7 hfr7 hk8
       refine hK56 _ _ ?_
       refine zE hfr8 rfl rfl (fun hb128 => ?_) (fun hb128 => ?_)
       ·simp [rdS, rfS, prS] at hb128
       ·try simp only [nqs] at hb128
        refine zB fun _ hK57 => ?_
        rcases zDQ l with ⟨x9, y9, hl2, hxk, hyk⟩ | ⟨x9, y9, hl2, hxk, hyk⟩ | ⟨x9, y9, hl2, hxk⟩ | hln
        ·skip
         have hlw9 : l.length = 2 := by rw [hl2]; rfl
         have hxx9 : x55 = x9 := by have h9 := hd55; rw [hl2] at h9; simp at h9; exact h9.symm
         subst hxx9
         have zq43 := hle7.trans hle8
         replace h_l := h_l.mono zq43
         obtain ⟨p58, vs58, x58, ho58, hd58, hm_x58, ht58, hcv58, hl58, hv58⟩ := h_l.nth (k := 1) (by omega)
         cases ho58
         obtain ⟨⟨oa58, ca58, pf58, ob58, cb58⟩, rfl, ⟨hi58, hj58⟩, hvk58, hcl58, hfm58, hnl58⟩ := hv58.open_
         have hbk58 := hvk58.big; have hbf58 := hfm58.big
         have hxy9 : x58 = y9 := by have h9 := hd58; rw [hl2] at h9; simp at h9; exact h9.symm
         subst hxy9
         rw [hl2] at hop9
         have hq9 := zDT hop9 hxk hyk
         replace hcv55 := hcv55.mono zq43
         refine rp0 hst8 hfr8 (.cons rfl (zC rfl) <| .cons rfl (zl rfl underlying68) <| .cons rfl (zS rfl rfl) <| .cons rfl (zC rfl) <| .cons rfl (zC rfl) <| .cons rfl (zI (k := 0) rfl rfl underlying68 sizeOf72 rfl (by omega)) <| .cons rfl (zA (off := 0) rfl underlying72 rfl rfl sizeOf31 rfl) <| .cons rfl (zA (off := 0) rfl underlying31 rfl rfl sizeOf3 rfl) <| .cons rfl (zJ rfl (hcv55.drop 0) isAgg3 rfl) <| .cons rfl (zS rfl rfl) <| .cons rfl (zU rfl rfl rfl) <| .cons rfl (zC rfl) <| .cons rfl (zC rfl) <| .cons rfl (zI (k := 1) rfl rfl underlying68 sizeOf72 rfl (by omega)) <| .cons rfl (zA (off := 0) rfl underlying72 rfl rfl sizeOf31 rfl) <| .cons rfl (zA (off := 0) rfl underlying31 rfl rfl sizeOf3 rfl) <| .cons rfl (zJ rfl (hcv58.drop 0) isAgg3 rfl) <| .cons rfl (zS rfl rfl) <| .cons rfl (zU rfl rfl rfl) <| .cons rfl (zD rfl) <| .nil) fun a9 w9 m9 hst9 hle9 hk9 => ?_
         have hfr9 := hk9.fr (.o 0 <| .o 1 <| .o 2 <| .n 155 <| .nil)
         clear hst8 hfr8 hk9
         refine hK57 _ _ ?_
         refine zE hfr9 rfl rfl (fun hb155 => ?_) (fun hb155 => ?_)
         ·try simp only [nqs] at hb155
          refine zB fun _ hK59 => ?_
          rcases hq9 with ⟨v8, hbm, rfl, rfl⟩ | ⟨hbm, hq8⟩
          ·skip
           obtain ⟨k8, n8, rfl, hik8, hin8, hor8⟩ := zEG hbm
           replace hst9 := hst9.more (r := .free) trivial List.nodup_nil (by simp [Res.blocks])
           replace hcv55 := hcv55.mono hle9
           replace hcv58 := hcv58.mono hle9
           refine zc (tch := [(15, 4, (fun v => .blk v _)), (16, 4, (fun v => .blk v _))]) (fun _ => zw) hst9 hfr9 (by kernel_rfl) (by kernel_rfl) (by kernel_rfl) (.cons rfl (zC rfl) <| .cons rfl (zC rfl) <| .cons rfl (zI (k := 0) rfl rfl underlying68 sizeOf72 rfl (by omega)) <| .cons rfl (zA (off := 0) rfl underlying72 rfl rfl sizeOf31 rfl) <| .cons rfl (zA (off := 1) rfl underlying31 rfl rfl sizeOf3 rfl) <| .cons rfl (zJ rfl (hcv55.drop 0) isAgg3 rfl) <| .cons rfl (zC rfl) <| .cons rfl (zI (k := 1) rfl rfl underlying68 sizeOf72 rfl (by omega)) <| .cons rfl (zA (off := 0) rfl underlying72 rfl rfl sizeOf31 rfl) <| .cons rfl (zA (off := 1) rfl underlying31 rfl rfl sizeOf3 rfl) <| .cons rfl (zJ rfl (hcv58.drop 0) isAgg3 rfl) <| .cons rfl (zX rfl (.cons rfl <| .cons rfl <| .cons rfl <| .nil) call65 (fun w m hK => by have hle_ := KC.le hK; have hA := KC.agree hK; exact zDn hA hor8)) <| .cons rfl (zC rfl) <| .cons rfl (zM rfl rfl) <| .cons rfl (zM rfl rfl) <| .consT rfl rfl (fun _ => rfl) rfl (zP zeroValue31 rfl) <| .consT rfl rfl (fun _ => rfl) rfl (zb 9 rfl rfl rfl fun y9 => za rfl rfl rfl rfl rfl sizeOf31 rfl rfl rfl) <| .cons rfl (zD rfl) <| .nil) fun a10 w10 m10 hst10 hle10 hk10 => ?_
           have hfr10 := hk10.fr (.o 0 <| .o 1 <| .n 10 <| .nil)
           obtain ⟨g9, e60, _⟩ := hk10.ex 9 rfl
           replace hfr10 := hfr10.cons e60
           replace hst10 := hst10.fin (L' := [_, _, _, _, _]) (.cons e60 <| .cons e60 <| .nil)
           try simp only [List.take_succ_cons, List.take_zero, List.drop_succ_cons, List.drop_zero, List.cons_append, List.nil_append, List.append_nil, List.length_cons, List.length_nil, Nat.zero_add, Nat.reduceAdd] at hst10
           clear hst9 hfr9 hk10
           refine hK59 _ _ ?_
           refine zB fun _ hK61 => ?_
           refine zB fun _ hK62 => ?_
           refine rp0 hst10 hfr10 (.cons rfl (zC rfl) <| .cons rfl (z2 rfl) <| .nil) fun a11 w11 m11 hst11 hle11 hk11 => ?_
           have hfr11 := hk11.fr (.o 0 <| .o 1 <| .o 9 <| .n 191 <| .nil)
           clear hst10 hfr10 hk11
           refine hK62 _ _ ?_
           refine zE hfr11 rfl rfl (fun hb191 => ?_) (fun hb191 => ?_)
           ·simp at hb191
           ·try simp only [nqs] at hb191
            refine zR ?_
            refine hK61 _ _ ?_
            refine zB fun _ hK63 => ?_
            have zq44 := hle10.trans hle11
            have zq45 := hle9.trans zq44
            have zq46 := zq43.trans zq45
            have zq47 := zq42.trans zq46
            replace hS := hS.mono zq47
            replace hin := hin.mono zq47
            replace htr := htr.mono zq47
            replace hM := hM.trans zq47
            replace hv55 := hv55.mono zq46
            replace hvk55 := hvk55.mono zq46
            replace hcl55 := hcl55.mono zq46
            replace hfm55 := hfm55.mono zq46
            replace h_l := h_l.mono zq45
            replace hv58 := hv58.mono zq45
            replace hvk58 := hvk58.mono zq45
            replace hcl58 := hcl58.mono zq45
            replace hfm58 := hfm58.mono zq45
            replace hcv55 := hcv55.mono zq44
            replace hcv58 := hcv58.mono zq44
            refine ra0 (tch := [(3, 0, (fun _ => MK g (s.has ⟨k8, n8, [], [], .none, []⟩) ⟨yc, pe, yv, pv, fo, fc, co, cc, io, ic, mo, to, tc⟩))]) hst11 hfr11 (.cons rfl (zC rfl) <| .cons rfl (zh (j := 4) rfl rfl isAgg31 sizeOf31 rfl) <| .cons rfl (zQ (.cons rfl <| .nil) underlying72 zeroValue72 (.cons sizeOf31 <| .cons sizeOf68 <| .cons sizeOf69 <| .cons sizeOf70 <| .nil) rfl) <| .consT rfl rfl (fun _ => rfl) rfl (zj rfl (.cons rfl <| .cons rfl <| .nil) call49 (κ := .eq (.bool true)) (fun σ w m hK hr hkn => by have hle_ := KC.le hK; have hA := KC.agree hK; have hM := hM.trans hle_; have hS := hS.mono hle_; have h_l := h_l.mono hle_; have hin := hin.mono hle_; have htr := htr.mono hle_; have hcv55 := hcv55.mono hle_; have hv55 := hv55.mono hle_; have hvk55 := hvk55.mono hle_; have hcl55 := hcl55.mono hle_; have hfm55 := hfm55.mono hle_; have hcv58 := hcv58.mono hle_; have hv58 := hv58.mono hle_; have hvk58 := hvk58.mono hle_; have hcl58 := hcl58.mono hle_; have hfm58 := hfm58.mono hle_; exact Zy (s := s) (zBu (s := s) (x := ⟨k8, n8, [], [], .none, []⟩) (y := ⟨yc, pe, yv, pv, fo, fc, co, cc, io, ic, mo, to, tc⟩) hA hr hS (VlR.flat (k := k8) (n := n8) hik8 hin8)))) <| .cons rfl (zD rfl) <| .nil) fun a12 w12 m12 hst12 hle12 hk12 => ?_
            have hfr12 := hk12.fr (.n 6 <| .nil)
            replace hst12 := hst12.fin (L' := [_, _, _, _, _]) (.cons rfl <| .nil)
            clear hst11 hfr11 hk12
            obtain ⟨y7, hst12, hS7, hK7⟩ := zp (k := 0) hst12 rfl
            simp only [List.set_cons_zero] at hst12
            refine hK63 _ _ ?_
            refine zN ?_
            repeat (with_reducible first | refine zH ?_ | refine zG ?_)
            exact zO hst12 hfr12 rfl (.tmp rfl <| .nil) (⟨_, (hst12.take 3).loc, y7, (by simp only [ML, Zh, Ze]; rw [hK7.to, hK7.tc, hK7.co, hK7.cc]; rfl), hS7, rfl⟩)
          ·skip
           replace hst9 := hst9.more (r := .free) trivial List.nodup_nil (by simp [Res.blocks])
           replace hcv55 := hcv55.mono hle9
           replace hcv58 := hcv58.mono hle9
           refine zc (tch := [(15, 4, (fun v => .blk v _)), (16, 4, (fun v => .blk v _))]) (fun _ => zw) hst9 hfr9 (by kernel_rfl) (by kernel_rfl) (by kernel_rfl) (.cons rfl (zC rfl) <| .cons rfl (zC rfl) <| .cons rfl (zI (k := 0) rfl rfl underlying68 sizeOf72 rfl (by omega)) <| .cons rfl (zA (off := 0) rfl underlying72 rfl rfl sizeOf31 rfl) <| .cons rfl (zA (off := 1) rfl underlying31 rfl rfl sizeOf3 rfl) <| .cons rfl (zJ rfl (hcv55.drop 0) isAgg3 rfl) <| .cons rfl (zC rfl) <| .cons rfl (zI (k := 1) rfl rfl underlying68 sizeOf72 rfl (by omega)) <| .cons rfl (zA (off := 0) rfl underlying72 rfl rfl sizeOf31 rfl) <| .cons rfl (zA (off := 1) rfl underlying31 rfl rfl sizeOf3 rfl) <| .cons rfl (zJ rfl (hcv58.drop 0) isAgg3 rfl) <| .cons rfl (zX rfl (.cons rfl <| .cons rfl <| .cons rfl <| .nil) call65 (fun w m hK => by have hle_ := KC.le hK; have hA := KC.agree hK; exact zDn hA (zEE hbm))) <| .cons rfl (zC rfl) <| .cons rfl (zM rfl rfl) <| .cons rfl (zM rfl rfl) <| .consT rfl rfl (fun _ => rfl) rfl (zP zeroValue31 rfl) <| .consT rfl rfl (fun _ => rfl) rfl (zb 9 rfl rfl rfl fun y9 => za rfl rfl rfl rfl rfl sizeOf31 rfl rfl rfl) <| .cons rfl (zD rfl) <| .nil) fun a10 w10 m10 hst10 hle10 hk10 => ?_
           have hfr10 := hk10.fr (.o 0 <| .o 1 <| .n 10 <| .nil)
           obtain ⟨g9, e65, _⟩ := hk10.ex 9 rfl
           replace hfr10 := hfr10.cons e65
           replace hst10 := hst10.fin (L' := [_, _, _, _, _]) (.cons e65 <| .cons e65 <| .nil)
           try simp only [List.take_succ_cons, List.take_zero, List.drop_succ_cons, List.drop_zero, List.cons_append, List.nil_append, List.append_nil, List.length_cons, List.length_nil, Nat.zero_add, Nat.reduceAdd] at hst10
           clear hst9 hfr9 hk10
           refine hK59 _ _ ?_
           refine zB fun _ hK66 => ?_
           refine zB fun _ hK67 => ?_
           refine rp0 hst10 hfr10 (.cons rfl (zC rfl) <| .cons rfl (z2 rfl) <| .nil) fun a11 w11 m11 hst11 hle11 hk11 => ?_
           have hfr11 := hk11.fr (.o 0 <| .o 1 <| .o 9 <| .n 191 <| .nil)
           clear hst10 hfr10 hk11
           refine hK67 _ _ ?_
           refine zE hfr11 rfl rfl (fun hb191 => ?_) (fun hb191 => ?_)
           ·try simp only [nqs] at hb191
            refine zB fun _ hK68 => ?_
            rcases hq8 with ⟨hn47, rfl, rfl⟩ | ⟨hn47, rfl, rfl⟩
            ·skip
             have zq48 := hle10.trans hle11
             have zq49 := hle9.trans zq48
             have zq50 := zq43.trans zq49
             have zq51 := zq42.trans zq50
             replace hS := hS.mono zq51
             replace hin := hin.mono zq51
             replace htr := htr.mono zq51
             replace hM := hM.trans zq51
             replace hv55 := hv55.mono zq50
             replace hvk55 := hvk55.mono zq50
             replace hcl55 := hcl55.mono zq50
             replace hfm55 := hfm55.mono zq50
             replace h_l := h_l.mono zq49
             replace hv58 := hv58.mono zq49
             replace hvk58 := hvk58.mono zq49
             replace hcl58 := hcl58.mono zq49
             replace hfm58 := hfm58.mono zq49
             replace hcv55 := hcv55.mono zq48
             replace hcv58 := hcv58.mono zq48
             refine ra0 (tch := [(4, 0, (fun _ => MK g (s.ends 2) ⟨yc, pe, yv, pv, fo, fc, co, cc, io, ic, mo, to, tc⟩))]) hst11 hfr11 (.cons rfl (zC rfl) <| .cons rfl (zd rfl rfl) <| .cons rfl (zC rfl) <| .cons rfl (zC rfl) <| .consTG rfl rfl (fun _ => rfl) (.inr ⟨_, _, _, rfl, rfl, (by first | (exact absurd hn47 (by decide)) | simp [hn47])⟩) (zj rfl (.cons rfl <| .cons rfl <| .nil) call35 (κ := .eq (.bool true)) (fun σ w m hK hr hkn => by have hle_ := KC.le hK; have hA := KC.agree hK; have hM := hM.trans hle_; have hS := hS.mono hle_; have h_l := h_l.mono hle_; have hin := hin.mono hle_; have htr := htr.mono hle_; have hcv55 := hcv55.mono hle_; have hv55 := hv55.mono hle_; have hvk55 := hvk55.mono hle_; have hcl55 := hcl55.mono hle_; have hfm55 := hfm55.mono hle_; have hcv58 := hcv58.mono hle_; have hv58 := hv58.mono hle_; have hvk58 := hvk58.mono hle_; have hcl58 := hcl58.mono hle_; have hfm58 := hfm58.mono hle_; exact Zy (s := s) (zDf (s := s) (y := ⟨yc, pe, yv, pv, fo, fc, co, cc, io, ic, mo, to, tc⟩) hA hr hS ⟨by decide, by decide⟩))) <| .cons rfl (zU rfl rfl rfl) <| .cons rfl (zD rfl) <| .nil) fun a12 w12 m12 hst12 hle12 hk12 => ?_
             have hfr12 := hk12.fr (.n 6 <| .nil)
             replace hst12 := hst12.fin (L' := [_, _, _, _, _]) (.cons rfl <| .nil)
             clear hst11 hfr11 hk12
             obtain ⟨y7, hst12, hS7, hK7⟩ := zp (k := 0) hst12 rfl
             simp only [List.set_cons_zero] at hst12
             refine hK68 _ _ ?_
             refine zN ?_
             repeat (with_reducible first | refine zH ?_ | refine zG ?_)
             replace hS := hS.mono hle12
             exact zO hst12 hfr12 rfl (.tmp rfl <| .nil) (by first | (exact absurd hn47 (by decide)) | (simp only [hn47]; exact ⟨_, (hst12.take 3).loc, y7, (by simp only [ML, Zh, Ze]; rw [hK7.to, hK7.tc, hK7.co, hK7.cc]; rfl), hS7, rfl⟩) | (rw [decide_eq_false hn47]; exact ⟨_, (hst12.take 3).loc, ⟨yc, pe, yv, pv, fo, fc, co, cc, io, ic, mo, to, tc⟩, rfl, hS, rfl⟩))
            ·skip
             refine rp0 hst11 hfr11 (.cons rfl (zC rfl) <| .cons rfl (zd rfl rfl) <| .cons rfl (zC rfl) <| .cons rfl (zF (κ := .eq (.bool false)) (b := true) 194 rfl rfl (fun h => by simp [hn47] at h)) <| .cons rfl (zF (κ := .eq (.bool false)) (b := true) 194 rfl rfl (fun h => by simp [hn47] at h)) <| .cons rfl (zU rfl rfl rfl) <| .cons rfl (zD rfl) <| .nil) fun a12 w12 m12 hst12 hle12 hk12 => ?_
             have hfr12 := hk12.fr (.n 6 <| .nil)
             clear hst11 hfr11 hk12
             refine hK68 _ _ ?_
             refine zN ?_
             repeat (with_reducible first | refine zH ?_ | refine zG ?_)
             have zq52 := hle11.trans hle12
             have zq53 := hle10.trans zq52
             have zq54 := hle9.trans zq53
             have zq55 := zq43.trans zq54
             have zq56 := zq42.trans zq55
             replace hS := hS.mono zq56
             exact zO hst12 hfr12 rfl (.tmp rfl <| .nil) (by first | (exact absurd hn47 (by decide)) | (simp only [hn47]; exact ⟨_, (hst12.take 3).loc, y7, (by simp only [ML, Zh, Ze]; rw [hK7.to, hK7.tc, hK7.co, hK7.cc]; rfl), hS7, rfl⟩) | (rw [decide_eq_false hn47]; exact ⟨_, (hst12.take 3).loc, ⟨yc, pe, yv, pv, fo, fc, co, cc, io, ic, mo, to, tc⟩, rfl, hS, rfl⟩))
           ·simp at hb191
         ·simp [hlw9, hxk, hyk] at hb155
        ·skip
         have hlw9 : l.length = 2 := by rw [hl2]; rfl
         have hxx9 : x55 = x9 := by have h9 := hd55; rw [hl2] at h9; simp at h9; exact h9.symm
         subst hxx9
         have zq57 := hle7.trans hle8
         replace h_l := h_l.mono zq57
         obtain ⟨p71, vs71, x71, ho71, hd71, hm_x71, ht71, hcv71, hl71, hv71⟩ := h_l.nth (k := 1) (by omega)
         cases ho71
         obtain ⟨⟨oa71, ca71, pf71, ob71, cb71⟩, rfl, ⟨hi71, hj71⟩, hvk71, hcl71, hfm71, hnl71⟩ := hv71.open_
         have hbk71 := hvk71.big; have hbf71 := hfm71.big
         have hxy9 : x71 = y9 := by have h9 := hd71; rw [hl2] at h9; simp at h9; exact h9.symm
         subst hxy9
         obtain ⟨rfl, rfl⟩ := zAT hop9 (fun ⟨a, c, e, h1, h2⟩ => by rw [hl2] at e; injection e with e1 e2; injection e2 with e2 _; subst e2; exact hyk h2)
         replace hcv55 := hcv55.mono zq57
         refine rp0 hst8 hfr8 (.cons rfl (zC rfl) <| .cons rfl (zl rfl underlying68) <| .cons rfl (zS rfl rfl) <| .cons rfl (zC rfl) <| .cons rfl (zC rfl) <| .cons rfl (zI (k := 0) rfl rfl underlying68 sizeOf72 rfl (by omega)) <| .cons rfl (zA (off := 0) rfl underlying72 rfl rfl sizeOf31 rfl) <| .cons rfl (zA (off := 0) rfl underlying31 rfl rfl sizeOf3 rfl) <| .cons rfl (zJ rfl (hcv55.drop 0) isAgg3 rfl) <| .cons rfl (zS rfl rfl) <| .cons rfl (zU rfl rfl rfl) <| .cons rfl (zC rfl) <| .cons rfl (zC rfl) <| .cons rfl (zI (k := 1) rfl rfl underlying68 sizeOf72 rfl (by omega)) <| .cons rfl (zA (off := 0) rfl underlying72 rfl rfl sizeOf31 rfl) <| .cons rfl (zA (off := 0) rfl underlying31 rfl rfl sizeOf3 rfl) <| .cons rfl (zJ rfl (hcv71.drop 0) isAgg3 rfl) <| .cons rfl (zS rfl rfl) <| .cons rfl (zU rfl rfl rfl) <| .cons rfl (zD rfl) <| .nil) fun a9 w9 m9 hst9 hle9 hk9 => ?_
         have hfr9 := hk9.fr (.o 0 <| .o 1 <| .o 2 <| .n 155 <| .nil)
         clear hst8 hfr8 hk9
         refine hK57 _ _ ?_
         refine zE hfr9 rfl rfl (fun hb155 => ?_) (fun hb155 => ?_)
         ·simp [hlw9, hxk, hyk] at hb155
         ·try simp only [nqs] at hb155
          refine zR ?_
          refine hK4 _ _ ?_
          refine zB fun _ hK72 => ?_
          refine rp0 hst9 hfr9 (.cons rfl (zD rfl) <| .nil) fun a10 w10 m10 hst10 hle10 hk10 => ?_
          have hfr10 := hk10.fr (.n 6 <| .nil)
          clear hst9 hfr9 hk10
          refine hK72 _ _ ?_
          refine zN ?_
          repeat (with_reducible first | refine zH ?_ | refine zG ?_)
          have zq58 := hle9.trans hle10
          have zq59 := zq57.trans zq58
          have zq60 := zq42.trans zq59
          replace hS := hS.mono zq60
          exact zO hst10 hfr10 rfl (.tmp rfl <| .nil) (⟨_, (hst10.take 3).loc, ⟨yc, pe, yv, pv, fo, fc, co, cc, io, ic, mo, to, tc⟩, rfl, hS, rfl⟩)
        ·skip
         have hlw9 : l.length = 2 := by rw [hl2]; rfl
         have hxx9 : x55 = x9 := by have h9 := hd55; rw [hl2] at h9; simp at h9; exact h9.symm
         subst hxx9
         obtain ⟨rfl, rfl⟩ := zAT hop9 (fun ⟨a, c, e, h1, h2⟩ => by rw [hl2] at e; injection e with e1 e2; subst e1; exact hxk h1)
         have zq61 := hle7.trans hle8
         replace hcv55 := hcv55.mono zq61
         refine rp0 hst8 hfr8 (.cons rfl (zC rfl) <| .cons rfl (zl rfl underlying68) <| .cons rfl (zS rfl rfl) <| .cons rfl (zC rfl) <| .cons rfl (zC rfl) <| .cons rfl (zI (k := 0) rfl rfl underlying68 sizeOf72 rfl (by omega)) <| .cons rfl (zA (off := 0) rfl underlying72 rfl rfl sizeOf31 rfl) <| .cons rfl (zA (off := 0) rfl underlying31 rfl rfl sizeOf3 rfl) <| .cons rfl (zJ rfl (hcv55.drop 0) isAgg3 rfl) <| .cons rfl (zS rfl rfl) <| .cons rfl (zU rfl rfl rfl) <| .cons rfl (zC rfl) <| .cons rfl (zF (κ := .eq (.bool false)) (b := true) 167 rfl rfl (fun h => by simp [hxk] at h)) <| .cons rfl (zF (κ := .eq (.bool false)) (b := true) 167 rfl rfl (fun h => by simp [hxk] at h)) <| .cons rfl (zF (κ := .eq (.bool false)) (b := true) 167 rfl rfl (fun h => by simp [hxk] at h)) <| .cons rfl (zF (κ := .eq (.bool false)) (b := true) 167 rfl rfl (fun h => by simp [hxk] at h)) <| .cons rfl (zF (κ := .eq (.bool false)) (b := true) 167 rfl rfl (fun h => by simp [hxk] at h)) <| .cons rfl (zF (κ := .eq (.bool false)) (b := true) 167 rfl rfl (fun h => by simp [hxk] at h)) <| .cons rfl (zU rfl rfl rfl) <| .cons rfl (zD rfl) <| .nil) fun a9 w9 m9 hst9 hle9 hk9 => ?_
         have hfr9 := hk9.fr (.o 0 <| .o 1 <| .o 2 <| .n 155 <| .nil)
         clear hst8 hfr8 hk9
         refine hK57 _ _ ?_
         refine zE hfr9 rfl rfl (fun hb155 => ?_) (fun hb155 => ?_)
         ·simp [hxk] at hb155
         ·try simp only [nqs] at hb155
          refine zR ?_
          refine hK4 _ _ ?_
          refine zB fun _ hK74 => ?_
          refine rp0 hst9 hfr9 (.cons rfl (zD rfl) <| .nil) fun a10 w10 m10 hst10 hle10 hk10 => ?_
          have hfr10 := hk10.fr (.n 6 <| .nil)
          clear hst9 hfr9 hk10
          refine hK74 _ _ ?_
          refine zN ?_
          repeat (with_reducible first | refine zH ?_ | refine zG ?_)
          have zq62 := hle9.trans hle10
          have zq63 := zq61.trans zq62
          have zq64 := zq42.trans zq63
          replace hS := hS.mono zq64
          exact zO hst10 hfr10 rfl (.tmp rfl <| .nil) (⟨_, (hst10.take 3).loc, ⟨yc, pe, yv, pv, fo, fc, co, cc, io, ic, mo, to, tc⟩, rfl, hS, rfl⟩)
        ·skip
         obtain ⟨rfl, rfl⟩ := zAT hop9 (fun ⟨a, c, e, h1, h2⟩ => hln (by rw [e]; rfl))
         refine rp0 hst8 hfr8 (.cons rfl (zC rfl) <| .cons rfl (zl rfl underlying68) <| .cons rfl (zS rfl rfl) <| .cons rfl (zC rfl) <| .cons rfl (zF (κ := .eq (.bool false)) (b := true) 159 rfl rfl (fun h => by first | (simp at h; omega) | (simp at h; done))) <| .cons rfl (zF (κ := .eq (.bool false)) (b := true) 159 rfl rfl (fun h => by first | (simp at h; omega) | (simp at h; done))) <| .cons rfl (zF (κ := .eq (.bool false)) (b := true) 159 rfl rfl (fun h => by first | (simp at h; omega) | (simp at h; done))) <| .cons rfl (zF (κ := .eq (.bool false)) (b := true) 159 rfl rfl (fun h => by first | (simp at h; omega) | (simp at h; done))) <| .cons rfl (zF (κ := .eq (.bool false)) (b := true) 159 rfl rfl (fun h => by first | (simp at h; omega) | (simp at h; done))) <| .cons rfl (zF (κ := .eq (.bool false)) (b := true) 159 rfl rfl (fun h => by first | (simp at h; omega) | (simp at h; done))) <| .cons rfl (zU rfl rfl rfl) <| .cons rfl (zC rfl) <| .cons rfl (zF (κ := .eq (.bool false)) (b := true) 167 rfl rfl (fun h => by first | (simp at h; omega) | (simp at h; done))) <| .cons rfl (zF (κ := .eq (.bool false)) (b := true) 167 rfl rfl (fun h => by first | (simp at h; omega) | (simp at h; done))) <| .cons rfl (zF (κ := .eq (.bool false)) (b := true) 167 rfl rfl (fun h => by first | (simp at h; omega) | (simp at h; done))) <| .cons rfl (zF (κ := .eq (.bool false)) (b := true) 167 rfl rfl (fun h => by first | (simp at h; omega) | (simp at h; done))) <| .cons rfl (zF (κ := .eq (.bool false)) (b := true) 167 rfl rfl (fun h => by first | (simp at h; omega) | (simp at h; done))) <| .cons rfl (zF (κ := .eq (.bool false)) (b := true) 167 rfl rfl (fun h => by first | (simp at h; omega) | (simp at h; done))) <| .cons rfl (zU rfl rfl rfl) <| .cons rfl (zD rfl) <| .nil) fun a9 w9 m9 hst9 hle9 hk9 => ?_
         have hfr9 := hk9.fr (.o 0 <| .o 1 <| .o 2 <| .n 155 <| .nil)
         clear hst8 hfr8 hk9
         refine hK57 _ _ ?_
         refine zE hfr9 rfl rfl (fun hb155 => ?_) (fun hb155 => ?_)
         ·simp at hb155 <;> omega
         ·try simp only [nqs] at hb155
          refine zR ?_
          refine hK4 _ _ ?_
          refine zB fun _ hK76 => ?_
          refine rp0 hst9 hfr9 (.cons rfl (zD rfl) <| .nil) fun a10 w10 m10 hst10 hle10 hk10 => ?_
          have hfr10 := hk10.fr (.n 6 <| .nil)
          clear hst9 hfr9 hk10
          refine hK76 _ _ ?_
          refine zN ?_
          repeat (with_reducible first | refine zH ?_ | refine zG ?_)
          have zq65 := hle9.trans hle10
          have zq66 := hle8.trans zq65
          have zq67 := hle7.trans zq66
          have zq68 := zq42.trans zq67
          replace hS := hS.mono zq68
          exact zO hst10 hfr10 rfl (.tmp rfl <| .nil) (⟨_, (hst10.take 3).loc, ⟨yc, pe, yv, pv, fo, fc, co, cc, io, ic, mo, to, tc⟩, rfl, hS, rfl⟩)
 ·skip
  have hll9 : l.length = r9.length + 1 := by rw [hlc9]; rfl
  refine rp0 hst2 hfr2 (.cons rfl (zC rfl) <| .cons rfl (zd rfl rfl) <| .cons rfl (zC rfl) <| .cons rfl (zF (κ := .eq (.bool false)) (b := true) 16 rfl rfl (fun h => by first | (exact absurd h (by decide)) | (simp at h; done) | (simp only [nq3] at h; exact absurd h (by assumption)) | simp_all)) <| .cons rfl (zF (κ := .eq (.bool false)) (b := true) 16 rfl rfl (fun h => by first | (exact absurd h (by decide)) | (simp at h; done) | (simp only [nq3] at h; exact absurd h (by assumption)) | simp_all)) <| .cons rfl (zF (κ := .eq (.bool false)) (b := true) 16 rfl rfl (fun h => by first | (exact absurd h (by decide)) | (simp at h; done) | (simp only [nq3] at h; exact absurd h (by assumption)) | simp_all)) <| .cons rfl (zF (κ := .eq (.bool false)) (b := true) 16 rfl rfl (fun h => by first | (exact absurd h (by decide)) | (simp at h; done) | (simp only [nq3] at h; exact absurd h (by assumption)) | simp_all)) <| .cons rfl (zF (κ := .eq (.bool false)) (b := true) 16 rfl rfl (fun h => by first | (exact absurd h (by decide)) | (simp at h; done) | (simp only [nq3] at h; exact absurd h (by assumption)) | simp_all)) <| .cons rfl (zF (κ := .eq (.bool false)) (b := true) 16 rfl rfl (fun h => by first | (exact absurd h (by decide)) | (simp at h; done) | (simp only [nq3] at h; exact absurd h (by assumption)) | simp_all)) <| .cons rfl (zU rfl rfl rfl) <| .cons rfl (zD rfl) <| .nil) fun a3 w3 m3 hst3 hle3 hk3 => ?_
  have hfr3 := hk3.fr (.o 0 <| .o 1 <| .o 2 <| .o 7 <| .n 13 <| .nil)
  clear hst2 hfr2 hk3
  refine hK5 _ _ ?_
  refine zE hfr3 rfl rfl (fun hb13 => ?_) (fun hb13 => ?_)
  ·simp [rdS, rfS, prS] at hb13
  ·try simp only [nqs] at hb13
   refine zB fun _ hK78 => ?_
   refine rp0 hst3 hfr3 (.cons rfl (zC rfl) <| .cons rfl (zd rfl rfl) <| .cons rfl (zD rfl) <| .nil) fun a4 w4 m4 hst4 hle4 hk4 => ?_
   have hfr4 := hk4.fr (.o 0 <| .o 1 <| .o 2 <| .o 7 <| .n 26 <| .nil)
   clear hst3 hfr3 hk4
   refine hK78 _ _ ?_
   refine zE hfr4 rfl rfl (fun hb26 => ?_) (fun hb26 => ?_)
   ·simp [rdS, rfS, prS] at hb26
   ·try simp only [nqs] at hb26
    refine zB fun _ hK79 => ?_
    refine rp0 hst4 hfr4 (.cons rfl (zC rfl) <| .cons rfl (zd rfl rfl) <| .cons rfl (zD rfl) <| .nil) fun a5 w5 m5 hst5 hle5 hk5 => ?_
    have hfr5 := hk5.fr (.o 0 <| .o 1 <| .o 2 <| .o 7 <| .n 48 <| .nil)
    clear hst4 hfr4 hk5
    refine hK79 _ _ ?_
    refine zE hfr5 rfl rfl (fun hb48 => ?_) (fun hb48 => ?_)
    ·simp [rdS, rfS, prS] at hb48
    ·try simp only [nqs] at hb48
     refine zB fun _ hK80 => ?_
     refine rp0 hst5 hfr5 (.cons rfl (zC rfl) <| .cons rfl (zd rfl rfl) <| .cons rfl (zC rfl) <| .cons rfl (zF (κ := .eq (.bool false)) (b := true) 77 rfl rfl (fun h => by first | (exact absurd h (by decide)) | (simp at h; done) | (simp only [nq3] at h; exact absurd h (by assumption)) | simp_all)) <| .cons rfl (zF (κ := .eq (.bool false)) (b := true) 77 rfl rfl (fun h => by first | (exact absurd h (by decide)) | (simp at h; done) | (simp only [nq3] at h; exact absurd h (by assumption)) | simp_all)) <| .cons rfl (zF (κ := .eq (.bool false)) (b := true) 77 rfl rfl (fun h => by first | (exact absurd h (by decide)) | (simp at h; done) | (simp only [nq3] at h; exact absurd h (by assumption)) | simp_all)) <| .cons rfl (zF (κ := .eq (.bool false)) (b := true) 77 rfl rfl (fun h => by first | (exact absurd h (by decide)) | (simp at h; done) | (simp only [nq3] at h; exact absurd h (by assumption)) | simp_all)) <| .cons rfl (zF (κ := .eq (.bool false)) (b := true) 77 rfl rfl (fun h => by first | (exact absurd h (by decide)) | (simp at h; done) | (simp only [nq3] at h; exact absurd h (by assumption)) | simp_all)) <| .cons rfl (zF (κ := .eq (.bool false)) (b := true) 77 rfl rfl (fun h => by first | (exact absurd h (by decide)) | (simp at h; done) | (simp only [nq3] at h; exact absurd h (by assumption)) | simp_all)) <| .cons rfl (zU rfl rfl rfl) <| .cons rfl (zD rfl) <| .nil) fun a6 w6 m6 hst6 hle6 hk6 => ?_
     have hfr6 := hk6.fr (.o 0 <| .o 1 <| .o 2 <| .o 7 <| .n 74 <| .nil)
     clear hst5 hfr5 hk6
     refine hK80 _ _ ?_
     refine zE hfr6 rfl rfl (fun hb74 => ?_) (fun hb74 => ?_)
     ·simp [rdS, rfS, prS] at hb74
     ·try simp only [nqs] at hb74
      refine zB fun _ hK81 => ?_
      refine rp0 hst6 hfr6 (.cons rfl (zC rfl) <| .cons rfl (zd rfl rfl) <| .cons rfl (zC rfl) <| .cons rfl (zF (κ := .eq (.bool false)) (b := true) 107 rfl rfl (fun h => by first | (exact absurd h (by decide)) | (simp at h; done) | (simp only [nq3] at h; exact absurd h (by assumption)) | simp_all)) <| .cons rfl (zF (κ := .eq (.bool false)) (b := true) 107 rfl rfl (fun h => by first | (exact absurd h (by decide)) | (simp at h; done) | (simp only [nq3] at h; exact absurd h (by assumption)) | simp_all)) <| .cons rfl (zF (κ := .eq (.bool false)) (b := true) 107 rfl rfl (fun h => by first | (exact absurd h (by decide)) | (simp at h; done) | (simp only [nq3] at h; exact absurd h (by assumption)) | simp_all)) <| .cons rfl (zF (κ := .eq (.bool false)) (b := true) 107 rfl rfl (fun h => by first | (exact absurd h (by decide)) | (simp at h; done) | (simp only [nq3] at h; exact absurd h (by assumption)) | simp_all)) <| .cons rfl (zF (κ := .eq (.bool false)) (b := true) 107 rfl rfl (fun h => by first | (exact absurd h (by decide)) | (simp at h; done) | (simp only [nq3] at h; exact absurd h (by assumption)) | simp_all)) <| .cons rfl (zF (κ := .eq (.bool false)) (b := true) 107 rfl rfl (fun h => by first | (exact absurd h (by decide)) | (simp at h; done) | (simp only [nq3] at h; exact absurd h (by assumption)) | simp_all)) <| .cons rfl (zU rfl rfl rfl) <| .cons rfl (zD rfl) <| .nil) fun a7 w7 m7 hst7 hle7 hk7 => ?_
      have hfr7 := hk7.fr (.o 0 <| .o 1 <| .o 2 <| .o 7 <| .n 104 <| .nil)
      clear hst6 hfr6 hk7
      refine hK81 _ _ ?_
      refine zE hfr7 rfl rfl (fun hb104 => ?_) (fun hb104 => ?_)
      ·simp [rdS, rfS, prS] at hb104
      ·try simp only [nqs] at hb104
       refine zB fun _ hK82 => ?_
       have zq69 := hle6.trans hle7
       have zq70 := hle5.trans zq69
       have zq71 := hle4.trans zq70
       have zq72 := hle3.trans zq71
       replace h_l := h_l.mono zq72
       obtain ⟨p83, vs83, x83, ho83, hd83, hm_x83, ht83, hcv83, hl83, hv83⟩ := h_l.nth (k := 0) (by omega)
       cases ho83
       obtain ⟨⟨oa83, ca83, pf83, ob83, cb83⟩, rfl, ⟨hi83, hj83⟩, hvk83, hcl83, hfm83, hnl83⟩ := hv83.open_
       have hbk83 := hvk83.big; have hbf83 := hfm83.big
       have hxv9 : x83 = v9 := by have h9 := hd83; rw [hlc9] at h9; simp at h9; exact h9.symm
       subst hxv9
       refine rp0 hst7 hfr7 (.cons rfl (zC rfl) <| .cons rfl (zd rfl rfl) <| .cons rfl (zC rfl) <| .cons rfl (zC rfl) <| .cons rfl (zI (k := 0) rfl rfl underlying68 sizeOf72 rfl (by omega)) <| .cons rfl (zA (off := 0) rfl underlying72 rfl rfl sizeOf31 rfl) <| .cons rfl (zA (off := 0) rfl underlying31 rfl rfl sizeOf3 rfl) <| .cons rfl (zJ rfl (hcv83.drop 0) isAgg3 rfl) <| .cons rfl (zS rfl rfl) <| .cons rfl (zU rfl rfl rfl) <| .cons rfl (zD rfl) <| .nil) fun a8 w8 m8 hst8 hle8 hk8 => ?_
       have hfr8 := hk8.fr (.o 0 <| .o 1 <| .o 2 <| .o 7 <| .n 128 <| .nil)
       clear hst7 hfr7 hk8
       refine hK82 _ _ ?_
       refine zE hfr8 rfl rfl (fun hb128 => ?_) (fun hb128 => ?_)
       ·simp [hnk] at hb128
       ·try simp only [nqs] at hb128
        refine zB fun _ hK84 => ?_
        rcases zDQ l with ⟨x9, y9, hl2, hxk, hyk⟩ | ⟨x9, y9, hl2, hxk, hyk⟩ | ⟨x9, y9, hl2, hxk⟩ | hln
        ·skip
         have hlw9 : l.length = 2 := by rw [hl2]; rfl
         have hxx9 : x83 = x9 := by have h9 := hd83; rw [hl2] at h9; simp at h9; exact h9.symm
         subst hxx9
         replace h_l := h_l.mono hle8
         obtain ⟨p85, vs85, x85, ho85, hd85, hm_x85, ht85, hcv85, hl85, hv85⟩ := h_l.nth (k := 1) (by omega)
         cases ho85
         obtain ⟨⟨oa85, ca85, pf85, ob85, cb85⟩, rfl, ⟨hi85, hj85⟩, hvk85, hcl85, hfm85, hnl85⟩ := hv85.open_
         have hbk85 := hvk85.big; have hbf85 := hfm85.big
         have hxy9 : x85 = y9 := by have h9 := hd85; rw [hl2] at h9; simp at h9; exact h9.symm
         subst hxy9
         rw [hl2] at hop9
         have hq9 := zDT hop9 hxk hyk
         replace hcv83 := hcv83.mono hle8
         refine rp0 hst8 hfr8 (.cons rfl (zC rfl) <| .cons rfl (zl rfl underlying68) <| .cons rfl (zS rfl rfl) <| .cons rfl (zC rfl) <| .cons rfl (zC rfl) <| .cons rfl (zI (k := 0) rfl rfl underlying68 sizeOf72 rfl (by omega)) <| .cons rfl (zA (off := 0) rfl underlying72 rfl rfl sizeOf31 rfl) <| .cons rfl (zA (off := 0) rfl underlying31 rfl rfl sizeOf3 rfl) <| .cons rfl (zJ rfl (hcv83.drop 0) isAgg3 rfl) <| .cons rfl (zS rfl rfl) <| .cons rfl (zU rfl rfl rfl) <| .cons rfl (zC rfl) <| .cons rfl (zC rfl) <| .cons rfl (zI (k := 1) rfl rfl underlying68 sizeOf72 rfl (by omega)) <| .cons rfl (zA (off := 0) rfl underlying72 rfl rfl sizeOf31 rfl) <| .cons rfl (zA (off := 0) rfl underlying31 rfl rfl sizeOf3 rfl) <| .cons rfl (zJ rfl (hcv85.drop 0) isAgg3 rfl) <| .cons rfl (zS rfl rfl) <| .cons rfl (zU rfl rfl rfl) <| .cons rfl (zD rfl) <| .nil) fun a9 w9 m9 hst9 hle9 hk9 => ?_
         have hfr9 := hk9.fr (.o 0 <| .o 1 <| .o 2 <| .n 155 <| .nil)
         clear hst8 hfr8 hk9
         refine hK84 _ _ ?_
         refine zE hfr9 rfl rfl (fun hb155 => ?_) (fun hb155 => ?_)
         ·try simp only [nqs] at hb155
          refine zB fun _ hK86 => ?_
          rcases hq9 with ⟨v8, hbm, rfl, rfl⟩ | ⟨hbm, hq8⟩
          ·skip
           obtain ⟨k8, n8, rfl, hik8, hin8, hor8⟩ := zEG hbm
           replace hst9 := hst9.more (r := .free) trivial List.nodup_nil (by simp [Res.blocks])
           replace hcv83 := hcv83.mono hle9
           replace hcv85 := hcv85.mono hle9
           refine zc (tch := [(15, 4, (fun v => .blk v _)), (16, 4, (fun v => .blk v _))]) (fun _ => zw) hst9 hfr9 (by kernel_rfl) (by kernel_rfl) (by kernel_rfl) (.cons rfl (zC rfl) <| .cons rfl (zC rfl) <| .cons rfl (zI (k := 0) rfl rfl underlying68 sizeOf72 rfl (by omega)) <| .cons rfl (zA (off := 0) rfl underlying72 rfl rfl sizeOf31 rfl) <| .cons rfl (zA (off := 1) rfl underlying31 rfl rfl sizeOf3 rfl) <| .cons rfl (zJ rfl (hcv83.drop 0) isAgg3 rfl) <| .cons rfl (zC rfl) <| .cons rfl (zI (k := 1) rfl rfl underlying68 sizeOf72 rfl (by omega)) <| .cons rfl (zA (off := 0) rfl underlying72 rfl rfl sizeOf31 rfl) <| .cons rfl (zA (off := 1) rfl underlying31 rfl rfl sizeOf3 rfl) <| .cons rfl (zJ rfl (hcv85.drop 0) isAgg3 rfl) <| .cons rfl (zX rfl (.cons rfl <| .cons rfl <| .cons rfl <| .nil) call65 (fun w m hK => by have hle_ := KC.le hK; have hA := KC.agree hK; exact zDn hA hor8)) <| .cons rfl (zC rfl) <| .cons rfl (zM rfl rfl) <| .cons rfl (zM rfl rfl) <| .consT rfl rfl (fun _ => rfl) rfl (zP zeroValue31 rfl) <| .consT rfl rfl (fun _ => rfl) rfl (zb 9 rfl rfl rfl fun y9 => za rfl rfl rfl rfl rfl sizeOf31 rfl rfl rfl) <| .cons rfl (zD rfl) <| .nil) fun a10 w10 m10 hst10 hle10 hk10 => ?_
           have hfr10 := hk10.fr (.o 0 <| .o 1 <| .n 10 <| .nil)
           obtain ⟨g9, e87, _⟩ := hk10.ex 9 rfl
           replace hfr10 := hfr10.cons e87
           replace hst10 := hst10.fin (L' := [_, _, _, _, _]) (.cons e87 <| .cons e87 <| .nil)
           try simp only [List.take_succ_cons, List.take_zero, List.drop_succ_cons, List.drop_zero, List.cons_append, List.nil_append, List.append_nil, List.length_cons, List.length_nil, Nat.zero_add, Nat.reduceAdd] at hst10
           clear hst9 hfr9 hk10
           refine hK86 _ _ ?_
           refine zB fun _ hK88 => ?_
           refine zB fun _ hK89 => ?_
           refine rp0 hst10 hfr10 (.cons rfl (zC rfl) <| .cons rfl (z2 rfl) <| .nil) fun a11 w11 m11 hst11 hle11 hk11 => ?_
           have hfr11 := hk11.fr (.o 0 <| .o 1 <| .o 9 <| .n 191 <| .nil)
           clear hst10 hfr10 hk11
           refine hK89 _ _ ?_
           refine zE hfr11 rfl rfl (fun hb191 => ?_) (fun hb191 => ?_)
           ·simp at hb191
           ·try simp only [nqs] at hb191
            refine zR ?_
            refine hK88 _ _ ?_
            refine zB fun _ hK90 => ?_
            have zq73 := hle10.trans hle11
            have zq74 := hle9.trans zq73
            have zq75 := hle8.trans zq74
            have zq76 := zq72.trans zq75
            replace hS := hS.mono zq76
            replace hin := hin.mono zq76
            replace htr := htr.mono zq76
            replace hM := hM.trans zq76
            replace hv83 := hv83.mono zq75
            replace hvk83 := hvk83.mono zq75
            replace hcl83 := hcl83.mono zq75
            replace hfm83 := hfm83.mono zq75
            replace h_l := h_l.mono zq74
            replace hv85 := hv85.mono zq74
            replace hvk85 := hvk85.mono zq74
            replace hcl85 := hcl85.mono zq74
            replace hfm85 := hfm85.mono zq74
            replace hcv83 := hcv83.mono zq73
            replace hcv85 := hcv85.mono zq73
            refine ra0 (tch := [(3, 0, (fun _ => MK g (s.has ⟨k8, n8, [], [], .none, []⟩) ⟨yc, pe, yv, pv, fo, fc, co, cc, io, ic, mo, to, tc⟩))]) hst11 hfr11 (.cons rfl (zC rfl) <| .cons rfl (zh (j := 4) rfl rfl isAgg31 sizeOf31 rfl) <| .cons rfl (zQ (.cons rfl <| .nil) underlying72 zeroValue72 (.cons sizeOf31 <| .cons sizeOf68 <| .cons sizeOf69 <| .cons sizeOf70 <| .nil) rfl) <| .consT rfl rfl (fun _ => rfl) rfl (zj rfl (.cons rfl <| .cons rfl <| .nil) call49 (κ := .eq (.bool true)) (fun σ w m hK hr hkn => by have hle_ := KC.le hK; have hA := KC.agree hK; have hM := hM.trans hle_; have hS := hS.mono hle_; have h_l := h_l.mono hle_; have hin := hin.mono hle_; have htr := htr.mono hle_; have hcv83 := hcv83.mono hle_; have hv83 := hv83.mono hle_; have hvk83 := hvk83.mono hle_; have hcl83 := hcl83.mono hle_; have hfm83 := hfm83.mono hle_; have hcv85 := hcv85.mono hle_; have hv85 := hv85.mono hle_; have hvk85 := hvk85.mono hle_; have hcl85 := hcl85.mono hle_; have hfm85 := hfm85.mono hle_; exact Zy (s := s) (zBu (s := s) (x := ⟨k8, n8, [], [], .none, []⟩) (y := ⟨yc, pe, yv, pv, fo, fc, co, cc, io, ic, mo, to, tc⟩) hA hr hS (VlR.flat (k := k8) (n := n8) hik8 hin8)))) <| .cons rfl (zD rfl) <| .nil) fun a12 w12 m12 hst12 hle12 hk12 => ?_
            have hfr12 := hk12.fr (.n 6 <| .nil)
            replace hst12 := hst12.fin (L' := [_, _, _, _, _]) (.cons rfl <| .nil)
            clear hst11 hfr11 hk12
            obtain ⟨y7, hst12, hS7, hK7⟩ := zp (k := 0) hst12 rfl
            simp only [List.set_cons_zero] at hst12
            refine hK90 _ _ ?_
            refine zN ?_
            repeat (with_reducible first | refine zH ?_ | refine zG ?_)
            exact zO hst12 hfr12 rfl (.tmp rfl <| .nil) (⟨_, (hst12.take 3).loc, y7, (by simp only [ML, Zh, Ze]; rw [hK7.to, hK7.tc, hK7.co, hK7.cc]; rfl), hS7, rfl⟩)
          ·skip
           replace hst9 := hst9.more (r := .free) trivial List.nodup_nil (by simp [Res.blocks])
           replace hcv83 := hcv83.mono hle9
           replace hcv85 := hcv85.mono hle9
           refine zc (tch := [(15, 4, (fun v => .blk v _)), (16, 4, (fun v => .blk v _))]) (fun _ => zw) hst9 hfr9 (by kernel_rfl) (by kernel_rfl) (by kernel_rfl) (.cons rfl (zC rfl) <| .cons rfl (zC rfl) <| .cons rfl (zI (k := 0) rfl rfl underlying68 sizeOf72 rfl (by omega)) <| .cons rfl (zA (off := 0) rfl underlying72 rfl rfl sizeOf31 rfl) <| .cons rfl (zA (off := 1) rfl underlying31 rfl rfl sizeOf3 rfl) <| .cons rfl (zJ rfl (hcv83.drop 0) isAgg3 rfl) <| .cons rfl (zC rfl) <| .cons rfl (zI (k := 1) rfl rfl underlying68 sizeOf72 rfl (by omega)) <| .cons rfl (zA (off := 0) rfl underlying72 rfl rfl sizeOf31 rfl) <| .cons rfl (zA (off := 1) rfl underlying31 rfl rfl sizeOf3 rfl) <| .cons rfl (zJ rfl (hcv85.drop 0) isAgg3 rfl) <| .cons rfl (zX rfl (.cons rfl <| .cons rfl <| .cons rfl <| .nil) call65 (fun w m hK => by have hle_ := KC.le hK; have hA := KC.agree hK; exact zDn hA (zEE hbm))) <| .cons rfl (zC rfl) <| .cons rfl (zM rfl rfl) <| .cons rfl (zM rfl rfl) <| .consT rfl rfl (fun _ => rfl) rfl (zP zeroValue31 rfl) <| .consT rfl rfl (fun _ => rfl) rfl (zb 9 rfl rfl rfl fun y9 => za rfl rfl rfl rfl rfl sizeOf31 rfl rfl rfl) <| .cons rfl (zD rfl) <| .nil) fun a10 w10 m10 hst10 hle10 hk10 => ?_
           have hfr10 := hk10.fr (.o 0 <| .o 1 <| .n 10 <| .nil)
           obtain ⟨g9, e92, _⟩ := hk10.ex 9 rfl
           replace hfr10 := hfr10.cons e92
           replace hst10 := hst10.fin (L' := [_, _, _, _, _]) (.cons e92 <| .cons e92 <| .nil)
           try simp only [List.take_succ_cons, List.take_zero, List.drop_succ_cons, List.drop_zero, List.cons_append, List.nil_append, List.append_nil, List.length_cons, List.length_nil, Nat.zero_add, Nat.reduceAdd] at hst10
           clear hst9 hfr9 hk10
           refine hK86 _ _ ?_
           refine zB fun _ hK93 => ?_
           refine zB fun _ hK94 => ?_
           refine rp0 hst10 hfr10 (.cons rfl (zC rfl) <| .cons rfl (z2 rfl) <| .nil) fun a11 w11 m11 hst11 hle11 hk11 => ?_
           have hfr11 := hk11.fr (.o 0 <| .o 1 <| .o 9 <| .n 191 <| .nil)
           clear hst10 hfr10 hk11
           refine hK94 _ _ ?_
           refine zE hfr11 rfl rfl (fun hb191 => ?_) (fun hb191 => ?_)
           ·try simp only [nqs] at hb191
            refine zB fun _ hK95 => ?_
            rcases hq8 with ⟨hn47, rfl, rfl⟩ | ⟨hn47, rfl, rfl⟩
            ·skip
             have zq77 := hle10.trans hle11
             have zq78 := hle9.trans zq77
             have zq79 := hle8.trans zq78
             have zq80 := zq72.trans zq79
             replace hS := hS.mono zq80
             replace hin := hin.mono zq80
             replace htr := htr.mono zq80
             replace hM := hM.trans zq80
             replace hv83 := hv83.mono zq79
             replace hvk83 := hvk83.mono zq79
             replace hcl83 := hcl83.mono zq79
             replace hfm83 := hfm83.mono zq79
             replace h_l := h_l.mono zq78
             replace hv85 := hv85.mono zq78
             replace hvk85 := hvk85.mono zq78
             replace hcl85 := hcl85.mono zq78
             replace hfm85 := hfm85.mono zq78
             replace hcv83 := hcv83.mono zq77
             replace hcv85 := hcv85.mono zq77
             refine ra0 (tch := [(4, 0, (fun _ => MK g (s.ends 2) ⟨yc, pe, yv, pv, fo, fc, co, cc, io, ic, mo, to, tc⟩))]) hst11 hfr11 (.cons rfl (zC rfl) <| .cons rfl (zd rfl rfl) <| .cons rfl (zC rfl) <| .cons rfl (zC rfl) <| .consTG rfl rfl (fun _ => rfl) (.inr ⟨_, _, _, rfl, rfl, (by first | (exact absurd hn47 (by decide)) | simp [hn47])⟩) (zj rfl (.cons rfl <| .cons rfl <| .nil) call35 (κ := .eq (.bool true)) (fun σ w m hK hr hkn => by have hle_ := KC.le hK; have hA := KC.agree hK; have hM := hM.trans hle_; have hS := hS.mono hle_; have h_l := h_l.mono hle_; have hin := hin.mono hle_; have htr := htr.mono hle_; have hcv83 := hcv83.mono hle_; have hv83 := hv83.mono hle_; have hvk83 := hvk83.mono hle_; have hcl83 := hcl83.mono hle_; have hfm83 := hfm83.mono hle_; have hcv85 := hcv85.mono hle_; have hv85 := hv85.mono hle_; have hvk85 := hvk85.mono hle_; have hcl85 := hcl85.mono hle_; have hfm85 := hfm85.mono hle_; exact Zy (s := s) (zDf (s := s) (y := ⟨yc, pe, yv, pv, fo, fc, co, cc, io, ic, mo, to, tc⟩) hA hr hS ⟨by decide, by decide⟩))) <| .cons rfl (zU rfl rfl rfl) <| .cons rfl (zD rfl) <| .nil) fun a12 w12 m12 hst12 hle12 hk12 => ?_
             have hfr12 := hk12.fr (.n 6 <| .nil)
             replace hst12 := hst12.fin (L' := [_, _, _, _, _]) (.cons rfl <| .nil)
             clear hst11 hfr11 hk12
             obtain ⟨y7, hst12, hS7, hK7⟩ := zp (k := 0) hst12 rfl
             simp only [List.set_cons_zero] at hst12
             refine hK95 _ _ ?_
             refine zN ?_
             repeat (with_reducible first | refine zH ?_ | refine zG ?_)
             replace hS := hS.mono hle12
             exact zO hst12 hfr12 rfl (.tmp rfl <| .nil) (by first | (exact absurd hn47 (by decide)) | (simp only [hn47]; exact ⟨_, (hst12.take 3).loc, y7, (by simp only [ML, Zh, Ze]; rw [hK7.to, hK7.tc, hK7.co, hK7.cc]; rfl), hS7, rfl⟩) | (rw [decide_eq_false hn47]; exact ⟨_, (hst12.take 3).loc, ⟨yc, pe, yv, pv, fo, fc, co, cc, io, ic, mo, to, tc⟩, rfl, hS, rfl⟩))
            ·skip
             refine rp0 hst11 hfr11 (.cons rfl (zC rfl) <| .cons rfl (zd rfl rfl) <| .cons rfl (zC rfl) <| .cons rfl (zF (κ := .eq (.bool false)) (b := true) 194 rfl rfl (fun h => by simp [hn47] at h)) <| .cons rfl (zF (κ := .eq (.bool false)) (b := true) 194 rfl rfl (fun h => by simp [hn47] at h)) <| .cons rfl (zU rfl rfl rfl) <| .cons rfl (zD rfl) <| .nil) fun a12 w12 m12 hst12 hle12 hk12 => ?_
             have hfr12 := hk12.fr (.n 6 <| .nil)
             clear hst11 hfr11 hk12
             refine hK95 _ _ ?_
             refine zN ?_
             repeat (with_reducible first | refine zH ?_ | refine zG ?_)
             have zq81 := hle11.trans hle12
             have zq82 := hle10.trans zq81
             have zq83 := hle9.trans zq82
             have zq84 := hle8.trans zq83
             have zq85 := zq72.trans zq84
             replace hS := hS.mono zq85
             exact zO hst12 hfr12 rfl (.tmp rfl <| .nil) (by first | (exact absurd hn47 (by decide)) | (simp only [hn47]; exact ⟨_, (hst12.take 3).loc, y7, (by simp only [ML, Zh, Ze]; rw [hK7.to, hK7.tc, hK7.co, hK7.cc]; rfl), hS7, rfl⟩) | (rw [decide_eq_false hn47]; exact ⟨_, (hst12.take 3).loc, ⟨yc, pe, yv, pv, fo, fc, co, cc, io, ic, mo, to, tc⟩, rfl, hS, rfl⟩))
           ·simp at hb191
         ·simp [hlw9, hxk, hyk] at hb155
        ·skip
         have hlw9 : l.length = 2 := by rw [hl2]; rfl
         have hxx9 : x83 = x9 := by have h9 := hd83; rw [hl2] at h9; simp at h9; exact h9.symm
         subst hxx9
         replace h_l := h_l.mono hle8
         obtain ⟨p98, vs98, x98, ho98, hd98, hm_x98, ht98, hcv98, hl98, hv98⟩ := h_l.nth (k := 1) (by omega)
         cases ho98
         obtain ⟨⟨oa98, ca98, pf98, ob98, cb98⟩, rfl, ⟨hi98, hj98⟩, hvk98, hcl98, hfm98, hnl98⟩ := hv98.open_
         have hbk98 := hvk98.big; have hbf98 := hfm98.big
         have hxy9 : x98 = y9 := by have h9 := hd98; rw [hl2] at h9; simp at h9; exact h9.symm
         subst hxy9
         obtain ⟨rfl, rfl⟩ := zAT hop9 (fun ⟨a, c, e, h1, h2⟩ => by rw [hl2] at e; injection e with e1 e2; injection e2 with e2 _; subst e2; exact hyk h2)
         replace hcv83 := hcv83.mono hle8
         refine rp0 hst8 hfr8 (.cons rfl (zC rfl) <| .cons rfl (zl rfl underlying68) <| .cons rfl (zS rfl rfl) <| .cons rfl (zC rfl) <| .cons rfl (zC rfl) <| .cons rfl (zI (k := 0) rfl rfl underlying68 sizeOf72 rfl (by omega)) <| .cons rfl (zA (off := 0) rfl underlying72 rfl rfl sizeOf31 rfl) <| .cons rfl (zA (off := 0) rfl underlying31 rfl rfl sizeOf3 rfl) <| .cons rfl (zJ rfl (hcv83.drop 0) isAgg3 rfl) <| .cons rfl (zS rfl rfl) <| .cons rfl (zU rfl rfl rfl) <| .cons rfl (zC rfl) <| .cons rfl (zC rfl) <| .cons rfl (zI (k := 1) rfl rfl underlying68 sizeOf72 rfl (by omega)) <| .cons rfl (zA (off := 0) rfl underlying72 rfl rfl sizeOf31 rfl) <| .cons rfl (zA (off := 0) rfl underlying31 rfl rfl sizeOf3 rfl) <| .cons rfl (zJ rfl (hcv98.drop 0) isAgg3 rfl) <| .cons rfl (zS rfl rfl) <| .cons rfl (zU rfl rfl rfl) <| .cons rfl (zD rfl) <| .nil) fun a9 w9 m9 hst9 hle9 hk9 => ?_
         have hfr9 := hk9.fr (.o 0 <| .o 1 <| .o 2 <| .n 155 <| .nil)
         clear hst8 hfr8 hk9
         refine hK84 _ _ ?_
         refine zE hfr9 rfl rfl (fun hb155 => ?_) (fun hb155 => ?_)
         ·simp [hlw9, hxk, hyk] at hb155
         ·try simp only [nqs] at hb155
          refine zR ?_
          refine hK4 _ _ ?_
          refine zB fun _ hK99 => ?_
          refine rp0 hst9 hfr9 (.cons rfl (zD rfl) <| .nil) fun a10 w10 m10 hst10 hle10 hk10 => ?_
          have hfr10 := hk10.fr (.n 6 <| .nil)
          clear hst9 hfr9 hk10
          refine hK99 _ _ ?_
          refine zN ?_
          repeat (with_reducible first | refine zH ?_ | refine zG ?_)
          have zq86 := hle9.trans hle10
          have zq87 := hle8.trans zq86
          have zq88 := zq72.trans zq87
          replace hS := hS.mono zq88
          exact zO hst10 hfr10 rfl (.tmp rfl <| .nil) (⟨_, (hst10.take 3).loc, ⟨yc, pe, yv, pv, fo, fc, co, cc, io, ic, mo, to, tc⟩, rfl, hS, rfl⟩)
        ·skip
         have hlw9 : l.length = 2 := by rw [hl2]; rfl
         have hxx9 : x83 = x9 := by have h9 := hd83; rw [hl2] at h9; simp at h9; exact h9.symm
         subst hxx9
         obtain ⟨rfl, rfl⟩ := zAT hop9 (fun ⟨a, c, e, h1, h2⟩ => by rw [hl2] at e; injection e with e1 e2; subst e1; exact hxk h1)
         replace hcv83 := hcv83.mono hle8
         refine rp0 hst8 hfr8 (.cons rfl (zC rfl) <| .cons rfl (zl rfl underlying68) <| .cons rfl (zS rfl rfl) <| .cons rfl (zC rfl) <| .cons rfl (zC rfl) <| .cons rfl (zI (k := 0) rfl rfl underlying68 sizeOf72 rfl (by omega)) <| .cons rfl (zA (off := 0) rfl underlying72 rfl rfl sizeOf31 rfl) <| .cons rfl (zA (off := 0) rfl underlying31 rfl rfl sizeOf3 rfl) <| .cons rfl (zJ rfl (hcv83.drop 0) isAgg3 rfl) <| .cons rfl (zS rfl rfl) <| .cons rfl (zU rfl rfl rfl) <| .cons rfl (zC rfl) <| .cons rfl (zF (κ := .eq (.bool false)) (b := true) 167 rfl rfl (fun h => by simp [hxk] at h)) <| .cons rfl (zF (κ := .eq (.bool false)) (b := true) 167 rfl rfl (fun h => by simp [hxk] at h)) <| .cons rfl (zF (κ := .eq (.bool false)) (b := true) 167 rfl rfl (fun h => by simp [hxk] at h)) <| .cons rfl (zF (κ := .eq (.bool false)) (b := true) 167 rfl rfl (fun h => by simp [hxk] at h)) <| .cons rfl (zF (κ := .eq (.bool false)) (b := true) 167 rfl rfl (fun h => by simp [hxk] at h)) <| .cons rfl (zF (κ := .eq (.bool false)) (b := true) 167 rfl rfl (fun h => by simp [hxk] at h)) <| .cons rfl (zU rfl rfl rfl) <| .cons rfl (zD rfl) <| .nil) fun a9 w9 m9 hst9 hle9 hk9 => ?_
         have hfr9 := hk9.fr (.o 0 <| .o 1 <| .o 2 <| .n 155 <| .nil)
         clear hst8 hfr8 hk9
         refine hK84 _ _ ?_
         refine zE hfr9 rfl rfl (fun hb155 => ?_) (fun hb155 => ?_)
         ·simp [hxk] at hb155
         ·try simp only [nqs] at hb155
          refine zR ?_
          refine hK4 _ _ ?_
          refine zB fun _ hK101 => ?_
          refine rp0 hst9 hfr9 (.cons rfl (zD rfl) <| .nil) fun a10 w10 m10 hst10 hle10 hk10 => ?_
          have hfr10 := hk10.fr (.n 6 <| .nil)
          clear hst9 hfr9 hk10
          refine hK101 _ _ ?_
          refine zN ?_
          repeat (with_reducible first | refine zH ?_ | refine zG ?_)
          have zq89 := hle9.trans hle10
          have zq90 := hle8.trans zq89
          have zq91 := zq72.trans zq90
          replace hS := hS.mono zq91
          exact zO hst10 hfr10 rfl (.tmp rfl <| .nil) (⟨_, (hst10.take 3).loc, ⟨yc, pe, yv, pv, fo, fc, co, cc, io, ic, mo, to, tc⟩, rfl, hS, rfl⟩)
        ·skip
         obtain ⟨rfl, rfl⟩ := zAT hop9 (fun ⟨a, c, e, h1, h2⟩ => hln (by rw [e]; rfl))
         refine rp0 hst8 hfr8 (.cons rfl (zC rfl) <| .cons rfl (zl rfl underlying68) <| .cons rfl (zS rfl rfl) <| .cons rfl (zC rfl) <| .cons rfl (zF (κ := .eq (.bool false)) (b := true) 159 rfl rfl (fun h => by first | (simp at h; omega) | (simp at h; done))) <| .cons rfl (zF (κ := .eq (.bool false)) (b := true) 159 rfl rfl (fun h => by first | (simp at h; omega) | (simp at h; done))) <| .cons rfl (zF (κ := .eq (.bool false)) (b := true) 159 rfl rfl (fun h => by first | (simp at h; omega) | (simp at h; done))) <| .cons rfl (zF (κ := .eq (.bool false)) (b := true) 159 rfl rfl (fun h => by first | (simp at h; omega) | (simp at h; done))) <| .cons rfl (zF (κ := .eq (.bool false)) (b := true) 159 rfl rfl (fun h => by first | (simp at h; omega) | (simp at h; done))) <| .cons rfl (zF (κ := .eq (.bool false)) (b := true) 159 rfl rfl (fun h => by first | (simp at h; omega) | (simp at h; done))) <| .cons rfl (zU rfl rfl rfl) <| .cons rfl (zC rfl) <| .cons rfl (zF (κ := .eq (.bool false)) (b := true) 167 rfl rfl (fun h => by first | (simp at h; omega) | (simp at h; done))) <| .cons rfl (zF (κ := .eq (.bool false)) (b := true) 167 rfl rfl (fun h => by first | (simp at h; omega) | (simp at h; done))) <| .cons rfl (zF (κ := .eq (.bool false)) (b := true) 167 rfl rfl (fun h => by first | (simp at h; omega) | (simp at h; done))) <| .cons rfl (zF (κ := .eq (.bool false)) (b := true) 167 rfl rfl (fun h => by first | (simp at h; omega) | (simp at h; done))) <| .cons rfl (zF (κ := .eq (.bool false)) (b := true) 167 rfl rfl (fun h => by first | (simp at h; omega) | (simp at h; done))) <| .cons rfl (zF (κ := .eq (.bool false)) (b := true) 167 rfl rfl (fun h => by first | (simp at h; omega) | (simp at h; done))) <| .cons rfl (zU rfl rfl rfl) <| .cons rfl (zD rfl) <| .nil) fun a9 w9 m9 hst9 hle9 hk9 => ?_
         have hfr9 := hk9.fr (.o 0 <| .o 1 <| .o 2 <| .n 155 <| .nil)
         clear hst8 hfr8 hk9
         refine hK84 _ _ ?_
         refine zE hfr9 rfl rfl (fun hb155 => ?_) (fun hb155 => ?_)
         ·simp at hb155 <;> omega
         ·try simp only [nqs] at hb155
          refine zR ?_
          refine hK4 _ _ ?_
          refine zB fun _ hK103 => ?_
          refine rp0 hst9 hfr9 (.cons rfl (zD rfl) <| .nil) fun a10 w10 m10 hst10 hle10 hk10 => ?_
          have hfr10 := hk10.fr (.n 6 <| .nil)
          clear hst9 hfr9 hk10
          refine hK103 _ _ ?_
          refine zN ?_
          repeat (with_reducible first | refine zH ?_ | refine zG ?_)
          have zq92 := hle9.trans hle10
          have zq93 := hle8.trans zq92
          have zq94 := zq72.trans zq93
          replace hS := hS.mono zq94
          exact zO hst10 hfr10 rfl (.tmp rfl <| .nil) (⟨_, (hst10.take 3).loc, ⟨yc, pe, yv, pv, fo, fc, co, cc, io, ic, mo, to, tc⟩, rfl, hS, rfl⟩)
 ·skip
  refine rp0 hst2 hfr2 (.cons rfl (zC rfl) <| .cons rfl (zd rfl rfl) <| .cons rfl (zC rfl) <| .cons rfl (zF (κ := .eq (.bool false)) (b := true) 16 rfl rfl (fun h => by first | (exact absurd h (by decide)) | (simp at h; done) | (simp only [nq3] at h; exact absurd h (by assumption)) | simp_all)) <| .cons rfl (zF (κ := .eq (.bool false)) (b := true) 16 rfl rfl (fun h => by first | (exact absurd h (by decide)) | (simp at h; done) | (simp only [nq3] at h; exact absurd h (by assumption)) | simp_all)) <| .cons rfl (zF (κ := .eq (.bool false)) (b := true) 16 rfl rfl (fun h => by first | (exact absurd h (by decide)) | (simp at h; done) | (simp only [nq3] at h; exact absurd h (by assumption)) | simp_all)) <| .cons rfl (zF (κ := .eq (.bool false)) (b := true) 16 rfl rfl (fun h => by first | (exact absurd h (by decide)) | (simp at h; done) | (simp only [nq3] at h; exact absurd h (by assumption)) | simp_all)) <| .cons rfl (zF (κ := .eq (.bool false)) (b := true) 16 rfl rfl (fun h => by first | (exact absurd h (by decide)) | (simp at h; done) | (simp only [nq3] at h; exact absurd h (by assumption)) | simp_all)) <| .cons rfl (zF (κ := .eq (.bool false)) (b := true) 16 rfl rfl (fun h => by first | (exact absurd h (by decide)) | (simp at h; done) | (simp only [nq3] at h; exact absurd h (by assumption)) | simp_all)) <| .cons rfl (zU rfl rfl rfl) <| .cons rfl (zD rfl) <| .nil) fun a3 w3 m3 hst3 hle3 hk3 => ?_
  have hfr3 := hk3.fr (.o 0 <| .o 1 <| .o 2 <| .o 7 <| .n 13 <| .nil)
  clear hst2 hfr2 hk3
  refine hK5 _ _ ?_
  refine zE hfr3 rfl rfl (fun hb13 => ?_) (fun hb13 => ?_)
  ·simp [rdS, rfS, prS, hz0] at hb13
  ·try simp only [nqs] at hb13
   refine zB fun _ hK105 => ?_
   refine rp0 hst3 hfr3 (.cons rfl (zC rfl) <| .cons rfl (zd rfl rfl) <| .cons rfl (zD rfl) <| .nil) fun a4 w4 m4 hst4 hle4 hk4 => ?_
   have hfr4 := hk4.fr (.o 0 <| .o 1 <| .o 2 <| .o 7 <| .n 26 <| .nil)
   clear hst3 hfr3 hk4
   refine hK105 _ _ ?_
   refine zE hfr4 rfl rfl (fun hb26 => ?_) (fun hb26 => ?_)
   ·simp [rdS, rfS, prS, hz0] at hb26
   ·try simp only [nqs] at hb26
    refine zB fun _ hK106 => ?_
    refine rp0 hst4 hfr4 (.cons rfl (zC rfl) <| .cons rfl (zd rfl rfl) <| .cons rfl (zD rfl) <| .nil) fun a5 w5 m5 hst5 hle5 hk5 => ?_
    have hfr5 := hk5.fr (.o 0 <| .o 1 <| .o 2 <| .o 7 <| .n 48 <| .nil)
    clear hst4 hfr4 hk5
    refine hK106 _ _ ?_
    refine zE hfr5 rfl rfl (fun hb48 => ?_) (fun hb48 => ?_)
    ·simp [rdS, rfS, prS, hz1] at hb48
    ·try simp only [nqs] at hb48
     refine zB fun _ hK107 => ?_
     refine rp0 hst5 hfr5 (.cons rfl (zC rfl) <| .cons rfl (zd rfl rfl) <| .cons rfl (zC rfl) <| .cons rfl (zF (κ := .eq (.bool false)) (b := true) 77 rfl rfl (fun h => by first | (exact absurd h (by decide)) | (simp at h; done) | (simp only [nq3] at h; exact absurd h (by assumption)) | simp_all)) <| .cons rfl (zF (κ := .eq (.bool false)) (b := true) 77 rfl rfl (fun h => by first | (exact absurd h (by decide)) | (simp at h; done) | (simp only [nq3] at h; exact absurd h (by assumption)) | simp_all)) <| .cons rfl (zF (κ := .eq (.bool false)) (b := true) 77 rfl rfl (fun h => by first | (exact absurd h (by decide)) | (simp at h; done) | (simp only [nq3] at h; exact absurd h (by assumption)) | simp_all)) <| .cons rfl (zF (κ := .eq (.bool false)) (b := true) 77 rfl rfl (fun h => by first | (exact absurd h (by decide)) | (simp at h; done) | (simp only [nq3] at h; exact absurd h (by assumption)) | simp_all)) <| .cons rfl (zF (κ := .eq (.bool false)) (b := true) 77 rfl rfl (fun h => by first | (exact absurd h (by decide)) | (simp at h; done) | (simp only [nq3] at h; exact absurd h (by assumption)) | simp_all)) <| .cons rfl (zF (κ := .eq (.bool false)) (b := true) 77 rfl rfl (fun h => by first | (exact absurd h (by decide)) | (simp at h; done) | (simp only [nq3] at h; exact absurd h (by assumption)) | simp_all)) <| .cons rfl (zU rfl rfl rfl) <| .cons rfl (zD rfl) <| .nil) fun a6 w6 m6 hst6 hle6 hk6 => ?_
     have hfr6 := hk6.fr (.o 0 <| .o 1 <| .o 2 <| .o 7 <| .n 74 <| .nil)
     clear hst5 hfr5 hk6
     refine hK107 _ _ ?_
     refine zE hfr6 rfl rfl (fun hb74 => ?_) (fun hb74 => ?_)
     ·simp [rdS, rfS, prS, hz2] at hb74
     ·try simp only [nqs] at hb74
      refine zB fun _ hK108 => ?_
      refine rp0 hst6 hfr6 (.cons rfl (zC rfl) <| .cons rfl (zd rfl rfl) <| .cons rfl (zC rfl) <| .cons rfl (zF (κ := .eq (.bool false)) (b := true) 107 rfl rfl (fun h => by first | (exact absurd h (by decide)) | (simp at h; done) | (simp only [nq3] at h; exact absurd h (by assumption)) | simp_all)) <| .cons rfl (zF (κ := .eq (.bool false)) (b := true) 107 rfl rfl (fun h => by first | (exact absurd h (by decide)) | (simp at h; done) | (simp only [nq3] at h; exact absurd h (by assumption)) | simp_all)) <| .cons rfl (zF (κ := .eq (.bool false)) (b := true) 107 rfl rfl (fun h => by first | (exact absurd h (by decide)) | (simp at h; done) | (simp only [nq3] at h; exact absurd h (by assumption)) | simp_all)) <| .cons rfl (zF (κ := .eq (.bool false)) (b := true) 107 rfl rfl (fun h => by first | (exact absurd h (by decide)) | (simp at h; done) | (simp only [nq3] at h; exact absurd h (by assumption)) | simp_all)) <| .cons rfl (zF (κ := .eq (.bool false)) (b := true) 107 rfl rfl (fun h => by first | (exact absurd h (by decide)) | (simp at h; done) | (simp only [nq3] at h; exact absurd h (by assumption)) | simp_all)) <| .cons rfl (zF (κ := .eq (.bool false)) (b := true) 107 rfl rfl (fun h => by first | (exact absurd h (by decide)) | (simp at h; done) | (simp only [nq3] at h; exact absurd h (by assumption)) | simp_all)) <| .cons rfl (zU rfl rfl rfl) <| .cons rfl (zD rfl) <| .nil) fun a7 w7 m7 hst7 hle7 hk7 => ?_
      have hfr7 := hk7.fr (.o 0 <| .o 1 <| .o 2 <| .o 7 <| .n 104 <| .nil)
      clear hst6 hfr6 hk7
      refine hK108 _ _ ?_
      refine zE hfr7 rfl rfl (fun hb104 => ?_) (fun hb104 => ?_)
      ·simp [rdS, rfS, prS, hz3] at hb104
      ·try simp only [nqs] at hb104
       refine zB fun _ hK109 => ?_
       refine rp0 hst7 hfr7 (.cons rfl (zC rfl) <| .cons rfl (zd rfl rfl) <| .cons rfl (zC rfl) <| .cons rfl (zF (κ := .eq (.bool false)) (b := true) 131 rfl rfl (fun h => by first | (exact absurd h (by decide)) | (simp at h; done) | (simp only [nq3] at h; exact absurd h (by assumption)) | simp_all)) <| .cons rfl (zF (κ := .eq (.bool false)) (b := true) 131 rfl rfl (fun h => by first | (exact absurd h (by decide)) | (simp at h; done) | (simp only [nq3] at h; exact absurd h (by assumption)) | simp_all)) <| .cons rfl (zF (κ := .eq (.bool false)) (b := true) 131 rfl rfl (fun h => by first | (exact absurd h (by decide)) | (simp at h; done) | (simp only [nq3] at h; exact absurd h (by assumption)) | simp_all)) <| .cons rfl (zF (κ := .eq (.bool false)) (b := true) 131 rfl rfl (fun h => by first | (exact absurd h (by decide)) | (simp at h; done) | (simp only [nq3] at h; exact absurd h (by assumption)) | simp_all)) <| .cons rfl (zF (κ := .eq (.bool false)) (b := true) 131 rfl rfl (fun h => by first | (exact absurd h (by decide)) | (simp at h; done) | (simp only [nq3] at h; exact absurd h (by assumption)) | simp_all)) <| .cons rfl (zF (κ := .eq (.bool false)) (b := true) 131 rfl rfl (fun h => by first | (exact absurd h (by decide)) | (simp at h; done) | (simp only [nq3] at h; exact absurd h (by assumption)) | simp_all)) <| .cons rfl (zU rfl rfl rfl) <| .cons rfl (zD rfl) <| .nil) fun a8 w8 m8 hst8 hle8 hk8 => ?_
       have hfr8 := hk8.fr (.o 0 <| .o 1 <| .o 2 <| .o 7 <| .n 128 <| .nil)
       clear hst7 hfr7 hk8
       refine hK109 _ _ ?_
       refine zE hfr8 rfl rfl (fun hb128 => ?_) (fun hb128 => ?_)
       ·simp [rdS, rfS, prS, hz4] at hb128
       ·try simp only [nqs] at hb128
        refine zB fun _ hK110 => ?_
        rcases zDQ l with ⟨x9, y9, hl2, hxk, hyk⟩ | ⟨x9, y9, hl2, hxk, hyk⟩ | ⟨x9, y9, hl2, hxk⟩ | hln
        ·skip
         have hlw9 : l.length = 2 := by rw [hl2]; rfl
         have zq95 := hle7.trans hle8
         have zq96 := hle6.trans zq95
         have zq97 := hle5.trans zq96
         have zq98 := hle4.trans zq97
         have zq99 := hle3.trans zq98
         replace h_l := h_l.mono zq99
         obtain ⟨p111, vs111, x111, ho111, hd111, hm_x111, ht111, hcv111, hl111, hv111⟩ := h_l.nth (k := 0) (by omega)
         cases ho111
         obtain ⟨⟨oa111, ca111, pf111, ob111, cb111⟩, rfl, ⟨hi111, hj111⟩, hvk111, hcl111, hfm111, hnl111⟩ := hv111.open_
         have hbk111 := hvk111.big; have hbf111 := hfm111.big
         have hxx9 : x111 = x9 := by have h9 := hd111; rw [hl2] at h9; simp at h9; exact h9.symm
         subst hxx9
         obtain ⟨p112, vs112, x112, ho112, hd112, hm_x112, ht112, hcv112, hl112, hv112⟩ := h_l.nth (k := 1) (by omega)
         cases ho112
         obtain ⟨⟨oa112, ca112, pf112, ob112, cb112⟩, rfl, ⟨hi112, hj112⟩, hvk112, hcl112, hfm112, hnl112⟩ := hv112.open_
         have hbk112 := hvk112.big; have hbf112 := hfm112.big
         have hxy9 : x112 = y9 := by have h9 := hd112; rw [hl2] at h9; simp at h9; exact h9.symm
         subst hxy9
         rw [hl2] at hop9
         have hq9 := zDT hop9 hxk hyk
         refine rp0 hst8 hfr8 (.cons rfl (zC rfl) <| .cons rfl (zl rfl underlying68) <| .cons rfl (zS rfl rfl) <| .cons rfl (zC rfl) <| .cons rfl (zC rfl) <| .cons rfl (zI (k := 0) rfl rfl underlying68 sizeOf72 rfl (by omega)) <| .cons rfl (zA (off := 0) rfl underlying72 rfl rfl sizeOf31 rfl) <| .cons rfl (zA (off := 0) rfl underlying31 rfl rfl sizeOf3 rfl) <| .cons rfl (zJ rfl (hcv111.drop 0) isAgg3 rfl) <| .cons rfl (zS rfl rfl) <| .cons rfl (zU rfl rfl rfl) <| .cons rfl (zC rfl) <| .cons rfl (zC rfl) <| .cons rfl (zI (k := 1) rfl rfl underlying68 sizeOf72 rfl (by omega)) <| .cons rfl (zA (off := 0) rfl underlying72 rfl rfl sizeOf31 rfl) <| .cons rfl (zA (off := 0) rfl underlying31 rfl rfl sizeOf3 rfl) <| .cons rfl (zJ rfl (hcv112.drop 0) isAgg3 rfl) <| .cons rfl (zS rfl rfl) <| .cons rfl (zU rfl rfl rfl) <| .cons rfl (zD rfl) <| .nil) fun a9 w9 m9 hst9 hle9 hk9 => ?_
         have hfr9 := hk9.fr (.o 0 <| .o 1 <| .o 2 <| .n 155 <| .nil)
         clear hst8 hfr8 hk9
         refine hK110 _ _ ?_
         refine zE hfr9 rfl rfl (fun hb155 => ?_) (fun hb155 => ?_)
         ·try simp only [nqs] at hb155
          refine zB fun _ hK113 => ?_
          rcases hq9 with ⟨v8, hbm, rfl, rfl⟩ | ⟨hbm, hq8⟩
          ·skip
           obtain ⟨k8, n8, rfl, hik8, hin8, hor8⟩ := zEG hbm
           replace hst9 := hst9.more (r := .free) trivial List.nodup_nil (by simp [Res.blocks])
           replace hcv111 := hcv111.mono hle9
           replace hcv112 := hcv112.mono hle9
           refine zc (tch := [(15, 4, (fun v => .blk v _)), (16, 4, (fun v => .blk v _))]) (fun _ => zw) hst9 hfr9 (by kernel_rfl) (by kernel_rfl) (by kernel_rfl) (.cons rfl (zC rfl) <| .cons rfl (zC rfl) <| .cons rfl (zI (k := 0) rfl rfl underlying68 sizeOf72 rfl (by omega)) <| .cons rfl (zA (off := 0) rfl underlying72 rfl rfl sizeOf31 rfl) <| .cons rfl (zA (off := 1) rfl underlying31 rfl rfl sizeOf3 rfl) <| .cons rfl (zJ rfl (hcv111.drop 0) isAgg3 rfl) <| .cons rfl (zC rfl) <| .cons rfl (zI (k := 1) rfl rfl underlying68 sizeOf72 rfl (by omega)) <| .cons rfl (zA (off := 0) rfl underlying72 rfl rfl sizeOf31 rfl) <| .cons rfl (zA (off := 1) rfl underlying31 rfl rfl sizeOf3 rfl) <| .cons rfl (zJ rfl (hcv112.drop 0) isAgg3 rfl) <| .cons rfl (zX rfl (.cons rfl <| .cons rfl <| .cons rfl <| .nil) call65 (fun w m hK => by have hle_ := KC.le hK; have hA := KC.agree hK; exact zDn hA hor8)) <| .cons rfl (zC rfl) <| .cons rfl (zM rfl rfl) <| .cons rfl (zM rfl rfl) <| .consT rfl rfl (fun _ => rfl) rfl (zP zeroValue31 rfl) <| .consT rfl rfl (fun _ => rfl) rfl (zb 9 rfl rfl rfl fun y9 => za rfl rfl rfl rfl rfl sizeOf31 rfl rfl rfl) <| .cons rfl (zD rfl) <| .nil) fun a10 w10 m10 hst10 hle10 hk10 => ?_
           have hfr10 := hk10.fr (.o 0 <| .o 1 <| .n 10 <| .nil)
           obtain ⟨g9, e114, _⟩ := hk10.ex 9 rfl
           replace hfr10 := hfr10.cons e114
           replace hst10 := hst10.fin (L' := [_, _, _, _, _]) (.cons e114 <| .cons e114 <| .nil)
           try simp only [List.take_succ_cons, List.take_zero, List.drop_succ_cons, List.drop_zero, List.cons_append, List.nil_append, List.append_nil, List.length_cons, List.length_nil, Nat.zero_add, Nat.reduceAdd] at hst10
           clear hst9 hfr9 hk10
           refine hK113 _ _ ?_
           refine zB fun _ hK115 => ?_
           refine zB fun _ hK116 => ?_
           refine rp0 hst10 hfr10 (.cons rfl (zC rfl) <| .cons rfl (z2 rfl) <| .nil) fun a11 w11 m11 hst11 hle11 hk11 => ?_
           have hfr11 := hk11.fr (.o 0 <| .o 1 <| .o 9 <| .n 191 <| .nil)
           clear hst10 hfr10 hk11
           refine hK116 _ _ ?_
           refine zE hfr11 rfl rfl (fun hb191 => ?_) (fun hb191 => ?_)
           ·simp at hb191
           ·try simp only [nqs] at hb191
            refine zR ?_
            refine hK115 _ _ ?_
            refine zB fun _ hK117 => ?_
            have zq100 := hle10.trans hle11
            have zq101 := hle9.trans zq100
            have zq102 := zq99.trans zq101
            replace hS := hS.mono zq102
            replace hin := hin.mono zq102
            replace htr := htr.mono zq102
            replace hM := hM.trans zq102
            replace h_l := h_l.mono zq101
            replace hv111 := hv111.mono zq101
            replace hvk111 := hvk111.mono zq101
            replace hcl111 := hcl111.mono zq101
            replace hfm111 := hfm111.mono zq101
            replace hv112 := hv112.mono zq101
            replace hvk112 := hvk112.mono zq101
            replace hcl112 := hcl112.mono zq101
            replace hfm112 := hfm112.mono zq101
            replace hcv111 := hcv111.mono zq100
            replace hcv112 := hcv112.mono zq100
            refine ra0 (tch := [(3, 0, (fun _ => MK g (s.has ⟨k8, n8, [], [], .none, []⟩) ⟨yc, pe, yv, pv, fo, fc, co, cc, io, ic, mo, to, tc⟩))]) hst11 hfr11 (.cons rfl (zC rfl) <| .cons rfl (zh (j := 4) rfl rfl isAgg31 sizeOf31 rfl) <| .cons rfl (zQ (.cons rfl <| .nil) underlying72 zeroValue72 (.cons sizeOf31 <| .cons sizeOf68 <| .cons sizeOf69 <| .cons sizeOf70 <| .nil) rfl) <| .consT rfl rfl (fun _ => rfl) rfl (zj rfl (.cons rfl <| .cons rfl <| .nil) call49 (κ := .eq (.bool true)) (fun σ w m hK hr hkn => by have hle_ := KC.le hK; have hA := KC.agree hK; have hM := hM.trans hle_; have hS := hS.mono hle_; have h_l := h_l.mono hle_; have hin := hin.mono hle_; have htr := htr.mono hle_; have hcv111 := hcv111.mono hle_; have hv111 := hv111.mono hle_; have hvk111 := hvk111.mono hle_; have hcl111 := hcl111.mono hle_; have hfm111 := hfm111.mono hle_; have hcv112 := hcv112.mono hle_; have hv112 := hv112.mono hle_; have hvk112 := hvk112.mono hle_; have hcl112 := hcl112.mono hle_; have hfm112 := hfm112.mono hle_; exact Zy (s := s) (zBu (s := s) (x := ⟨k8, n8, [], [], .none, []⟩) (y := ⟨yc, pe, yv, pv, fo, fc, co, cc, io, ic, mo, to, tc⟩) hA hr hS (VlR.flat (k := k8) (n := n8) hik8 hin8)))) <| .cons rfl (zD rfl) <| .nil) fun a12 w12 m12 hst12 hle12 hk12 => ?_
            have hfr12 := hk12.fr (.n 6 <| .nil)
            replace hst12 := hst12.fin (L' := [_, _, _, _, _]) (.cons rfl <| .nil)
            clear hst11 hfr11 hk12
            obtain ⟨y7, hst12, hS7, hK7⟩ := zp (k := 0) hst12 rfl
            simp only [List.set_cons_zero] at hst12
            refine hK117 _ _ ?_
            refine zN ?_
            repeat (with_reducible first | refine zH ?_ | refine zG ?_)
            exact zO hst12 hfr12 rfl (.tmp rfl <| .nil) (⟨_, (hst12.take 3).loc, y7, (by simp only [ML, Zh, Ze]; rw [hK7.to, hK7.tc, hK7.co, hK7.cc]; rfl), hS7, rfl⟩)
          ·skip
           replace hst9 := hst9.more (r := .free) trivial List.nodup_nil (by simp [Res.blocks])
           replace hcv111 := hcv111.mono hle9
           replace hcv112 := hcv112.mono hle9
           refine zc (tch := [(15, 4, (fun v => .blk v _)), (16, 4, (fun v => .blk v _))]) (fun _ => zw) hst9 hfr9 (by kernel_rfl) (by kernel_rfl) (by kernel_rfl) (.cons rfl (zC rfl) <| .cons rfl (zC rfl) <| .cons rfl (zI (k := 0) rfl rfl underlying68 sizeOf72 rfl (by omega)) <| .cons rfl (zA (off := 0) rfl underlying72 rfl rfl sizeOf31 rfl) <| .cons rfl (zA (off := 1) rfl underlying31 rfl rfl sizeOf3 rfl) <| .cons rfl (zJ rfl (hcv111.drop 0) isAgg3 rfl) <| .cons rfl (zC rfl) <| .cons rfl (zI (k := 1) rfl rfl underlying68 sizeOf72 rfl (by omega)) <| .cons rfl (zA (off := 0) rfl underlying72 rfl rfl sizeOf31 rfl) <| .cons rfl (zA (off := 1) rfl underlying31 rfl rfl sizeOf3 rfl) <| .cons rfl (zJ rfl (hcv112.drop 0) isAgg3 rfl) <| .cons rfl (zX rfl (.cons rfl <| .cons rfl <| .cons rfl <| .nil) call65 (fun w m hK => by have hle_ := KC.le hK; have hA := KC.agree hK; exact zDn hA (zEE hbm))) <| .cons rfl (zC rfl) <| .cons rfl (zM rfl rfl) <| .cons rfl (zM rfl rfl) <| .consT rfl rfl (fun _ => rfl) rfl (zP zeroValue31 rfl) <| .consT rfl rfl (fun _ => rfl) rfl (zb 9 rfl rfl rfl fun y9 => za rfl rfl rfl rfl rfl sizeOf31 rfl rfl rfl) <| .cons rfl (zD rfl) <| .nil) fun a10 w10 m10 hst10 hle10 hk10 => ?_
           have hfr10 := hk10.fr (.o 0 <| .o 1 <| .n 10 <| .nil)
           obtain ⟨g9, e119, _⟩ := hk10.ex 9 rfl
           replace hfr10 := hfr10.cons e119
           replace hst10 := hst10.fin (L' := [_, _, _, _, _]) (.cons e119 <| .cons e119 <| .nil)
           try simp only [List.take_succ_cons, List.take_zero, List.drop_succ_cons, List.drop_zero, List.cons_append, List.nil_append, List.append_nil, List.length_cons, List.length_nil, Nat.zero_add, Nat.reduceAdd] at hst10
           clear hst9 hfr9 hk10
           refine hK113 _ _ ?_
           refine zB fun _ hK120 => ?_
           refine zB fun _ hK121 => ?_
           refine rp0 hst10 hfr10 (.cons rfl (zC rfl) <| .cons rfl (z2 rfl) <| .nil) fun a11 w11 m11 hst11 hle11 hk11 => ?_
           have hfr11 := hk11.fr (.o 0 <| .o 1 <| .o 9 <| .n 191 <| .nil)
           clear hst10 hfr10 hk11
           refine hK121 _ _ ?_
           refine zE hfr11 rfl rfl (fun hb191 => ?_) (fun hb191 => ?_)
           ·try simp only [nqs] at hb191
            refine zB fun _ hK122 => ?_
            rcases hq8 with ⟨hn47, rfl, rfl⟩ | ⟨hn47, rfl, rfl⟩
            ·skip
             have zq103 := hle10.trans hle11
             have zq104 := hle9.trans zq103
             have zq105 := zq99.trans zq104
             replace hS := hS.mono zq105
             replace hin := hin.mono zq105
             replace htr := htr.mono zq105
             replace hM := hM.trans zq105
             replace h_l := h_l.mono zq104
             replace hv111 := hv111.mono zq104
             replace hvk111 := hvk111.mono zq104
             replace hcl111 := hcl111.mono zq104
             replace hfm111 := hfm111.mono zq104
             replace hv112 := hv112.mono zq104
             replace hvk112 := hvk112.mono zq104
             replace hcl112 := hcl112.mono zq104
             replace hfm112 := hfm112.mono zq104
             replace hcv111 := hcv111.mono zq103
             replace hcv112 := hcv112.mono zq103
             refine ra0 (tch := [(4, 0, (fun _ => MK g (s.ends 2) ⟨yc, pe, yv, pv, fo, fc, co, cc, io, ic, mo, to, tc⟩))]) hst11 hfr11 (.cons rfl (zC rfl) <| .cons rfl (zd rfl rfl) <| .cons rfl (zC rfl) <| .cons rfl (zC rfl) <| .consTG rfl rfl (fun _ => rfl) (.inr ⟨_, _, _, rfl, rfl, (by first | (exact absurd hn47 (by decide)) | simp [hn47])⟩) (zj rfl (.cons rfl <| .cons rfl <| .nil) call35 (κ := .eq (.bool true)) (fun σ w m hK hr hkn => by have hle_ := KC.le hK; have hA := KC.agree hK; have hM := hM.trans hle_; have hS := hS.mono hle_; have h_l := h_l.mono hle_; have hin := hin.mono hle_; have htr := htr.mono hle_; have hcv111 := hcv111.mono hle_; have hv111 := hv111.mono hle_; have hvk111 := hvk111.mono hle_; have hcl111 := hcl111.mono hle_; have hfm111 := hfm111.mono hle_; have hcv112 := hcv112.mono hle_; have hv112 := hv112.mono hle_; have hvk112 := hvk112.mono hle_; have hcl112 := hcl112.mono hle_; have hfm112 := hfm112.mono hle_; exact Zy (s := s) (zDf (s := s) (y := ⟨yc, pe, yv, pv, fo, fc, co, cc, io, ic, mo, to, tc⟩) hA hr hS ⟨by decide, by decide⟩))) <| .cons rfl (zU rfl rfl rfl) <| .cons rfl (zD rfl) <| .nil) fun a12 w12 m12 hst12 hle12 hk12 => ?_
             have hfr12 := hk12.fr (.n 6 <| .nil)
             replace hst12 := hst12.fin (L' := [_, _, _, _, _]) (.cons rfl <| .nil)
             clear hst11 hfr11 hk12
             obtain ⟨y7, hst12, hS7, hK7⟩ := zp (k := 0) hst12 rfl
             simp only [List.set_cons_zero] at hst12
             refine hK122 _ _ ?_
             refine zN ?_
             repeat (with_reducible first | refine zH ?_ | refine zG ?_)
             replace hS := hS.mono hle12
             exact zO hst12 hfr12 rfl (.tmp rfl <| .nil) (by first | (exact absurd hn47 (by decide)) | (simp only [hn47]; exact ⟨_, (hst12.take 3).loc, y7, (by simp only [ML, Zh, Ze]; rw [hK7.to, hK7.tc, hK7.co, hK7.cc]; rfl), hS7, rfl⟩) | (rw [decide_eq_false hn47]; exact ⟨_, (hst12.take 3).loc, ⟨yc, pe, yv, pv, fo, fc, co, cc, io, ic, mo, to, tc⟩, rfl, hS, rfl⟩))
            ·skip
             refine rp0 hst11 hfr11 (.cons rfl (zC rfl) <| .cons rfl (zd rfl rfl) <| .cons rfl (zC rfl) <| .cons rfl (zF (κ := .eq (.bool false)) (b := true) 194 rfl rfl (fun h => by simp [hn47] at h)) <| .cons rfl (zF (κ := .eq (.bool false)) (b := true) 194 rfl rfl (fun h => by simp [hn47] at h)) <| .cons rfl (zU rfl rfl rfl) <| .cons rfl (zD rfl) <| .nil) fun a12 w12 m12 hst12 hle12 hk12 => ?_
             have hfr12 := hk12.fr (.n 6 <| .nil)
             clear hst11 hfr11 hk12
             refine hK122 _ _ ?_
             refine zN ?_
             repeat (with_reducible first | refine zH ?_ | refine zG ?_)
             have zq106 := hle11.trans hle12
             have zq107 := hle10.trans zq106
             have zq108 := hle9.trans zq107
             have zq109 := zq99.trans zq108
             replace hS := hS.mono zq109
             exact zO hst12 hfr12 rfl (.tmp rfl <| .nil) (by first | (exact absurd hn47 (by decide)) | (simp only [hn47]; exact ⟨_, (hst12.take 3).loc, y7, (by simp only [ML, Zh, Ze]; rw [hK7.to, hK7.tc, hK7.co, hK7.cc]; rfl), hS7, rfl⟩) | (rw [decide_eq_false hn47]; exact ⟨_, (hst12.take 3).loc, ⟨yc, pe, yv, pv, fo, fc, co, cc, io, ic, mo, to, tc⟩, rfl, hS, rfl⟩))
           ·simp at hb191
         ·simp [hlw9, hxk, hyk] at hb155
        ·skip
         have hlw9 : l.length = 2 := by rw [hl2]; rfl
         have zq110 := hle7.trans hle8
         have zq111 := hle6.trans zq110
         have zq112 := hle5.trans zq111
         have zq113 := hle4.trans zq112
         have zq114 := hle3.trans zq113
         replace h_l := h_l.mono zq114
         obtain ⟨p125, vs125, x125, ho125, hd125, hm_x125, ht125, hcv125, hl125, hv125⟩ := h_l.nth (k := 0) (by omega)
         cases ho125
         obtain ⟨⟨oa125, ca125, pf125, ob125, cb125⟩, rfl, ⟨hi125, hj125⟩, hvk125, hcl125, hfm125, hnl125⟩ := hv125.open_
         have hbk125 := hvk125.big; have hbf125 := hfm125.big
         have hxx9 : x125 = x9 := by have h9 := hd125; rw [hl2] at h9; simp at h9; exact h9.symm
         subst hxx9
         obtain ⟨p126, vs126, x126, ho126, hd126, hm_x126, ht126, hcv126, hl126, hv126⟩ := h_l.nth (k := 1) (by omega)
         cases ho126
         obtain ⟨⟨oa126, ca126, pf126, ob126, cb126⟩, rfl, ⟨hi126, hj126⟩, hvk126, hcl126, hfm126, hnl126⟩ := hv126.open_
         have hbk126 := hvk126.big; have hbf126 := hfm126.big
         have hxy9 : x126 = y9 := by have h9 := hd126; rw [hl2] at h9; simp at h9; exact h9.symm
         subst hxy9
         obtain ⟨rfl, rfl⟩ := zAT hop9 (fun ⟨a, c, e, h1, h2⟩ => by rw [hl2] at e; injection e with e1 e2; injection e2 with e2 _; subst e2; exact hyk h2)
         refine rp0 hst8 hfr8 (.cons rfl (zC rfl) <| .cons rfl (zl rfl underlying68) <| .cons rfl (zS rfl rfl) <| .cons rfl (zC rfl) <| .cons rfl (zC rfl) <| .cons rfl (zI (k := 0) rfl rfl underlying68 sizeOf72 rfl (by omega)) <| .cons rfl (zA (off := 0) rfl underlying72 rfl rfl sizeOf31 rfl) <| .cons rfl (zA (off := 0) rfl underlying31 rfl rfl sizeOf3 rfl) <| .cons rfl (zJ rfl (hcv125.drop 0) isAgg3 rfl) <| .cons rfl (zS rfl rfl) <| .cons rfl (zU rfl rfl rfl) <| .cons rfl (zC rfl) <| .cons rfl (zC rfl) <| .cons rfl (zI (k := 1) rfl rfl underlying68 sizeOf72 rfl (by omega)) <| .cons rfl (zA (off := 0) rfl underlying72 rfl rfl sizeOf31 rfl) <| .cons rfl (zA (off := 0) rfl underlying31 rfl rfl sizeOf3 rfl) <| .cons rfl (zJ rfl (hcv126.drop 0) isAgg3 rfl) <| .cons rfl (zS rfl rfl) <| .cons rfl (zU rfl rfl rfl) <| .cons rfl (zD rfl) <| .nil) fun a9 w9 m9 hst9 hle9 hk9 => ?_
         have hfr9 := hk9.fr (.o 0 <| .o 1 <| .o 2 <| .n 155 <| .nil)
         clear hst8 hfr8 hk9
         refine hK110 _ _ ?_
         refine zE hfr9 rfl rfl (fun hb155 => ?_) (fun hb155 => ?_)
         ·simp [hlw9, hxk, hyk] at hb155
         ·try simp only [nqs] at hb155
          refine zR ?_
          refine hK4 _ _ ?_
          refine zB fun _ hK127 => ?_
          refine rp0 hst9 hfr9 (.cons rfl (zD rfl) <| .nil) fun a10 w10 m10 hst10 hle10 hk10 => ?_
          have hfr10 := hk10.fr (.n 6 <| .nil)
          clear hst9 hfr9 hk10
          refine hK127 _ _ ?_
          refine zN ?_
          repeat (with_reducible first | refine zH ?_ | refine zG ?_)
          have zq115 := hle9.trans hle10
          have zq116 := zq114.trans zq115
          replace hS := hS.mono zq116
          exact zO hst10 hfr10 rfl (.tmp rfl <| .nil) (⟨_, (hst10.take 3).loc, ⟨yc, pe, yv, pv, fo, fc, co, cc, io, ic, mo, to, tc⟩, rfl, hS, rfl⟩)
        ·skip
         have hlw9 : l.length = 2 := by rw [hl2]; rfl
         have zq117 := hle7.trans hle8
         have zq118 := hle6.trans zq117
         have zq119 := hle5.trans zq118
         have zq120 := hle4.trans zq119
         have zq121 := hle3.trans zq120
         replace h_l := h_l.mono zq121
         obtain ⟨p129, vs129, x129, ho129, hd129, hm_x129, ht129, hcv129, hl129, hv129⟩ := h_l.nth (k := 0) (by omega)
         cases ho129
         obtain ⟨⟨oa129, ca129, pf129, ob129, cb129⟩, rfl, ⟨hi129, hj129⟩, hvk129, hcl129, hfm129, hnl129⟩ := hv129.open_
         have hbk129 := hvk129.big; have hbf129 := hfm129.big
         have hxx9 : x129 = x9 := by have h9 := hd129; rw [hl2] at h9; simp at h9; exact h9.symm
         subst hxx9
         obtain ⟨rfl, rfl⟩ := zAT hop9 (fun ⟨a, c, e, h1, h2⟩ => by rw [hl2] at e; injection e with e1 e2; subst e1; exact hxk h1)
         refine rp0 hst8 hfr8 (.cons rfl (zC rfl) <| .cons rfl (zl rfl underlying68) <| .cons rfl (zS rfl rfl) <| .cons rfl (zC rfl) <| .cons rfl (zC rfl) <| .cons rfl (zI (k := 0) rfl rfl underlying68 sizeOf72 rfl (by omega)) <| .cons rfl (zA (off := 0) rfl underlying72 rfl rfl sizeOf31 rfl) <| .cons rfl (zA (off := 0) rfl underlying31 rfl rfl sizeOf3 rfl) <| .cons rfl (zJ rfl (hcv129.drop 0) isAgg3 rfl) <| .cons rfl (zS rfl rfl) <| .cons rfl (zU rfl rfl rfl) <| .cons rfl (zC rfl) <| .cons rfl (zF (κ := .eq (.bool false)) (b := true) 167 rfl rfl (fun h => by simp [hxk] at h)) <| .cons rfl (zF (κ := .eq (.bool false)) (b := true) 167 rfl rfl (fun h => by simp [hxk] at h)) <| .cons rfl (zF (κ := .eq (.bool false)) (b := true) 167 rfl rfl (fun h => by simp [hxk] at h)) <| .cons rfl (zF (κ := .eq (.bool false)) (b := true) 167 rfl rfl (fun h => by simp [hxk] at h)) <| .cons rfl (zF (κ := .eq (.bool false)) (b := true) 167 rfl rfl (fun h => by simp [hxk] at h)) <| .cons rfl (zF (κ := .eq (.bool false)) (b := true) 167 rfl rfl (fun h => by simp [hxk] at h)) <| .cons rfl (zU rfl rfl rfl) <| .cons rfl (zD rfl) <| .nil) fun a9 w9 m9 hst9 hle9 hk9 => ?_
         have hfr9 := hk9.fr (.o 0 <| .o 1 <| .o 2 <| .n 155 <| .nil)
         clear hst8 hfr8 hk9
         refine hK110 _ _ ?_
         refine zE hfr9 rfl rfl (fun hb155 => ?_) (fun hb155 => ?_)
         ·simp [hxk] at hb155
         ·try simp only [nqs] at hb155
          refine zR ?_
          refine hK4 _ _ ?_
          refine zB fun _ hK130 => ?_
          refine rp0 hst9 hfr9 (.cons rfl (zD rfl) <| .nil) fun a10 w10 m10 hst10 hle10 hk10 => ?_
          have hfr10 := hk10.fr (.n 6 <| .nil)
          clear hst9 hfr9 hk10
          refine hK130 _ _ ?_
          refine zN ?_
          repeat (with_reducible first | refine zH ?_ | refine zG ?_)
          have zq122 := hle9.trans hle10
          have zq123 := zq121.trans zq122
          replace hS := hS.mono zq123
          exact zO hst10 hfr10 rfl (.tmp rfl <| .nil) (⟨_, (hst10.take 3).loc, ⟨yc, pe, yv, pv, fo, fc, co, cc, io, ic, mo, to, tc⟩, rfl, hS, rfl⟩)
        ·skip
         obtain ⟨rfl, rfl⟩ := zAT hop9 (fun ⟨a, c, e, h1, h2⟩ => hln (by rw [e]; rfl))
         refine rp0 hst8 hfr8 (.cons rfl (zC rfl) <| .cons rfl (zl rfl underlying68) <| .cons rfl (zS rfl rfl) <| .cons rfl (zC rfl) <| .cons rfl (zF (κ := .eq (.bool false)) (b := true) 159 rfl rfl (fun h => by first | (simp at h; omega) | (simp at h; done))) <| .cons rfl (zF (κ := .eq (.bool false)) (b := true) 159 rfl rfl (fun h => by first | (simp at h; omega) | (simp at h; done))) <| .cons rfl (zF (κ := .eq (.bool false)) (b := true) 159 rfl rfl (fun h => by first | (simp at h; omega) | (simp at h; done))) <| .cons rfl (zF (κ := .eq (.bool false)) (b := true) 159 rfl rfl (fun h => by first | (simp at h; omega) | (simp at h; done))) <| .cons rfl (zF (κ := .eq (.bool false)) (b := true) 159 rfl rfl (fun h => by first | (simp at h; omega) | (simp at h; done))) <| .cons rfl (zF (κ := .eq (.bool false)) (b := true) 159 rfl rfl (fun h => by first | (simp at h; omega) | (simp at h; done))) <| .cons rfl (zU rfl rfl rfl) <| .cons rfl (zC rfl) <| .cons rfl (zF (κ := .eq (.bool false)) (b := true) 167 rfl rfl (fun h => by first | (simp at h; omega) | (simp at h; done))) <| .cons rfl (zF (κ := .eq (.bool false)) (b := true) 167 rfl rfl (fun h => by first | (simp at h; omega) | (simp at h; done))) <| .cons rfl (zF (κ := .eq (.bool false)) (b := true) 167 rfl rfl (fun h => by first | (simp at h; omega) | (simp at h; done))) <| .cons rfl (zF (κ := .eq (.bool false)) (b := true) 167 rfl rfl (fun h => by first | (simp at h; omega) | (simp at h; done))) <| .cons rfl (zF (κ := .eq (.bool false)) (b := true) 167 rfl rfl (fun h => by first | (simp at h; omega) | (simp at h; done))) <| .cons rfl (zF (κ := .eq (.bool false)) (b := true) 167 rfl rfl (fun h => by first | (simp at h; omega) | (simp at h; done))) <| .cons rfl (zU rfl rfl rfl) <| .cons rfl (zD rfl) <| .nil) fun a9 w9 m9 hst9 hle9 hk9 => ?_
         have hfr9 := hk9.fr (.o 0 <| .o 1 <| .o 2 <| .n 155 <| .nil)
         clear hst8 hfr8 hk9
         refine hK110 _ _ ?_
         refine zE hfr9 rfl rfl (fun hb155 => ?_) (fun hb155 => ?_)
         ·simp at hb155 <;> omega
         ·try simp only [nqs] at hb155
          refine zR ?_
          refine hK4 _ _ ?_
          refine zB fun _ hK132 => ?_
          refine rp0 hst9 hfr9 (.cons rfl (zD rfl) <| .nil) fun a10 w10 m10 hst10 hle10 hk10 => ?_
          have hfr10 := hk10.fr (.n 6 <| .nil)
          clear hst9 hfr9 hk10
          refine hK132 _ _ ?_
          refine zN ?_
          repeat (with_reducible first | refine zH ?_ | refine zG ?_)
          have zq124 := hle9.trans hle10
          have zq125 := hle8.trans zq124
          have zq126 := hle7.trans zq125
          have zq127 := hle6.trans zq126
          have zq128 := hle5.trans zq127
          have zq129 := hle4.trans zq128
          have zq130 := hle3.trans zq129
          replace hS := hS.mono zq130
          exact zO hst10 hfr10 rfl (.tmp rfl <| .nil) (⟨_, (hst10.take 3).loc, ⟨yc, pe, yv, pv, fo, fc, co, cc, io, ic, mo, to, tc⟩, rfl, hS, rfl⟩)
 ·skip
  have hll9 : l.length = r9.length + 1 := by rw [hlc9]; rfl
  have hbd9 := zBj hbn
  refine rp0 hst2 hfr2 (.cons rfl (zC rfl) <| .cons rfl (zd rfl rfl) <| .cons rfl (zC rfl) <| .cons rfl (zF (κ := .eq (.bool false)) (b := true) 16 rfl rfl (fun h => by first | (exact absurd h (by decide)) | (simp at h; done) | (simp only [nq3] at h; exact absurd h (by assumption)) | simp_all)) <| .cons rfl (zF (κ := .eq (.bool false)) (b := true) 16 rfl rfl (fun h => by first | (exact absurd h (by decide)) | (simp at h; done) | (simp only [nq3] at h; exact absurd h (by assumption)) | simp_all)) <| .cons rfl (zF (κ := .eq (.bool false)) (b := true) 16 rfl rfl (fun h => by first | (exact absurd h (by decide)) | (simp at h; done) | (simp only [nq3] at h; exact absurd h (by assumption)) | simp_all)) <| .cons rfl (zF (κ := .eq (.bool false)) (b := true) 16 rfl rfl (fun h => by first | (exact absurd h (by decide)) | (simp at h; done) | (simp only [nq3] at h; exact absurd h (by assumption)) | simp_all)) <| .cons rfl (zF (κ := .eq (.bool false)) (b := true) 16 rfl rfl (fun h => by first | (exact absurd h (by decide)) | (simp at h; done) | (simp only [nq3] at h; exact absurd h (by assumption)) | simp_all)) <| .cons rfl (zF (κ := .eq (.bool false)) (b := true) 16 rfl rfl (fun h => by first | (exact absurd h (by decide)) | (simp at h; done) | (simp only [nq3] at h; exact absurd h (by assumption)) | simp_all)) <| .cons rfl (zU rfl rfl rfl) <| .cons rfl (zD rfl) <| .nil) fun a3 w3 m3 hst3 hle3 hk3 => ?_
  have hfr3 := hk3.fr (.o 0 <| .o 1 <| .o 2 <| .o 7 <| .n 13 <| .nil)
  clear hst2 hfr2 hk3
  refine hK5 _ _ ?_
  refine zE hfr3 rfl rfl (fun hb13 => ?_) (fun hb13 => ?_)
  ·simp [rdS, rfS, prS] at hb13
  ·try simp only [nqs] at hb13
   refine zB fun _ hK134 => ?_
   refine rp0 hst3 hfr3 (.cons rfl (zC rfl) <| .cons rfl (zd rfl rfl) <| .cons rfl (zD rfl) <| .nil) fun a4 w4 m4 hst4 hle4 hk4 => ?_
   have hfr4 := hk4.fr (.o 0 <| .o 1 <| .o 2 <| .o 7 <| .n 26 <| .nil)
   clear hst3 hfr3 hk4
   refine hK134 _ _ ?_
   refine zE hfr4 rfl rfl (fun hb26 => ?_) (fun hb26 => ?_)
   ·simp [rdS, rfS, prS] at hb26
   ·try simp only [nqs] at hb26
    refine zB fun _ hK135 => ?_
    refine rp0 hst4 hfr4 (.cons rfl (zC rfl) <| .cons rfl (zd rfl rfl) <| .cons rfl (zD rfl) <| .nil) fun a5 w5 m5 hst5 hle5 hk5 => ?_
    have hfr5 := hk5.fr (.o 0 <| .o 1 <| .o 2 <| .o 7 <| .n 48 <| .nil)
    clear hst4 hfr4 hk5
    refine hK135 _ _ ?_
    refine zE hfr5 rfl rfl (fun hb48 => ?_) (fun hb48 => ?_)
    ·try simp only [nqs] at hb48
     refine zB fun _ hK136 => ?_
     have zq131 := hle4.trans hle5
     have zq132 := hle3.trans zq131
     replace h_l := h_l.mono zq132
     obtain ⟨p137, vs137, x137, ho137, hd137, hm_x137, ht137, hcv137, hl137, hv137⟩ := h_l.nth (k := 0) (by omega)
     cases ho137
     obtain ⟨⟨oa137, ca137, pf137, ob137, cb137⟩, rfl, ⟨hi137, hj137⟩, hvk137, hcl137, hfm137, hnl137⟩ := hv137.open_
     have hbk137 := hvk137.big; have hbf137 := hfm137.big
     have hxv9 : x137 = v9 := by have h9 := hd137; rw [hlc9] at h9; simp at h9; exact h9.symm
     subst hxv9
     refine zc (tch := [(9, 2, (fun v => .mrowx v _ _ _ _)), (11, 2, (fun u => .mrowx (pv2 u) _ _ _ _)), (14, 0, (fun u => .blk _ (.cells (_ ++ [u] ++ _).toArray _)))]) (fun _ => zw) hst5 hfr5 (by kernel_rfl) (by kernel_rfl) (by kernel_rfl) (.cons rfl (zC rfl) <| .cons rfl (zL rfl) <| .cons rfl (zA (off := 18) rfl underlying79 rfl rfl sizeOf68 rfl) <| .cons rfl (zK (j := 0) rfl rfl isAgg68 rfl) <| .cons rfl (zC rfl) <| .cons rfl (zI (k := 0) rfl rfl underlying68 sizeOf72 rfl (by omega)) <| .cons rfl (zY rfl hcv137 isAgg72 sizeOf72 rfl rfl) <| .cons rfl (zl rfl underlying68) <| .cons rfl (ZV rfl underlying68 sizeOf72 zeroValue72 rfl rfl rfl rfl) <| .consT rfl rfl (fun _ => rfl) rfl (zb 59 rfl rfl rfl fun y59 => ob_appendMX (R := fun m vs v => VlR m v vs) (size := 7) (bytes := 112) (l := s.cells) (l' := [Zt]) (news := vlV Zt zDI) rfl rfl underlying68 type72 rfl rfl rfl rfl (fun w m hK => ⟨.inr ⟨_, rfl, hK.2⟩, Reads.one_ (R := fun m vs v => VlR m v vs) zFL rfl⟩) rfl (by decide) (by decide) (by simp only [maxLen]; omega) (by omega)) <| .consN 60 (rowAdr (s.cells.length * 7)) rfl rfl (makes_index rfl rfl rfl underlying68 sizeOf72 rfl (by omega)) <| .consT2 (d' := 60) rfl rfl (fun _ => rfl) rfl rfl rfl (ob_storeNew (R := fun m vs v => VlR m v vs) (size := 7) (l := s.cells) (z := Zt) (a := x137) (ws := _) rfl rfl (fun _ => rfl) rfl sizeOf72 rfl (by decide) rfl rfl (fun w m hK => hv137.mono (KC.le hK)) (fun w m hK => rfl)) <| .cons rfl (zL rfl) <| .cons rfl (zA (off := 18) rfl underlying79 rfl rfl sizeOf68 rfl) <| .consT rfl rfl (fun _ => rfl) rfl (zb 60 rfl rfl rfl fun y60 => zAj rfl rfl rfl rfl rfl sizeOf68 rfl rfl rfl) <| .nil) fun a6 w6 m6 hst6 hle6 hk6 => ?_
     have hfr6 := hk6.fr (.o 0 <| .nil)
     obtain ⟨⟨g60, c60⟩, e138, _⟩ := hk6.ex 60 rfl
     replace hst6 := hst6.fin (L' := [_, _, _, _]) (.cons e138 <| .cons (pair_eq rfl e138) <| .cons e138 <| .nil)
     try simp only [List.take_succ_cons, List.take_zero, List.drop_succ_cons, List.drop_zero, List.cons_append, List.nil_append, List.append_nil, List.length_cons, List.length_nil, Nat.zero_add, Nat.reduceAdd] at hst6
     clear hst5 hfr5 hk6
     have hlen9 : s.cells.length + 1 = (s.cells ++ [x137]).length := by simp
     replace hst6 := st_cells (s := s) (y := ⟨yc, pe, yv, pv, fo, fc, some ⟨g60, 0, none⟩, c60, io, ic, mo, to, tc⟩) (l := s.cells ++ [x137]) hst6 hlen9
     have zq133 := zq132.trans hle6
     replace hS := hS.mono zq133
     have hS9 : McR m6 ({ s with cells := s.cells ++ [x137] } : Mc) ⟨yc, pe, yv, pv, fo, fc, some ⟨g60, 0, none⟩, c60, io, ic, mo, to, tc⟩ := ⟨hS.c, hS.e, hS.v, hS.ev, hS.fr, hS.inp, hS.next, hS.kind, hS.eff, hS.steps, hS.konts, hS.tr⟩
     refine hK136 _ _ ?_
     refine zB fun _ hK139 => ?_
     have hcn9 : ({ s with cells := s.cells ++ [x137] } : Mc).cells.length = s.cells.length + 1 := hlen9.symm
     have hrn9 : ((({ s with cells := s.cells ++ [x137] } : Mc).cells.length : Nat) : Int) - 1 = (s.cells.length : Int) := by omega
     replace hin := hin.mono zq133
     replace htr := htr.mono zq133
     replace hM := hM.trans zq133
     replace h_l := h_l.mono hle6
     replace hcv137 := hcv137.mono hle6
     replace hv137 := hv137.mono hle6
     replace hvk137 := hvk137.mono hle6
     replace hcl137 := hcl137.mono hle6
     replace hfm137 := hfm137.mono hle6
     refine ra0 (tch := [(9, 0, (fun _ => MK g (({ s with cells := s.cells ++ [x137] } : Mc).has (refVl (s.cells.length : Int))) ⟨yc, pe, yv, pv, fo, fc, some ⟨g60, 0, none⟩, c60, io, ic, mo, to, tc⟩))]) hst6 hfr6 (.cons rfl (zC rfl) <| .cons rfl (zC rfl) <| .cons rfl (zL rfl) <| .cons rfl (zA (off := 18) rfl underlying79 rfl rfl sizeOf68 rfl) <| .cons rfl (zK (j := 0) rfl rfl isAgg68 rfl) <| .cons rfl (zl rfl underlying68) <| .cons rfl (zAZ rfl rfl ⟨by omega, by omega⟩) <| .cons rfl (zQ (.cons rfl <| .cons rfl <| .nil) underlying31 zeroValue31 (.cons sizeOf3 <| .cons sizeOf3 <| .cons sizeOf9 <| .cons sizeOf29 <| .nil) rfl) <| .cons rfl (zQ (.cons rfl <| .nil) underlying72 zeroValue72 (.cons sizeOf31 <| .cons sizeOf68 <| .cons sizeOf69 <| .cons sizeOf70 <| .nil) rfl) <| .consT rfl rfl (fun _ => rfl) rfl (zj rfl (.cons rfl <| .cons rfl <| .nil) call49 (κ := .eq (.bool true)) (fun σ w m hK hr hkn => by have hle_ := KC.le hK; have hA := KC.agree hK; have hM := hM.trans hle_; have hS := hS.mono hle_; have h_l := h_l.mono hle_; have hin := hin.mono hle_; have htr := htr.mono hle_; have hcv137 := hcv137.mono hle_; have hv137 := hv137.mono hle_; have hvk137 := hvk137.mono hle_; have hcl137 := hcl137.mono hle_; have hfm137 := hfm137.mono hle_; have hS9 := hS9.mono hle_; exact Zy (s := ({ s with cells := s.cells ++ [x137] } : Mc)) (zBu (s := ({ s with cells := s.cells ++ [x137] } : Mc)) (x := refVl (s.cells.length : Int)) (y := ⟨yc, pe, yv, pv, fo, fc, some ⟨g60, 0, none⟩, c60, io, ic, mo, to, tc⟩) hA hr hS9 (ref_R ⟨by omega, by omega⟩ hrn9)))) <| .cons rfl (zD rfl) <| .nil) fun a7 w7 m7 hst7 hle7 hk7 => ?_
     have hfr7 := hk7.fr (.n 6 <| .nil)
     replace hst7 := hst7.fin (L' := [_, _, _, _]) (.cons rfl <| .nil)
     clear hst6 hfr6 hk7
     obtain ⟨y7, hst7, hS7, hK7⟩ := zp (k := 0) hst7 rfl
     simp only [List.set_cons_zero] at hst7
     refine hK139 _ _ ?_
     refine zN ?_
     repeat (with_reducible first | refine zH ?_ | refine zG ?_)
     exact zO hst7 hfr7 rfl (.tmp rfl <| .nil) (⟨_, (hst7.take 3).loc, y7, (by simp only [ML, Zh, Ze]; rw [hK7.to, hK7.tc, hK7.co, hK7.cc]; rfl), hS7, rfl⟩)
    ·simp [rfS] at hb48
 ·skip
  have hll9 : l.length = r9.length + 1 := by rw [hlc9]; rfl
  have hcb9 := (List.getElem?_eq_some_iff.1 hcx9).1
  refine rp0 hst2 hfr2 (.cons rfl (zC rfl) <| .cons rfl (zd rfl rfl) <| .cons rfl (zC rfl) <| .cons rfl (zF (κ := .eq (.bool false)) (b := true) 16 rfl rfl (fun h => by first | (exact absurd h (by decide)) | (simp at h; done) | (simp only [nq3] at h; exact absurd h (by assumption)) | simp_all)) <| .cons rfl (zF (κ := .eq (.bool false)) (b := true) 16 rfl rfl (fun h => by first | (exact absurd h (by decide)) | (simp at h; done) | (simp only [nq3] at h; exact absurd h (by assumption)) | simp_all)) <| .cons rfl (zF (κ := .eq (.bool false)) (b := true) 16 rfl rfl (fun h => by first | (exact absurd h (by decide)) | (simp at h; done) | (simp only [nq3] at h; exact absurd h (by assumption)) | simp_all)) <| .cons rfl (zF (κ := .eq (.bool false)) (b := true) 16 rfl rfl (fun h => by first | (exact absurd h (by decide)) | (simp at h; done) | (simp only [nq3] at h; exact absurd h (by assumption)) | simp_all)) <| .cons rfl (zF (κ := .eq (.bool false)) (b := true) 16 rfl rfl (fun h => by first | (exact absurd h (by decide)) | (simp at h; done) | (simp only [nq3] at h; exact absurd h (by assumption)) | simp_all)) <| .cons rfl (zF (κ := .eq (.bool false)) (b := true) 16 rfl rfl (fun h => by first | (exact absurd h (by decide)) | (simp at h; done) | (simp only [nq3] at h; exact absurd h (by assumption)) | simp_all)) <| .cons rfl (zU rfl rfl rfl) <| .cons rfl (zD rfl) <| .nil) fun a3 w3 m3 hst3 hle3 hk3 => ?_
  have hfr3 := hk3.fr (.o 0 <| .o 1 <| .o 2 <| .o 7 <| .n 13 <| .nil)
  clear hst2 hfr2 hk3
  refine hK5 _ _ ?_
  refine zE hfr3 rfl rfl (fun hb13 => ?_) (fun hb13 => ?_)
  ·simp [rdS, rfS, prS] at hb13
  ·try simp only [nqs] at hb13
   refine zB fun _ hK141 => ?_
   refine rp0 hst3 hfr3 (.cons rfl (zC rfl) <| .cons rfl (zd rfl rfl) <| .cons rfl (zD rfl) <| .nil) fun a4 w4 m4 hst4 hle4 hk4 => ?_
   have hfr4 := hk4.fr (.o 0 <| .o 1 <| .o 2 <| .o 7 <| .n 26 <| .nil)
   clear hst3 hfr3 hk4
   refine hK141 _ _ ?_
   refine zE hfr4 rfl rfl (fun hb26 => ?_) (fun hb26 => ?_)
   ·simp [rdS, rfS, prS] at hb26
   ·try simp only [nqs] at hb26
    refine zB fun _ hK142 => ?_
    refine rp0 hst4 hfr4 (.cons rfl (zC rfl) <| .cons rfl (zd rfl rfl) <| .cons rfl (zD rfl) <| .nil) fun a5 w5 m5 hst5 hle5 hk5 => ?_
    have hfr5 := hk5.fr (.o 0 <| .o 1 <| .o 2 <| .o 7 <| .n 48 <| .nil)
    clear hst4 hfr4 hk5
    refine hK142 _ _ ?_
    refine zE hfr5 rfl rfl (fun hb48 => ?_) (fun hb48 => ?_)
    ·simp [rdS, rfS, prS] at hb48
    ·try simp only [nqs] at hb48
     refine zB fun _ hK143 => ?_
     refine rp0 hst5 hfr5 (.cons rfl (zC rfl) <| .cons rfl (zd rfl rfl) <| .cons rfl (zC rfl) <| .cons rfl (zF (κ := .eq (.bool false)) (b := true) 77 rfl rfl (fun h => by first | (exact absurd h (by decide)) | (simp at h; done) | (simp only [nq3] at h; exact absurd h (by assumption)) | simp_all)) <| .cons rfl (zF (κ := .eq (.bool false)) (b := true) 77 rfl rfl (fun h => by first | (exact absurd h (by decide)) | (simp at h; done) | (simp only [nq3] at h; exact absurd h (by assumption)) | simp_all)) <| .cons rfl (zF (κ := .eq (.bool false)) (b := true) 77 rfl rfl (fun h => by first | (exact absurd h (by decide)) | (simp at h; done) | (simp only [nq3] at h; exact absurd h (by assumption)) | simp_all)) <| .cons rfl (zF (κ := .eq (.bool false)) (b := true) 77 rfl rfl (fun h => by first | (exact absurd h (by decide)) | (simp at h; done) | (simp only [nq3] at h; exact absurd h (by assumption)) | simp_all)) <| .cons rfl (zF (κ := .eq (.bool false)) (b := true) 77 rfl rfl (fun h => by first | (exact absurd h (by decide)) | (simp at h; done) | (simp only [nq3] at h; exact absurd h (by assumption)) | simp_all)) <| .cons rfl (zF (κ := .eq (.bool false)) (b := true) 77 rfl rfl (fun h => by first | (exact absurd h (by decide)) | (simp at h; done) | (simp only [nq3] at h; exact absurd h (by assumption)) | simp_all)) <| .cons rfl (zU rfl rfl rfl) <| .cons rfl (zD rfl) <| .nil) fun a6 w6 m6 hst6 hle6 hk6 => ?_
     have hfr6 := hk6.fr (.o 0 <| .o 1 <| .o 2 <| .o 7 <| .n 74 <| .nil)
     clear hst5 hfr5 hk6
     refine hK143 _ _ ?_
     refine zE hfr6 rfl rfl (fun hb74 => ?_) (fun hb74 => ?_)
     ·simp [rdS, rfS, prS] at hb74
     ·try simp only [nqs] at hb74
      refine zB fun _ hK144 => ?_
      have zq134 := hle5.trans hle6
      have zq135 := hle4.trans zq134
      have zq136 := hle3.trans zq135
      replace h_l := h_l.mono zq136
      obtain ⟨p145, vs145, x145, ho145, hd145, hm_x145, ht145, hcv145, hl145, hv145⟩ := h_l.nth (k := 0) (by omega)
      cases ho145
      obtain ⟨⟨oa145, ca145, pf145, ob145, cb145⟩, rfl, ⟨hi145, hj145⟩, hvk145, hcl145, hfm145, hnl145⟩ := hv145.open_
      have hbk145 := hvk145.big; have hbf145 := hfm145.big
      have hxv9 : x145 = v9 := by have h9 := hd145; rw [hlc9] at h9; simp at h9; exact h9.symm
      subst hxv9
      refine rp0 hst6 hfr6 (.cons rfl (zC rfl) <| .cons rfl (zd rfl rfl) <| .cons rfl (zC rfl) <| .cons rfl (zC rfl) <| .cons rfl (zI (k := 0) rfl rfl underlying68 sizeOf72 rfl (by omega)) <| .cons rfl (zA (off := 0) rfl underlying72 rfl rfl sizeOf31 rfl) <| .cons rfl (zA (off := 0) rfl underlying31 rfl rfl sizeOf3 rfl) <| .cons rfl (zJ rfl (hcv145.drop 0) isAgg3 rfl) <| .cons rfl (zS rfl rfl) <| .cons rfl (zU rfl rfl rfl) <| .cons rfl (zD rfl) <| .nil) fun a7 w7 m7 hst7 hle7 hk7 => ?_
      have hfr7 := hk7.fr (.o 0 <| .o 1 <| .o 2 <| .o 7 <| .n 104 <| .nil)
      clear hst6 hfr6 hk7
      refine hK144 _ _ ?_
      refine zE hfr7 rfl rfl (fun hb104 => ?_) (fun hb104 => ?_)
      ·try simp only [nqs] at hb104
       refine zB fun _ hK146 => ?_
       obtain ⟨o8, c8, he8, hc8a, hc8b, hg8⟩ := Res.mrowx_val (hst7.loc.at_ (k := 2) rfl)
       injection he8 with he8 _ _
       obtain ⟨gc, hgc⟩ := hg8 (by omega)
       subst he8
       subst hgc
       have zq137 := zq136.trans hle7
       replace hS := hS.mono zq137
       replace hin := hin.mono zq137
       replace htr := htr.mono zq137
       replace hM := hM.trans zq137
       replace h_l := h_l.mono hle7
       replace hcv145 := hcv145.mono hle7
       replace hv145 := hv145.mono hle7
       replace hvk145 := hvk145.mono hle7
       replace hcl145 := hcl145.mono hle7
       replace hfm145 := hfm145.mono hle7
       refine zc (tch := [(12, 0, (fun _ => MK g (s.has z9) ⟨yc, pe, yv, pv, fo, fc, some ⟨gc, 0, none⟩, cc, io, ic, mo, to, tc⟩))]) (fun _ => zw) hst7 hfr7 (by kernel_rfl) (by kernel_rfl) (by kernel_rfl) (.cons rfl (zC rfl) <| .cons rfl (zC rfl) <| .cons rfl (zL rfl) <| .cons rfl (zA (off := 18) rfl underlying79 rfl rfl sizeOf68 rfl) <| .cons rfl (zK (j := 0) rfl rfl isAgg68 rfl) <| .cons rfl (zC rfl) <| .cons rfl (zI (k := 0) rfl rfl underlying68 sizeOf72 rfl (by omega)) <| .cons rfl (zA (off := 0) rfl underlying72 rfl rfl sizeOf31 rfl) <| .cons rfl (zA (off := 1) rfl underlying31 rfl rfl sizeOf3 rfl) <| .cons rfl (zJ rfl (hcv145.drop 0) isAgg3 rfl) <| .cons rfl (zI (k := x145.n.toNat) rfl rfl underlying68 sizeOf72 (by omega) (by omega)) <| .cons rfl (ob_loadMX (R := fun m vs v => VlR m v vs) (i := x145.n.toNat) (j := 2) (l := s.cells) rfl rfl isAgg72 sizeOf72 hcx9 (by decide)) <| .consT rfl rfl (fun _ => rfl) rfl (zb 126 rfl rfl rfl fun y126 => zj rfl (.cons rfl <| .cons rfl <| .nil) call49 (κ := .eq (.bool true)) (fun σ w m hK hr hkn => by have hle_ := KC.le hK; have hA := KC.agree hK; have hM := hM.trans hle_; have hr0_ := hK.2; have hS := hS.mono hle_; have h_l := h_l.mono hle_; have hin := hin.mono hle_; have htr := htr.mono hle_; have hcv145 := hcv145.mono hle_; have hv145 := hv145.mono hle_; have hvk145 := hvk145.mono hle_; have hcl145 := hcl145.mono hle_; have hfm145 := hfm145.mono hle_; exact Zy (s := s) (zBu (s := s) (x := z9) (y := ⟨yc, pe, yv, pv, fo, fc, some ⟨gc, 0, none⟩, cc, io, ic, mo, to, tc⟩) hA hr hS hr0_))) <| .cons rfl (zD rfl) <| .nil) fun a8 w8 m8 hst8 hle8 hk8 => ?_
       have hfr8 := hk8.fr (.n 6 <| .nil)
       replace hst8 := hst8.fin (L' := [_, _, _, _]) (.cons rfl <| .nil)
       clear hst7 hfr7 hk8
       obtain ⟨y7, hst8, hS7, hK7⟩ := zp (k := 0) hst8 rfl
       simp only [List.set_cons_zero] at hst8
       refine hK146 _ _ ?_
       refine zN ?_
       repeat (with_reducible first | refine zH ?_ | refine zG ?_)
       exact zO hst8 hfr8 rfl (.tmp rfl <| .nil) (⟨_, (hst8.take 3).loc, y7, (by simp only [ML, Zh, Ze]; rw [hK7.to, hK7.tc, hK7.co, hK7.cc]; rfl), hS7, rfl⟩)
      ·simp [hvk9] at hb104
 ·skip
  have hll9 : l.length = r9.length + 2 := by rw [hlc9]; rfl
  refine rp0 hst2 hfr2 (.cons rfl (zC rfl) <| .cons rfl (zd rfl rfl) <| .cons rfl (zC rfl) <| .cons rfl (zF (κ := .eq (.bool false)) (b := true) 16 rfl rfl (fun h => by first | (exact absurd h (by decide)) | (simp at h; done) | (simp only [nq3] at h; exact absurd h (by assumption)) | simp_all)) <| .cons rfl (zF (κ := .eq (.bool false)) (b := true) 16 rfl rfl (fun h => by first | (exact absurd h (by decide)) | (simp at h; done) | (simp only [nq3] at h; exact absurd h (by assumption)) | simp_all)) <| .cons rfl (zF (κ := .eq (.bool false)) (b := true) 16 rfl rfl (fun h => by first | (exact absurd h (by decide)) | (simp at h; done) | (simp only [nq3] at h; exact absurd h (by assumption)) | simp_all)) <| .cons rfl (zF (κ := .eq (.bool false)) (b := true) 16 rfl rfl (fun h => by first | (exact absurd h (by decide)) | (simp at h; done) | (simp only [nq3] at h; exact absurd h (by assumption)) | simp_all)) <| .cons rfl (zF (κ := .eq (.bool false)) (b := true) 16 rfl rfl (fun h => by first | (exact absurd h (by decide)) | (simp at h; done) | (simp only [nq3] at h; exact absurd h (by assumption)) | simp_all)) <| .cons rfl (zF (κ := .eq (.bool false)) (b := true) 16 rfl rfl (fun h => by first | (exact absurd h (by decide)) | (simp at h; done) | (simp only [nq3] at h; exact absurd h (by assumption)) | simp_all)) <| .cons rfl (zU rfl rfl rfl) <| .cons rfl (zD rfl) <| .nil) fun a3 w3 m3 hst3 hle3 hk3 => ?_
  have hfr3 := hk3.fr (.o 0 <| .o 1 <| .o 2 <| .o 7 <| .n 13 <| .nil)
  clear hst2 hfr2 hk3
  refine hK5 _ _ ?_
  refine zE hfr3 rfl rfl (fun hb13 => ?_) (fun hb13 => ?_)
  ·simp [rdS, rfS, prS] at hb13
  ·try simp only [nqs] at hb13
   refine zB fun _ hK148 => ?_
   refine rp0 hst3 hfr3 (.cons rfl (zC rfl) <| .cons rfl (zd rfl rfl) <| .cons rfl (zD rfl) <| .nil) fun a4 w4 m4 hst4 hle4 hk4 => ?_
   have hfr4 := hk4.fr (.o 0 <| .o 1 <| .o 2 <| .o 7 <| .n 26 <| .nil)
   clear hst3 hfr3 hk4
   refine hK148 _ _ ?_
   refine zE hfr4 rfl rfl (fun hb26 => ?_) (fun hb26 => ?_)
   ·simp [rdS, rfS, prS] at hb26
   ·try simp only [nqs] at hb26
    refine zB fun _ hK149 => ?_
    refine rp0 hst4 hfr4 (.cons rfl (zC rfl) <| .cons rfl (zd rfl rfl) <| .cons rfl (zD rfl) <| .nil) fun a5 w5 m5 hst5 hle5 hk5 => ?_
    have hfr5 := hk5.fr (.o 0 <| .o 1 <| .o 2 <| .o 7 <| .n 48 <| .nil)
    clear hst4 hfr4 hk5
    refine hK149 _ _ ?_
    refine zE hfr5 rfl rfl (fun hb48 => ?_) (fun hb48 => ?_)
    ·simp [rdS, rfS, prS] at hb48
    ·try simp only [nqs] at hb48
     refine zB fun _ hK150 => ?_
     refine rp0 hst5 hfr5 (.cons rfl (zC rfl) <| .cons rfl (zd rfl rfl) <| .cons rfl (zC rfl) <| .cons rfl (zF (κ := .eq (.bool false)) (b := true) 77 rfl rfl (fun h => by first | (exact absurd h (by decide)) | (simp at h; done) | (simp only [nq3] at h; exact absurd h (by assumption)) | simp_all)) <| .cons rfl (zF (κ := .eq (.bool false)) (b := true) 77 rfl rfl (fun h => by first | (exact absurd h (by decide)) | (simp at h; done) | (simp only [nq3] at h; exact absurd h (by assumption)) | simp_all)) <| .cons rfl (zF (κ := .eq (.bool false)) (b := true) 77 rfl rfl (fun h => by first | (exact absurd h (by decide)) | (simp at h; done) | (simp only [nq3] at h; exact absurd h (by assumption)) | simp_all)) <| .cons rfl (zF (κ := .eq (.bool false)) (b := true) 77 rfl rfl (fun h => by first | (exact absurd h (by decide)) | (simp at h; done) | (simp only [nq3] at h; exact absurd h (by assumption)) | simp_all)) <| .cons rfl (zF (κ := .eq (.bool false)) (b := true) 77 rfl rfl (fun h => by first | (exact absurd h (by decide)) | (simp at h; done) | (simp only [nq3] at h; exact absurd h (by assumption)) | simp_all)) <| .cons rfl (zF (κ := .eq (.bool false)) (b := true) 77 rfl rfl (fun h => by first | (exact absurd h (by decide)) | (simp at h; done) | (simp only [nq3] at h; exact absurd h (by assumption)) | simp_all)) <| .cons rfl (zU rfl rfl rfl) <| .cons rfl (zD rfl) <| .nil) fun a6 w6 m6 hst6 hle6 hk6 => ?_
     have hfr6 := hk6.fr (.o 0 <| .o 1 <| .o 2 <| .o 7 <| .n 74 <| .nil)
     clear hst5 hfr5 hk6
     refine hK150 _ _ ?_
     refine zE hfr6 rfl rfl (fun hb74 => ?_) (fun hb74 => ?_)
     ·simp [rdS, rfS, prS] at hb74
     ·try simp only [nqs] at hb74
      refine zB fun _ hK151 => ?_
      refine rp0 hst6 hfr6 (.cons rfl (zC rfl) <| .cons rfl (zd rfl rfl) <| .cons rfl (zC rfl) <| .cons rfl (zF (κ := .eq (.bool false)) (b := true) 107 rfl rfl (fun h => by first | (exact absurd h (by decide)) | (simp at h; done) | (simp only [nq3] at h; exact absurd h (by assumption)) | simp_all)) <| .cons rfl (zF (κ := .eq (.bool false)) (b := true) 107 rfl rfl (fun h => by first | (exact absurd h (by decide)) | (simp at h; done) | (simp only [nq3] at h; exact absurd h (by assumption)) | simp_all)) <| .cons rfl (zF (κ := .eq (.bool false)) (b := true) 107 rfl rfl (fun h => by first | (exact absurd h (by decide)) | (simp at h; done) | (simp only [nq3] at h; exact absurd h (by assumption)) | simp_all)) <| .cons rfl (zF (κ := .eq (.bool false)) (b := true) 107 rfl rfl (fun h => by first | (exact absurd h (by decide)) | (simp at h; done) | (simp only [nq3] at h; exact absurd h (by assumption)) | simp_all)) <| .cons rfl (zF (κ := .eq (.bool false)) (b := true) 107 rfl rfl (fun h => by first | (exact absurd h (by decide)) | (simp at h; done) | (simp only [nq3] at h; exact absurd h (by assumption)) | simp_all)) <| .cons rfl (zF (κ := .eq (.bool false)) (b := true) 107 rfl rfl (fun h => by first | (exact absurd h (by decide)) | (simp at h; done) | (simp only [nq3] at h; exact absurd h (by assumption)) | simp_all)) <| .cons rfl (zU rfl rfl rfl) <| .cons rfl (zD rfl) <| .nil) fun a7 w7 m7 hst7 hle7 hk7 => ?_
      have hfr7 := hk7.fr (.o 0 <| .o 1 <| .o 2 <| .o 7 <| .n 104 <| .nil)
      clear hst6 hfr6 hk7
      refine hK151 _ _ ?_
      refine zE hfr7 rfl rfl (fun hb104 => ?_) (fun hb104 => ?_)
      ·simp [rdS, rfS, prS] at hb104
      ·try simp only [nqs] at hb104
       refine zB fun _ hK152 => ?_
       have zq138 := hle6.trans hle7
       have zq139 := hle5.trans zq138
       have zq140 := hle4.trans zq139
       have zq141 := hle3.trans zq140
       replace h_l := h_l.mono zq141
       obtain ⟨p153, vs153, x153, ho153, hd153, hm_x153, ht153, hcv153, hl153, hv153⟩ := h_l.nth (k := 0) (by omega)
       cases ho153
       obtain ⟨⟨oa153, ca153, pf153, ob153, cb153⟩, rfl, ⟨hi153, hj153⟩, hvk153, hcl153, hfm153, hnl153⟩ := hv153.open_
       have hbk153 := hvk153.big; have hbf153 := hfm153.big
       have hxv9 : x153 = v9 := by have h9 := hd153; rw [hlc9] at h9; simp at h9; exact h9.symm
       subst hxv9
       refine rp0 hst7 hfr7 (.cons rfl (zC rfl) <| .cons rfl (zd rfl rfl) <| .cons rfl (zC rfl) <| .cons rfl (zC rfl) <| .cons rfl (zI (k := 0) rfl rfl underlying68 sizeOf72 rfl (by omega)) <| .cons rfl (zA (off := 0) rfl underlying72 rfl rfl sizeOf31 rfl) <| .cons rfl (zA (off := 0) rfl underlying31 rfl rfl sizeOf3 rfl) <| .cons rfl (zJ rfl (hcv153.drop 0) isAgg3 rfl) <| .cons rfl (zS rfl rfl) <| .cons rfl (zU rfl rfl rfl) <| .cons rfl (zD rfl) <| .nil) fun a8 w8 m8 hst8 hle8 hk8 => ?_
       have hfr8 := hk8.fr (.o 0 <| .o 1 <| .o 2 <| .o 7 <| .n 128 <| .nil)
       clear hst7 hfr7 hk8
       refine hK152 _ _ ?_
       refine zE hfr8 rfl rfl (fun hb128 => ?_) (fun hb128 => ?_)
       ·try simp only [nqs] at hb128
        refine zB fun _ hK154 => ?_
        obtain ⟨o8, c8, he8, hc8a, hc8b, hg8⟩ := Res.mrowx_val (hst8.loc.at_ (k := 2) rfl)
        injection he8 with he8 _ _
        obtain ⟨gc, hgc⟩ := hg8 (by omega)
        subst he8
        subst hgc
        replace h_l := h_l.mono hle8
        obtain ⟨p155, vs155, x155, ho155, hd155, hm_x155, ht155, hcv155, hl155, hv155⟩ := h_l.nth (k := 1) (by omega)
        cases ho155
        obtain ⟨⟨oa155, ca155, pf155, ob155, cb155⟩, rfl, ⟨hi155, hj155⟩, hvk155, hcl155, hfm155, hnl155⟩ := hv155.open_
        have hbk155 := hvk155.big; have hbf155 := hfm155.big
        have hxz9 : x155 = z9 := by have h9 := hd155; rw [hlc9] at h9; simp at h9; exact h9.symm
        subst hxz9
        replace hcv153 := hcv153.mono hle8
        refine zc (tch := [(13, 2, (fun _ => .mrowx _ _ _ _ _))]) (fun _ => zw) hst8 hfr8 (by kernel_rfl) (by kernel_rfl) (by kernel_rfl) (.cons rfl (zC rfl) <| .cons rfl (zL rfl) <| .cons rfl (zA (off := 18) rfl underlying79 rfl rfl sizeOf68 rfl) <| .cons rfl (zK (j := 0) rfl rfl isAgg68 rfl) <| .cons rfl (zC rfl) <| .cons rfl (zI (k := 0) rfl rfl underlying68 sizeOf72 rfl (by omega)) <| .cons rfl (zA (off := 0) rfl underlying72 rfl rfl sizeOf31 rfl) <| .cons rfl (zA (off := 1) rfl underlying31 rfl rfl sizeOf3 rfl) <| .cons rfl (zJ rfl (hcv153.drop 0) isAgg3 rfl) <| .cons rfl (zC rfl) <| .cons rfl (zI (k := 1) rfl rfl underlying68 sizeOf72 rfl (by omega)) <| .cons rfl (zY rfl hcv155 isAgg72 sizeOf72 rfl rfl) <| .cons rfl (zI (k := x153.n.toNat) rfl rfl underlying68 sizeOf72 (by omega) (by omega)) <| .consT rfl rfl (fun _ => rfl) rfl (zBe (R := fun m vs v => VlR m v vs) (i := x153.n.toNat) (off := 0) (l := s.cells) (b := x155) (ws := _) rfl rfl rfl sizeOf72 (List.getElem?_eq_getElem hcl9) (by decide) (Nat.le_of_ble_eq_true rfl) (fun w m hK vs hvs _ => by rw [zFG (by rw [hvs]; rfl)]; exact hv155.mono (KC.le hK)) (fun w m hK => rfl)) <| .nil) fun a9 w9 m9 hst9 hle9 hk9 => ?_
        have hfr9 := hk9.fr (.o 0 <| .o 7 <| .nil)
        replace hst9 := hst9.fin (L' := [_, _, _, _]) (.cons rfl <| .nil)
        try simp only [List.take_succ_cons, List.take_zero, List.drop_succ_cons, List.drop_zero, List.cons_append, List.nil_append, List.append_nil, List.length_cons, List.length_nil, Nat.zero_add, Nat.reduceAdd] at hst9
        clear hst8 hfr8 hk9
        have hlen9 : s.cells.length = (s.cells.set x153.n.toNat x155).length := by simp
        replace hst9 := st_cells (s := s) (y := ⟨yc, pe, yv, pv, fo, fc, some ⟨gc, 0, none⟩, cc, io, ic, mo, to, tc⟩) (l := s.cells.set x153.n.toNat x155) hst9 hlen9
        have zq142 := hle8.trans hle9
        have zq143 := zq141.trans zq142
        replace hS := hS.mono zq143
        have hS9 : McR m9 ({ s with cells := s.cells.set x153.n.toNat x155 } : Mc) ⟨yc, pe, yv, pv, fo, fc, some ⟨gc, 0, none⟩, cc, io, ic, mo, to, tc⟩ := ⟨hS.c, hS.e, hS.v, hS.ev, hS.fr, hS.inp, hS.next, hS.kind, hS.eff, hS.steps, hS.konts, hS.tr⟩
        refine hK154 _ _ ?_
        refine zB fun _ hK156 => ?_
        replace hin := hin.mono zq143
        replace htr := htr.mono zq143
        replace hM := hM.trans zq143
        replace hv153 := hv153.mono zq142
        replace hvk153 := hvk153.mono zq142
        replace hcl153 := hcl153.mono zq142
        replace hfm153 := hfm153.mono zq142
        replace h_l := h_l.mono hle9
        replace hcv153 := hcv153.mono hle9
        replace hcv155 := hcv155.mono hle9
        replace hv155 := hv155.mono hle9
        replace hvk155 := hvk155.mono hle9
        replace hcl155 := hcl155.mono hle9
        replace hfm155 := hfm155.mono hle9
        refine ra0 (tch := [(2, 0, (fun _ => MK g (({ s with cells := s.cells.set x153.n.toNat x155 } : Mc).has ⟨3, 0, [], [], .none, []⟩) ⟨yc, pe, yv, pv, fo, fc, some ⟨gc, 0, none⟩, cc, io, ic, mo, to, tc⟩))]) hst9 hfr9 (.cons rfl (zC rfl) <| .cons rfl (zh (j := 3) rfl rfl isAgg72 sizeOf72 rfl) <| .consT rfl rfl (fun _ => rfl) rfl (zj rfl (.cons rfl <| .cons rfl <| .nil) call49 (κ := .eq (.bool true)) (fun σ w m hK hr hkn => by have hle_ := KC.le hK; have hA := KC.agree hK; have hM := hM.trans hle_; have hS := hS.mono hle_; have h_l := h_l.mono hle_; have hin := hin.mono hle_; have htr := htr.mono hle_; have hcv153 := hcv153.mono hle_; have hv153 := hv153.mono hle_; have hvk153 := hvk153.mono hle_; have hcl153 := hcl153.mono hle_; have hfm153 := hfm153.mono hle_; have hcv155 := hcv155.mono hle_; have hv155 := hv155.mono hle_; have hvk155 := hvk155.mono hle_; have hcl155 := hcl155.mono hle_; have hfm155 := hfm155.mono hle_; have hS9 := hS9.mono hle_; exact Zy (s := ({ s with cells := s.cells.set x153.n.toNat x155 } : Mc)) (zBu (s := ({ s with cells := s.cells.set x153.n.toNat x155 } : Mc)) (x := ⟨3, 0, [], [], .none, []⟩) (y := ⟨yc, pe, yv, pv, fo, fc, some ⟨gc, 0, none⟩, cc, io, ic, mo, to, tc⟩) hA hr hS9 (VlR.flat (k := 3) (n := 0) ⟨by decide, by decide⟩ ⟨by decide, by decide⟩)))) <| .cons rfl (zD rfl) <| .nil) fun a10 w10 m10 hst10 hle10 hk10 => ?_
        have hfr10 := hk10.fr (.n 6 <| .nil)
        replace hst10 := hst10.fin (L' := [_, _, _, _]) (.cons rfl <| .nil)
        clear hst9 hfr9 hk10
        obtain ⟨y7, hst10, hS7, hK7⟩ := zp (k := 0) hst10 rfl
        simp only [List.set_cons_zero] at hst10
        refine hK156 _ _ ?_
        refine zN ?_
        repeat (with_reducible first | refine zH ?_ | refine zG ?_)
        exact zO hst10 hfr10 rfl (.tmp rfl <| .nil) (⟨_, (hst10.take 3).loc, y7, (by simp only [ML, Zh, Ze]; rw [hK7.to, hK7.tc, hK7.co, hK7.cc]; rfl), hS7, rfl⟩)
       ·simp [hvk9] at hb128
end Go.Proofs.Ytnppknioifgdfaa
namespace Go.Proofs.Ytnppknioifgdfaa
open Go.Proofs.Try
set_option linter.all false
set_option maxRecDepth 4000
open Go.RowKit
theorem CdR.parts {m : Mem} {t : Cd} {y : CdY} (h : CdR m t (cdV t y)) : (zo t.kind ∧ zo t.n) ∧ Cds m y.o1 t.kids.length y.c1 t.kids ∧ Cas m y.o2 t.arms.length y.c2 t.arms := by
 obtain ⟨y', e, h1, h2, h3⟩ := h.open_
 injection e with _ e; injection e with _ e; injection e with _ e; injection e with _ e; injection e with e1 e; injection e with e2 _
 injection e1 with e3 _ e4; injection e2 with e5 _ e6
 rw [e3, e4, e5, e6]; exact ⟨h1, h2, h3⟩
theorem zEx {s s2 : Mc} {b : Bool} (h : zAr s = some (s2, b)) :
  (s.c.kind = 7 ∧ ∃ a d r, s.c.kids = a :: d :: r ∧ s.bnd = true ∧ s2 = (s.push (.bound (decide (s.c.kind = 7)) s.c.name d s.e)).goes a s.e ∧ b = true) ∨
  (s.c.kind = 8 ∧ ∃ a d r, s.c.kids = a :: d :: r ∧ s.bnd = true ∧ s2 = (s.push (.bound (decide (s.c.kind = 7)) s.c.name d s.e)).goes a s.e ∧ b = true) ∨
  (s.c.kind = 9 ∧ ∃ a d r, s.c.kids = a :: d :: r ∧ s2 = s.goes d (.cons s.c.name (zCB s.c.name s.c.param a s.e) s.e) ∧ b = true) ∨
  (s.c.kind = 15 ∧ ∃ a r, s.c.kids = a :: r ∧ s.bnd = true ∧ s2 = (s.put s.c.name s.c.arms s.e).goes a s.e ∧ b = true) ∨
  (s.c.kind = 10 ∧ ∃ a r q, s.c.kids = a :: r ∧ Z6 a s.e = some q ∧ ((q = none ∧ s2 = s ∧ b = false) ∨ ∃ v, q = some v ∧ ifM s v s.c.kids s.e = some (s2, b))) ∨
  (s.c.kind < 6 ∧ ∃ q, Z6 s.c s.e = some q ∧ ((q = none ∧ s2 = s ∧ b = false) ∨ ∃ v, q = some v ∧ s2 = s.has v ∧ b = true)) ∨
  ((¬ s.c.kind < 6 ∧ ¬ s.c.kind = 7 ∧ ¬ s.c.kind = 8 ∧ ¬ s.c.kind = 9 ∧ ¬ s.c.kind = 15 ∧ ¬ s.c.kind = 10) ∧ s.c.kids.length ≤ 1000000 ∧ ∃ q, zAB s.c.kids s.e = some q ∧ ((q = none ∧ s2 = s ∧ b = false) ∨ ∃ l, q = some l ∧ appK s s.c l = some (s2, b))) := by
 unfold zAr at h
 split at h
 ·rename_i hk
  split at h
  ·rename_i a d r e
   split at h
   ·rename_i hb; injection h with h; injection h with h1 h2
    rcases hk with hk | hk
    ·exact .inl ⟨hk, a, d, r, e, hb, h1.symm, h2.symm⟩
    ·exact .inr (.inl ⟨hk, a, d, r, e, hb, h1.symm, h2.symm⟩)
   ·cases h
  ·cases h
 ·rename_i n1
  split at h
  ·rename_i hk
   split at h
   ·rename_i a d r e; injection h with h; injection h with h1 h2; exact .inr (.inr (.inl ⟨hk, a, d, r, e, h1.symm, h2.symm⟩))
   ·cases h
  ·rename_i n2
   split at h
   ·rename_i hk
    split at h
    ·rename_i a r e
     split at h
     ·rename_i hb; injection h with h; injection h with h1 h2; exact .inr (.inr (.inr (.inl ⟨hk, a, r, e, hb, h1.symm, h2.symm⟩)))
     ·cases h
    ·cases h
   ·rename_i n3
    split at h
    ·rename_i hk
     split at h
     ·rename_i a r e
      refine .inr (.inr (.inr (.inr (.inl ⟨hk, a, r, ?_⟩))))
      split at h
      ·cases h
      ·rename_i e2; injection h with h; injection h with h1 h2; exact ⟨none, e, e2, .inl ⟨rfl, h1.symm, h2.symm⟩⟩
      ·rename_i v e2; exact ⟨some v, e, e2, .inr ⟨v, rfl, h⟩⟩
     ·cases h
    ·rename_i n4
     split at h
     ·rename_i hk
      refine .inr (.inr (.inr (.inr (.inr (.inl ⟨hk, ?_⟩)))))
      split at h
      ·cases h
      ·rename_i e2; injection h with h; injection h with h1 h2; exact ⟨none, e2, .inl ⟨rfl, h1.symm, h2.symm⟩⟩
      ·rename_i v e2; injection h with h; injection h with h1 h2; exact ⟨some v, e2, .inr ⟨v, rfl, h1.symm, h2.symm⟩⟩
     ·rename_i n5
      split at h
      ·rename_i hl
       refine .inr (.inr (.inr (.inr (.inr (.inr ⟨⟨n5, fun e => n1 (.inl e), fun e => n1 (.inr e), n2, n3, n4⟩, hl, ?_⟩)))))
       split at h
       ·cases h
       ·rename_i e2; injection h with h; injection h with h1 h2; exact ⟨none, e2, .inl ⟨rfl, h1.symm, h2.symm⟩⟩
       ·rename_i l e2; exact ⟨some l, e2, .inr ⟨l, rfl, h⟩⟩
      ·cases h
theorem app_ways {s s2 : Mc} {c : Cd} {l : List Vl} {b : Bool} (h : appK s c l = some (s2, b)) :
  (c.kind = 6 ∧ ∃ f v r, l = f :: v :: r ∧ zBt s f v = some (s2, b)) ∨ (c.kind = 11 ∧ opM s c.name l = some (s2, b)) ∨ (c.kind = 12 ∧ s2 = s.has ⟨4, 0, c.name, l, .none, []⟩ ∧ b = true) ∨
  (c.kind = 13 ∧ ∃ v r, l = v :: r ∧ zAa s v c.arms = some (s2, b)) ∨ (¬ c.kind = 6 ∧ ¬ c.kind = 11 ∧ ¬ c.kind = 12 ∧ ¬ c.kind = 13 ∧ ∃ v r, l = v :: r ∧ zAq s c.name v = some (s2, b)) := by
 unfold appK at h
 split at h
 ·rename_i hk
  split at h
  ·rename_i f v r; exact .inl ⟨hk, f, v, r, rfl, h⟩
  ·cases h
 ·rename_i n1
  split at h
  ·rename_i hk; exact .inr (.inl ⟨hk, h⟩)
  ·rename_i n2
   split at h
   ·rename_i hk; injection h with h; injection h with h1 h2; exact .inr (.inr (.inl ⟨hk, h1.symm, h2.symm⟩))
   ·rename_i n3
    cases l with
    | nil => cases h
    | cons v r =>
     simp only at h
     split at h
     ·rename_i hk; exact .inr (.inr (.inr (.inl ⟨hk, v, r, rfl, h⟩)))
     ·rename_i n4; exact .inr (.inr (.inr (.inr ⟨n1, n2, n3, n4, v, r, rfl, h⟩)))
theorem if_ways {s s2 : Mc} {v : Vl} {ks : List Cd} {e : Env} {b : Bool} (h : ifM s v ks e = some (s2, b)) : (v.kind = 2 ∧ v.n ≤ 2 ∧ ∃ d, ks[(2 - v.n).toNat]? = some d ∧ s2 = s.goes d e ∧ b = true) ∨ (¬ v.kind = 2 ∧ s2 = s ∧ b = false) := by
 unfold ifM at h
 split at h
 ·rename_i hk
  split at h
  ·rename_i hn
   split at h
   ·rename_i d e2; injection h with h; injection h with h1 h2; exact .inl ⟨hk, hn, d, e2, h1.symm, h2.symm⟩
   ·cases h
  ·cases h
 ·rename_i hk; injection h with h; injection h with h1 h2; exact .inr ⟨hk, h1.symm, h2.symm⟩
theorem pushK_tr {s t : Mc} {f : Fm} (h : zCZ s f = some t) : t.trace = s.trace := by
 cases f with
 | bound q n c e => obtain ⟨_, rfl⟩ := push_b h; rfl
 | prompt q l e k => obtain ⟨_, rfl⟩ := push_p h; rfl
 | restore v n => obtain ⟨_, rfl⟩ := push_r h; rfl
theorem zEe : ∀ {l : List Fm} {s t : Mc}, Zr s l = some t → t.trace = s.trace
 | [], s, t, h => by unfold Zr at h; injection h with h; rw [h]
 | f :: l, s, t, h => by
  obtain ⟨u, h1, h2⟩ := zCX h
  rw [zEe h2, pushK_tr h1]
theorem call_tr {s s2 : Mc} {f v : Vl} {b : Bool} (h : zBt s f v = some (s2, b)) : s2.trace = s.trace := by
 cases hc : f.clo with
 | mk p q bd e => obtain ⟨rfl, _⟩ := zDK h hc; rfl
 | none =>
  rcases zCT h hc with ⟨_, rfl, _⟩ | ⟨g, r, t, _, ht, rfl, _⟩
  ·rfl
  ·show t.trace = s.trace; exact zEe ht
theorem match_tr {s s2 : Mc} {v : Vl} {l : List Ca} {b : Bool} (h : zAa s v l = some (s2, b)) : s2.trace = s.trace := by
 cases hf : l.find? (Zo v) with
 | none => obtain ⟨rfl, _⟩ := zCx h hf; rfl
 | some a => obtain ⟨rfl, _⟩ := zDJ h hf; rfl
theorem yield_tr {s s2 : Mc} {op : Str} {v : Vl} {b : Bool} (h : zAq s op v = some (s2, b)) : s2.trace = s.trace := by
 cases h1 : z5 op s.eff with
 | none => obtain ⟨rfl, _⟩ := zCQ h h1; rfl
 | some q =>
  cases h2 : Zf q s.ev with
  | nil => obtain ⟨rfl, _⟩ := zCW h h1 h2; rfl
  | cons q8 k l e o =>
   obtain ⟨a0, r, _, h3⟩ := zBn h h1 h2
   rcases h3 with ⟨_, rfl, _⟩ | ⟨a, x, xs, _, _, _, ⟨_, rfl, _⟩ | ⟨_, ⟨_, rfl, _⟩ | ⟨n, y, ys, _, _, rfl, _⟩⟩⟩ <;> rfl
theorem gets_tr {s s2 : Mc} (h : s.gets = some s2) : s2.trace = s.trace := by
 obtain ⟨fl, f, _, h2⟩ := zCR h
 cases f with
 | bound q n c e => injection h2 with h2; rw [← h2]; rfl
 | prompt q l e k => obtain ⟨a, lr, x, vr, _, _, rfl⟩ := zBC h2; rfl
 | restore v n => injection h2 with h2; rw [← h2]
theorem pushK_ce {s t : Mc} {f : Fm} (h : zCZ s f = some t) : t.cells = s.cells := by
 cases f with
 | bound q n c e => obtain ⟨_, rfl⟩ := push_b h; rfl
 | prompt q l e k => obtain ⟨_, rfl⟩ := push_p h; rfl
 | restore v n => obtain ⟨_, rfl⟩ := push_r h; rfl
theorem zET : ∀ {l : List Fm} {s t : Mc}, Zr s l = some t → t.cells = s.cells
 | [], s, t, h => by unfold Zr at h; injection h with h; rw [h]
 | f :: l, s, t, h => by
  obtain ⟨u, h1, h2⟩ := zCX h
  rw [zET h2, pushK_ce h1]
theorem call_ce {s s2 : Mc} {f v : Vl} {b : Bool} (h : zBt s f v = some (s2, b)) : s2.cells = s.cells := by
 cases hc : f.clo with
 | mk p q bd e => obtain ⟨rfl, _⟩ := zDK h hc; rfl
 | none =>
  rcases zCT h hc with ⟨_, rfl, _⟩ | ⟨g, r, t, _, ht, rfl, _⟩
  ·rfl
  ·show t.cells = s.cells; exact zET ht
theorem match_ce {s s2 : Mc} {v : Vl} {l : List Ca} {b : Bool} (h : zAa s v l = some (s2, b)) : s2.cells = s.cells := by
 cases hf : l.find? (Zo v) with
 | none => obtain ⟨rfl, _⟩ := zCx h hf; rfl
 | some a => obtain ⟨rfl, _⟩ := zDJ h hf; rfl
theorem yield_ce {s s2 : Mc} {op : Str} {v : Vl} {b : Bool} (h : zAq s op v = some (s2, b)) : s2.cells = s.cells := by
 cases h1 : z5 op s.eff with
 | none => obtain ⟨rfl, _⟩ := zCQ h h1; rfl
 | some q =>
  cases h2 : Zf q s.ev with
  | nil => obtain ⟨rfl, _⟩ := zCW h h1 h2; rfl
  | cons q8 k l e o =>
   obtain ⟨a0, r, _, h3⟩ := zBn h h1 h2
   rcases h3 with ⟨_, rfl, _⟩ | ⟨a, x, xs, _, _, _, ⟨_, rfl, _⟩ | ⟨_, ⟨_, rfl, _⟩ | ⟨n, y, ys, _, _, rfl, _⟩⟩⟩ <;> rfl
theorem gets_ce {s s2 : Mc} (h : s.gets = some s2) : s2.cells = s.cells := by
 obtain ⟨fl, f, _, h2⟩ := zCR h
 cases f with
 | bound q n c e => injection h2 with h2; rw [← h2]; rfl
 | prompt q l e k => obtain ⟨a, lr, x, vr, _, _, rfl⟩ := zBC h2; rfl
 | restore v n => injection h2 with h2; rw [← h2]
set_option maxHeartbeats 6400000 in
theorem looks_g {w : World} {m : Mem} {g : Nat} {s : Mc} {y : McY} {s2 : Mc} {b : Bool} (hA : Agree w m) (hL : Loc ((ML g s y).flatMap Res.blocks) w.heap.size (ML g s y) w m) (hS : McR m s y) (hrun : zAr s = some (s2, b)) : FnR Try.prog 33 #[.pointer (some ⟨g, 0, none⟩)] (ML g s y) w m fun rs' m' v => ∃ y', rs' = ML g s2 y' ∧ McR m' s2 y' ∧ v = .bool b := by
 refine zZ (vs := [_]) func33 rfl rfl rfl fun a0 hfr0 => ?_
 have hst0 := zW hA hL
 have hM : MLe m m := MLe.refl m
 obtain ⟨⟨hik9, hin9⟩, hkc, hac⟩ := hS.c.parts
 have hbk9 := hkc.big; have hck9 := hkc.cap; have hba9 := hac.big
 obtain ⟨⟨ok, ck, oa, ca⟩, pe, yv, pv, fo, fc, co, cc, io, ic, mo, to, tc⟩ := y
 have hwy9 := zEx hrun
 refine zB fun _ hK1 => ?_
 refine rp0 hst0 hfr0 (.cons rfl (zD rfl) <| .nil) fun a1 w1 m1 hst1 hle1 hk1 => ?_
 have hfr1 := hk1.fr (.o 0 <| .nil)
 replace hS := hS.mono hle1
 replace hkc := hkc.mono hle1
 replace hac := hac.mono hle1
 replace hM := hM.trans hle1
 clear hst0 hfr0 hk1
 refine hK1 _ _ ?_
 refine zB fun _ hK2 => ?_
 replace hst1 := hst1.more (r := .free) trivial List.nodup_nil (by simp [Res.blocks])
 refine zc (tch := [(10, 3, (fun v => .blk v _)), (11, 3, (fun v => .blk v _))]) (fun _ => zw) hst1 hfr1 (by kernel_rfl) (by kernel_rfl) (by kernel_rfl) (.cons rfl (zC rfl) <| .cons rfl (zL rfl) <| .cons rfl (zA (off := 0) rfl underlying79 rfl rfl sizeOf77 rfl) <| .cons rfl (zA (off := 0) rfl underlying77 rfl rfl sizeOf25 rfl) <| .cons rfl (zz (k := 0) (j := 0) rfl rfl isAgg25 sizeOf25 rfl rfl) <| .cons rfl (zC rfl) <| .cons rfl (zL rfl) <| .cons rfl (zA (off := 0) rfl underlying79 rfl rfl sizeOf77 rfl) <| .cons rfl (zA (off := 6) rfl underlying77 rfl rfl sizeOf67 rfl) <| .cons rfl (zK (k := 6) (j := 0) rfl rfl isAgg67 rfl) <| .consT rfl rfl (fun _ => rfl) rfl (zP zeroValue25 rfl) <| .consT rfl rfl (fun _ => rfl) rfl (zb 3 rfl rfl rfl fun y3 => za rfl rfl rfl rfl rfl sizeOf25 rfl rfl rfl) <| .cons rfl (zD rfl) <| .nil) fun a2 w2 m2 hst2 hle2 hk2 => ?_
 have hfr2 := hk2.fr (.o 0 <| .n 4 <| .nil)
 obtain ⟨g3, e3, _⟩ := hk2.ex 3 rfl
 replace hfr2 := hfr2.cons e3
 replace hst2 := hst2.fin (L' := [_, _, _, _]) (.cons e3 <| .cons e3 <| .nil)
 try simp only [List.take_succ_cons, List.take_zero, List.drop_succ_cons, List.drop_zero, List.cons_append, List.nil_append, List.append_nil, List.length_cons, List.length_nil, Nat.zero_add, Nat.reduceAdd] at hst2
 replace hS := hS.mono hle2
 replace hkc := hkc.mono hle2
 replace hac := hac.mono hle2
 replace hM := hM.trans hle2
 clear hst1 hfr1 hk2
 refine hK2 _ _ ?_
 refine zB fun _ hK4 => ?_
 refine zB fun _ hK5 => ?_
 rcases hwy9 with ⟨hk9, a9, d9, r9, hks9, hbn, rfl, rfl⟩ | ⟨hk9, a9, d9, r9, hks9, hbn, rfl, rfl⟩ | ⟨hk9, a9, d9, r9, hks9, rfl, rfl⟩ | ⟨hk9, a9, r9, hks9, hbn, rfl, rfl⟩ | ⟨hk9, a9, r9, q9, hks9, hq9, hq8⟩ | ⟨hk9, q9, hq9, hq8⟩ | ⟨hk9, hlb9, q9, hq9, hq8⟩
 ·skip
  have hkl9 : s.c.kids.length = r9.length + 2 := by rw [hks9]; rfl
  have hbd9 := zBj hbn
  refine rp0 hst2 hfr2 (.cons rfl (zA (off := 0) rfl underlying25 rfl rfl sizeOf3 rfl) <| .cons rfl (zK (j := 3) rfl rfl isAgg3 rfl) <| .nil) fun a3 w3 m3 hst3 hle3 hk3 => ?_
  have hfr3 := hk3.fr (.o 0 <| .o 4 <| .o 3 <| .n 23 <| .nil)
  clear hst2 hfr2 hk3
  refine hK5 _ _ ?_
  refine zT ?_
  refine zB fun _ hK6 => ?_
  refine zB fun _ hK7 => ?_
  refine rp0 hst3 hfr3 (.cons rfl (zS rfl rfl) <| .cons rfl (zD rfl) <| .nil) fun a4 w4 m4 hst4 hle4 hk4 => ?_
  have hfr4 := hk4.fr (.o 0 <| .o 4 <| .o 3 <| .o 23 <| .n 24 <| .nil)
  clear hst3 hfr3 hk4
  refine hK7 _ _ ?_
  refine zE hfr4 rfl rfl (fun hb24 => ?_) (fun hb24 => ?_)
  ·try simp only [nqs] at hb24
   refine zR ?_
   refine hK6 _ _ ?_
   refine zE hfr4 rfl rfl (fun hb24x => ?_) (fun hb24x => ?_)
   ·try simp only [nqs] at hb24x
    refine zB fun _ hK8 => ?_
    have zq1 := hle3.trans hle4
    replace hkc := hkc.mono zq1
    obtain ⟨p9, vs9, x9, ho9, hd9, hm_x9, ht9, hcv9, hl9, hv9⟩ := hkc.nth (k := 1) (by omega)
    cases ho9
    obtain ⟨⟨oK9, cK9, oA9, cA9⟩, rfl, ⟨hik9, hin9⟩, hkk9, haa9⟩ := hv9.open_
    dsimp only at hkk9 haa9
    have hbg9 := hkk9.big; have hcp9 := hkk9.cap; have hbh9 := haa9.big; have hcq9 := haa9.cap
    have hxd99 : x9 = d9 := by have h9 := hd9; rw [hks9] at h9; simp at h9; exact h9.symm
    subst hxd99
    replace hS := hS.mono zq1
    replace hac := hac.mono zq1
    replace hM := hM.trans zq1
    refine zc (tch := [(13, 0, (fun _ => MK g (s.push (.bound (decide (s.c.kind = 7)) s.c.name x9 s.e)) ⟨⟨_, ck, _, ca⟩, pe, yv, pv, fo, fc, co, cc, io, ic, mo, to, tc⟩))]) (fun _ => zw) hst4 hfr4 (by kernel_rfl) (by kernel_rfl) (by kernel_rfl) (.cons rfl (zC rfl) <| .cons rfl (zA (off := 0) rfl underlying25 rfl rfl sizeOf3 rfl) <| .cons rfl (zK (j := 3) rfl rfl isAgg3 rfl) <| .cons rfl (zS rfl rfl) <| .cons rfl (zA (off := 1) rfl underlying25 rfl rfl sizeOf9 rfl) <| .cons rfl (zK (j := 3) rfl rfl isAgg9 rfl) <| .cons rfl (zA (off := 4) rfl underlying25 rfl rfl sizeOf22 rfl) <| .cons rfl (zK (j := 3) rfl rfl isAgg22 rfl) <| .cons rfl (zI (k := 1) rfl rfl underlying22 sizeOf25 rfl (by omega)) <| .cons rfl (zY rfl hcv9 isAgg25 sizeOf25 rfl rfl) <| .cons rfl (zC rfl) <| .cons rfl (zQ (.cons rfl <| .cons rfl <| .cons rfl <| .cons rfl <| .nil) underlying108 zeroValue108 (.cons sizeOf4 <| .cons sizeOf9 <| .cons sizeOf25 <| .cons sizeOf67 <| .nil) rfl) <| .cons rfl (zDj rfl underlying108 rfl) <| .consT rfl rfl (fun _ => rfl) rfl (zj rfl (.cons rfl <| .cons rfl <| .nil) call45 (κ := .ex (MP.anyV)) (fun σ w m hK hr hkn => by have hle_ := KC.le hK; have hA := KC.agree hK; have hM := hM.trans hle_; have hS := hS.mono hle_; have hkc := hkc.mono hle_; have hac := hac.mono hle_; have hcv9 := hcv9.mono hle_; have hv9 := hv9.mono hle_; have hkk9 := hkk9.mono hle_; have haa9 := haa9.mono hle_; exact zDo (s := s) (zDk (s := s) (y := ⟨⟨_, ck, _, ca⟩, pe, yv, pv, fo, fc, co, cc, io, ic, mo, to, tc⟩) (f := (.bound (decide (s.c.kind = 7)) s.c.name x9 s.e)) hA hr hS (by simp only [FmR]; exact ⟨_, _, rfl, hv9, hS.e⟩) (by omega)))) <| .nil) fun a5 w5 m5 hst5 hle5 hk5 => ?_
    have hfr5 := hk5.fr (.o 0 <| .o 4 <| .o 3 <| .nil)
    obtain ⟨y10, e10, hy10⟩ := hk5.ex 40 rfl
    replace hst5 := hst5.fin (L' := [_, _, _, _]) (.cons e10 <| .nil)
    clear hst4 hfr4 hk5
    obtain ⟨yz8, hst5, hSz8, hKz8⟩ := zp (k := 0) hst5 rfl
    simp only [List.set_cons_zero] at hst5
    refine hK8 _ _ ?_
    refine zB fun _ hK11 => ?_
    replace hkc := hkc.mono hle5
    obtain ⟨p12, vs12, x12, ho12, hd12, hm_x12, ht12, hcv12, hl12, hv12⟩ := hkc.nth (k := 0) (by omega)
    cases ho12
    obtain ⟨⟨oK12, cK12, oA12, cA12⟩, rfl, ⟨hik12, hin12⟩, hkk12, haa12⟩ := hv12.open_
    dsimp only at hkk12 haa12
    have hbg12 := hkk12.big; have hcp12 := hkk12.cap; have hbh12 := haa12.big; have hcq12 := haa12.cap
    have hxa99 : x12 = a9 := by have h9 := hd12; rw [hks9] at h9; simp at h9; exact h9.symm
    subst hxa99
    replace hS := hS.mono hle5
    replace hac := hac.mono hle5
    replace hcv9 := hcv9.mono hle5
    replace hv9 := hv9.mono hle5
    replace hkk9 := hkk9.mono hle5
    replace haa9 := haa9.mono hle5
    replace hM := hM.trans hle5
    refine ra0 (tch := [(6, 0, (fun _ => MK g ((s.push (.bound (decide (s.c.kind = 7)) s.c.name x9 s.e)).goes x12 s.e) yz8))]) hst5 hfr5 (.cons rfl (zC rfl) <| .cons rfl (zA (off := 4) rfl underlying25 rfl rfl sizeOf22 rfl) <| .cons rfl (zK (j := 3) rfl rfl isAgg22 rfl) <| .cons rfl (zI (k := 0) rfl rfl underlying22 sizeOf25 rfl (by omega)) <| .cons rfl (zY rfl hcv12 isAgg25 sizeOf25 rfl rfl) <| .cons rfl (zC rfl) <| .consT rfl rfl (fun _ => rfl) rfl (zj rfl (.cons rfl <| .cons rfl <| .cons rfl <| .nil) call31 (κ := .eq (.bool true)) (fun σ w m hK hr hkn => by have hle_ := KC.le hK; have hA := KC.agree hK; have hM := hM.trans hle_; have hS := hS.mono hle_; have hkc := hkc.mono hle_; have hac := hac.mono hle_; have hcv9 := hcv9.mono hle_; have hv9 := hv9.mono hle_; have hkk9 := hkk9.mono hle_; have haa9 := haa9.mono hle_; have hSz8 := hSz8.mono hle_; have hcv12 := hcv12.mono hle_; have hv12 := hv12.mono hle_; have hkk12 := hkk12.mono hle_; have haa12 := haa12.mono hle_; exact Zy (s := s.push (.bound (decide (s.c.kind = 7)) s.c.name x9 s.e)) (zAQ (s := s.push (.bound (decide (s.c.kind = 7)) s.c.name x9 s.e)) (y := yz8) hA hr hSz8 hv12 hS.e))) <| .cons rfl (zD rfl) <| .nil) fun a6 w6 m6 hst6 hle6 hk6 => ?_
    have hfr6 := hk6.fr (.n 2 <| .nil)
    replace hst6 := hst6.fin (L' := [_, _, _, _]) (.cons rfl <| .nil)
    clear hst5 hfr5 hk6
    obtain ⟨yz7, hst6, hSz7, hKz7⟩ := zp (k := 0) hst6 rfl
    simp only [List.set_cons_zero] at hst6
    refine hK11 _ _ ?_
    refine zN ?_
    repeat (with_reducible first | refine zH ?_ | refine zG ?_)
    exact zO hst6 hfr6 rfl (.tmp rfl <| .nil) (⟨_, (hst6.take 3).loc, yz7, (by simp only [ML, Zh, Ze]; rw [hKz7.to, hKz7.tc, hKz8.to, hKz8.tc, hKz7.co, hKz7.cc, hKz8.co, hKz8.cc]; rfl), hSz7, rfl⟩)
   ·exfalso; try simp only [nqs] at hb24x
    first | exact absurd hb24x hb24 | exact absurd hb24 hb24x | simp_all
  ·simp only [nq4] at hb24; omega
 ·skip
  have hkl9 : s.c.kids.length = r9.length + 2 := by rw [hks9]; rfl
  have hbd9 := zBj hbn
  refine rp0 hst2 hfr2 (.cons rfl (zA (off := 0) rfl underlying25 rfl rfl sizeOf3 rfl) <| .cons rfl (zK (j := 3) rfl rfl isAgg3 rfl) <| .nil) fun a3 w3 m3 hst3 hle3 hk3 => ?_
  have hfr3 := hk3.fr (.o 0 <| .o 4 <| .o 3 <| .n 23 <| .nil)
  clear hst2 hfr2 hk3
  refine hK5 _ _ ?_
  refine zT ?_
  refine zB fun _ hK14 => ?_
  refine zB fun _ hK15 => ?_
  refine rp0 hst3 hfr3 (.cons rfl (zS rfl rfl) <| .cons rfl (zD rfl) <| .nil) fun a4 w4 m4 hst4 hle4 hk4 => ?_
  have hfr4 := hk4.fr (.o 0 <| .o 4 <| .o 3 <| .o 23 <| .n 24 <| .nil)
  clear hst3 hfr3 hk4
  refine hK15 _ _ ?_
  refine zE hfr4 rfl rfl (fun hb24 => ?_) (fun hb24 => ?_)
  ·simp only [nq3] at hb24; omega
  ·try simp only [nqs] at hb24
   refine id ?_
   ·skip
    refine rp0 hst4 hfr4 (.cons rfl (zS rfl rfl) <| .cons rfl (zD rfl) <| .nil) fun a5 w5 m5 hst5 hle5 hk5 => ?_
    have hfr5 := hk5.fr (.o 0 <| .o 4 <| .o 3 <| .o 23 <| .n 24 <| .nil)
    clear hst4 hfr4 hk5
    refine hK14 _ _ ?_
    refine zE hfr5 rfl rfl (fun hb24 => ?_) (fun hb24 => ?_)
    ·try simp only [nqs] at hb24
     refine zB fun _ hK16 => ?_
     have zq2 := hle4.trans hle5
     have zq3 := hle3.trans zq2
     replace hkc := hkc.mono zq3
     obtain ⟨p17, vs17, x17, ho17, hd17, hm_x17, ht17, hcv17, hl17, hv17⟩ := hkc.nth (k := 1) (by omega)
     cases ho17
     obtain ⟨⟨oK17, cK17, oA17, cA17⟩, rfl, ⟨hik17, hin17⟩, hkk17, haa17⟩ := hv17.open_
     dsimp only at hkk17 haa17
     have hbg17 := hkk17.big; have hcp17 := hkk17.cap; have hbh17 := haa17.big; have hcq17 := haa17.cap
     have hxd99 : x17 = d9 := by have h9 := hd17; rw [hks9] at h9; simp at h9; exact h9.symm
     subst hxd99
     replace hS := hS.mono zq3
     replace hac := hac.mono zq3
     replace hM := hM.trans zq3
     refine zc (tch := [(13, 0, (fun _ => MK g (s.push (.bound (decide (s.c.kind = 7)) s.c.name x17 s.e)) ⟨⟨_, ck, _, ca⟩, pe, yv, pv, fo, fc, co, cc, io, ic, mo, to, tc⟩))]) (fun _ => zw) hst5 hfr5 (by kernel_rfl) (by kernel_rfl) (by kernel_rfl) (.cons rfl (zC rfl) <| .cons rfl (zA (off := 0) rfl underlying25 rfl rfl sizeOf3 rfl) <| .cons rfl (zK (j := 3) rfl rfl isAgg3 rfl) <| .cons rfl (zS rfl rfl) <| .cons rfl (zA (off := 1) rfl underlying25 rfl rfl sizeOf9 rfl) <| .cons rfl (zK (j := 3) rfl rfl isAgg9 rfl) <| .cons rfl (zA (off := 4) rfl underlying25 rfl rfl sizeOf22 rfl) <| .cons rfl (zK (j := 3) rfl rfl isAgg22 rfl) <| .cons rfl (zI (k := 1) rfl rfl underlying22 sizeOf25 rfl (by omega)) <| .cons rfl (zY rfl hcv17 isAgg25 sizeOf25 rfl rfl) <| .cons rfl (zC rfl) <| .cons rfl (zQ (.cons rfl <| .cons rfl <| .cons rfl <| .cons rfl <| .nil) underlying108 zeroValue108 (.cons sizeOf4 <| .cons sizeOf9 <| .cons sizeOf25 <| .cons sizeOf67 <| .nil) rfl) <| .cons rfl (zDj rfl underlying108 rfl) <| .consT rfl rfl (fun _ => rfl) rfl (zj rfl (.cons rfl <| .cons rfl <| .nil) call45 (κ := .ex (MP.anyV)) (fun σ w m hK hr hkn => by have hle_ := KC.le hK; have hA := KC.agree hK; have hM := hM.trans hle_; have hS := hS.mono hle_; have hkc := hkc.mono hle_; have hac := hac.mono hle_; have hcv17 := hcv17.mono hle_; have hv17 := hv17.mono hle_; have hkk17 := hkk17.mono hle_; have haa17 := haa17.mono hle_; exact zDo (s := s) (zDk (s := s) (y := ⟨⟨_, ck, _, ca⟩, pe, yv, pv, fo, fc, co, cc, io, ic, mo, to, tc⟩) (f := (.bound (decide (s.c.kind = 7)) s.c.name x17 s.e)) hA hr hS (by simp only [FmR]; exact ⟨_, _, rfl, hv17, hS.e⟩) (by omega)))) <| .nil) fun a6 w6 m6 hst6 hle6 hk6 => ?_
     have hfr6 := hk6.fr (.o 0 <| .o 4 <| .o 3 <| .nil)
     obtain ⟨y18, e18, hy18⟩ := hk6.ex 40 rfl
     replace hst6 := hst6.fin (L' := [_, _, _, _]) (.cons e18 <| .nil)
     clear hst5 hfr5 hk6
     obtain ⟨yz8, hst6, hSz8, hKz8⟩ := zp (k := 0) hst6 rfl
     simp only [List.set_cons_zero] at hst6
     refine hK16 _ _ ?_
     refine zB fun _ hK19 => ?_
     replace hkc := hkc.mono hle6
     obtain ⟨p20, vs20, x20, ho20, hd20, hm_x20, ht20, hcv20, hl20, hv20⟩ := hkc.nth (k := 0) (by omega)
     cases ho20
     obtain ⟨⟨oK20, cK20, oA20, cA20⟩, rfl, ⟨hik20, hin20⟩, hkk20, haa20⟩ := hv20.open_
     dsimp only at hkk20 haa20
     have hbg20 := hkk20.big; have hcp20 := hkk20.cap; have hbh20 := haa20.big; have hcq20 := haa20.cap
     have hxa99 : x20 = a9 := by have h9 := hd20; rw [hks9] at h9; simp at h9; exact h9.symm
     subst hxa99
     replace hS := hS.mono hle6
     replace hac := hac.mono hle6
     replace hcv17 := hcv17.mono hle6
     replace hv17 := hv17.mono hle6
     replace hkk17 := hkk17.mono hle6
     replace haa17 := haa17.mono hle6
     replace hM := hM.trans hle6
     refine ra0 (tch := [(6, 0, (fun _ => MK g ((s.push (.bound (decide (s.c.kind = 7)) s.c.name x17 s.e)).goes x20 s.e) yz8))]) hst6 hfr6 (.cons rfl (zC rfl) <| .cons rfl (zA (off := 4) rfl underlying25 rfl rfl sizeOf22 rfl) <| .cons rfl (zK (j := 3) rfl rfl isAgg22 rfl) <| .cons rfl (zI (k := 0) rfl rfl underlying22 sizeOf25 rfl (by omega)) <| .cons rfl (zY rfl hcv20 isAgg25 sizeOf25 rfl rfl) <| .cons rfl (zC rfl) <| .consT rfl rfl (fun _ => rfl) rfl (zj rfl (.cons rfl <| .cons rfl <| .cons rfl <| .nil) call31 (κ := .eq (.bool true)) (fun σ w m hK hr hkn => by have hle_ := KC.le hK; have hA := KC.agree hK; have hM := hM.trans hle_; have hS := hS.mono hle_; have hkc := hkc.mono hle_; have hac := hac.mono hle_; have hcv17 := hcv17.mono hle_; have hv17 := hv17.mono hle_; have hkk17 := hkk17.mono hle_; have haa17 := haa17.mono hle_; have hSz8 := hSz8.mono hle_; have hcv20 := hcv20.mono hle_; have hv20 := hv20.mono hle_; have hkk20 := hkk20.mono hle_; have haa20 := haa20.mono hle_; exact Zy (s := s.push (.bound (decide (s.c.kind = 7)) s.c.name x17 s.e)) (zAQ (s := s.push (.bound (decide (s.c.kind = 7)) s.c.name x17 s.e)) (y := yz8) hA hr hSz8 hv20 hS.e))) <| .cons rfl (zD rfl) <| .nil) fun a7 w7 m7 hst7 hle7 hk7 => ?_
     have hfr7 := hk7.fr (.n 2 <| .nil)
     replace hst7 := hst7.fin (L' := [_, _, _, _]) (.cons rfl <| .nil)
     clear hst6 hfr6 hk7
     obtain ⟨yz7, hst7, hSz7, hKz7⟩ := zp (k := 0) hst7 rfl
     simp only [List.set_cons_zero] at hst7
     refine hK19 _ _ ?_
     refine zN ?_
     repeat (with_reducible first | refine zH ?_ | refine zG ?_)
     exact zO hst7 hfr7 rfl (.tmp rfl <| .nil) (⟨_, (hst7.take 3).loc, yz7, (by simp only [ML, Zh, Ze]; rw [hKz7.to, hKz7.tc, hKz8.to, hKz8.tc, hKz7.co, hKz7.cc, hKz8.co, hKz8.cc]; rfl), hSz7, rfl⟩)
    ·simp only [nq4] at hb24; omega
 ·skip
  have hkl9 : s.c.kids.length = r9.length + 2 := by rw [hks9]; rfl
  refine rp0 hst2 hfr2 (.cons rfl (zA (off := 0) rfl underlying25 rfl rfl sizeOf3 rfl) <| .cons rfl (zK (j := 3) rfl rfl isAgg3 rfl) <| .nil) fun a3 w3 m3 hst3 hle3 hk3 => ?_
  have hfr3 := hk3.fr (.o 0 <| .o 4 <| .o 3 <| .n 23 <| .nil)
  clear hst2 hfr2 hk3
  refine hK5 _ _ ?_
  refine zT ?_
  refine zB fun _ hK22 => ?_
  refine zB fun _ hK23 => ?_
  refine rp0 hst3 hfr3 (.cons rfl (zS rfl rfl) <| .cons rfl (zD rfl) <| .nil) fun a4 w4 m4 hst4 hle4 hk4 => ?_
  have hfr4 := hk4.fr (.o 0 <| .o 4 <| .o 3 <| .o 23 <| .n 24 <| .nil)
  clear hst3 hfr3 hk4
  refine hK23 _ _ ?_
  refine zE hfr4 rfl rfl (fun hb24 => ?_) (fun hb24 => ?_)
  ·simp only [nq3] at hb24; omega
  ·try simp only [nqs] at hb24
   refine rp0 hst4 hfr4 (.cons rfl (zS rfl rfl) <| .cons rfl (zD rfl) <| .nil) fun a5 w5 m5 hst5 hle5 hk5 => ?_
   have hfr5 := hk5.fr (.o 0 <| .o 4 <| .o 3 <| .o 23 <| .n 24 <| .nil)
   clear hst4 hfr4 hk5
   refine hK22 _ _ ?_
   refine zE hfr5 rfl rfl (fun hb24 => ?_) (fun hb24 => ?_)
   ·simp only [nq3] at hb24; omega
   ·try simp only [nqs] at hb24
    refine zB fun _ hK24 => ?_
    refine rp0 hst5 hfr5 (.cons rfl (zS rfl rfl) <| .cons rfl (zD rfl) <| .nil) fun a6 w6 m6 hst6 hle6 hk6 => ?_
    have hfr6 := hk6.fr (.o 0 <| .o 4 <| .o 3 <| .o 23 <| .n 48 <| .nil)
    clear hst5 hfr5 hk6
    refine hK24 _ _ ?_
    refine zE hfr6 rfl rfl (fun hb48 => ?_) (fun hb48 => ?_)
    ·try simp only [nqs] at hb48
     refine zB fun _ hK25 => ?_
     have zq4 := hle5.trans hle6
     have zq5 := hle4.trans zq4
     have zq6 := hle3.trans zq5
     replace hkc := hkc.mono zq6
     obtain ⟨p26, vs26, x26, ho26, hd26, hm_x26, ht26, hcv26, hl26, hv26⟩ := hkc.nth (k := 0) (by omega)
     cases ho26
     obtain ⟨⟨oK26, cK26, oA26, cA26⟩, rfl, ⟨hik26, hin26⟩, hkk26, haa26⟩ := hv26.open_
     dsimp only at hkk26 haa26
     have hbg26 := hkk26.big; have hcp26 := hkk26.cap; have hbh26 := haa26.big; have hcq26 := haa26.cap
     have hxa99 : x26 = a9 := by have h9 := hd26; rw [hks9] at h9; simp at h9; exact h9.symm
     subst hxa99
     replace hst6 := hst6.more (r := .free) trivial List.nodup_nil (by simp [Res.blocks])
     refine zc (tch := [(13, 4, (fun v => .blk v _)), (14, 4, (fun v => .blkx v _ _))]) (fun _ => zw) hst6 hfr6 (by kernel_rfl) (by kernel_rfl) (by kernel_rfl) (.cons rfl (zQ (.cons rfl <| .nil) underlying31 zeroValue31 (.cons sizeOf3 <| .cons sizeOf3 <| .cons sizeOf9 <| .cons sizeOf29 <| .nil) rfl) <| .cons rfl (zA (off := 1) rfl underlying25 rfl rfl sizeOf9 rfl) <| .cons rfl (zK (j := 3) rfl rfl isAgg9 rfl) <| .cons rfl (zA (off := 2) rfl underlying25 rfl rfl sizeOf9 rfl) <| .cons rfl (zK (j := 3) rfl rfl isAgg9 rfl) <| .cons rfl (zA (off := 4) rfl underlying25 rfl rfl sizeOf22 rfl) <| .cons rfl (zK (j := 3) rfl rfl isAgg22 rfl) <| .cons rfl (zI (k := 0) rfl rfl underlying22 sizeOf25 rfl (by omega)) <| .cons rfl (zY rfl hcv26 isAgg25 sizeOf25 rfl rfl) <| .cons rfl (zC rfl) <| .cons rfl (zQ (.cons rfl <| .cons rfl <| .cons rfl <| .cons rfl <| .nil) underlying110 zeroValue110 (.cons sizeOf9 <| .cons sizeOf9 <| .cons sizeOf25 <| .cons sizeOf67 <| .nil) rfl) <| .cons rfl (zr rfl rfl) <| .cons rfl (zAI 61 rfl rfl rfl fun y61 => zQ (.cons rfl <| .cons rfl <| .nil) underlying72 zeroValue72 (.cons sizeOf31 <| .cons sizeOf68 <| .cons sizeOf69 <| .cons sizeOf70 <| .nil) rfl) <| .consT rfl rfl (fun _ => rfl) rfl (zP zeroValue72 rfl) <| .consT rfl rfl (fun _ => rfl) rfl (zb 5 rfl rfl rfl fun y5 => z8 62 rfl rfl rfl fun y62 => za rfl rfl rfl rfl rfl sizeOf72 rfl rfl rfl) <| .nil) fun a7 w7 m7 hst7 hle7 hk7 => ?_
     have hfr7 := hk7.fr (.o 0 <| .o 4 <| .o 3 <| .nil)
     obtain ⟨g5, e27, _⟩ := hk7.ex 5 rfl
     replace hfr7 := hfr7.cons e27
     replace hst7 := hst7.fin (L' := [_, _, _, _, _]) (.cons e27 <| .cons e27 <| .nil)
     try simp only [List.take_succ_cons, List.take_zero, List.drop_succ_cons, List.drop_zero, List.cons_append, List.nil_append, List.append_nil, List.length_cons, List.length_nil, Nat.zero_add, Nat.reduceAdd] at hst7
     obtain ⟨g9, hc9, hst7⟩ := hst7.unx (k := 4) rfl (fun _ => rfl)
     clear hst6 hfr6 hk7
     have hc8 : CellsAt m7 ⟨g9, 0, none⟩ (S s.c.name :: S s.c.param :: (cdV x26 ⟨oK26, cK26, oA26, cA26⟩ ++ [.pointer pe])) := hc9
     refine hK25 _ _ ?_
     refine zB fun _ hK29 => ?_
     replace hkc := hkc.mono hle7
     obtain ⟨p30, vs30, x30, ho30, hd30, hm_x30, ht30, hcv30, hl30, hv30⟩ := hkc.nth (k := 1) (by omega)
     cases ho30
     obtain ⟨⟨oK30, cK30, oA30, cA30⟩, rfl, ⟨hik30, hin30⟩, hkk30, haa30⟩ := hv30.open_
     dsimp only at hkk30 haa30
     have hbg30 := hkk30.big; have hcp30 := hkk30.cap; have hbh30 := haa30.big; have hcq30 := haa30.cap
     have hxd99 : x30 = d9 := by have h9 := hd30; rw [hks9] at h9; simp at h9; exact h9.symm
     subst hxd99
     have zq7 := zq6.trans hle7
     replace hS := hS.mono zq7
     replace hac := hac.mono zq7
     replace hM := hM.trans zq7
     replace hcv26 := hcv26.mono hle7
     replace hv26 := hv26.mono hle7
     replace hkk26 := hkk26.mono hle7
     replace haa26 := haa26.mono hle7
     refine zc (tch := [(10, 0, (fun _ => MK g (s.goes x30 (.cons s.c.name (zCB s.c.name s.c.param x26 s.e) s.e)) ⟨⟨_, ck, _, ca⟩, pe, yv, pv, fo, fc, co, cc, io, ic, mo, to, tc⟩))]) (fun _ => zw) hst7 hfr7 (by kernel_rfl) (by kernel_rfl) (by kernel_rfl) (.cons rfl (zC rfl) <| .cons rfl (zA (off := 4) rfl underlying25 rfl rfl sizeOf22 rfl) <| .cons rfl (zK (j := 3) rfl rfl isAgg22 rfl) <| .cons rfl (zI (k := 1) rfl rfl underlying22 sizeOf25 rfl (by omega)) <| .cons rfl (zY rfl hcv30 isAgg25 sizeOf25 rfl rfl) <| .cons rfl (zC rfl) <| .cons rfl (zA (off := 1) rfl underlying25 rfl rfl sizeOf9 rfl) <| .cons rfl (zK (j := 3) rfl rfl isAgg9 rfl) <| .cons rfl (zh (j := 4) rfl rfl isAgg72 sizeOf72 rfl) <| .cons rfl (zm (φ := MP.env (.cons s.c.name (zCB s.c.name s.c.param x26 s.e) s.e)) rfl (.cons rfl <| .cons rfl <| .cons rfl <| .nil) call46 (fun w m hK => by have hle_ := KC.le hK; have hA := KC.agree hK; have hS := hS.mono hle_; have hv26 := hv26.mono hle_; have hc8 := hc8.mono hle_; exact FnG.mono (zBY (s := s.c.name) (x := (zCB s.c.name s.c.param x26 s.e)) hA hS.e (VlR.fun_ hc8 hv26 hS.e)) fun _ _ _ _ h => h)) <| .consT rfl rfl (fun _ => rfl) rfl (zb 72 rfl rfl rfl fun y72 => zj rfl (.cons rfl <| .cons rfl <| .cons rfl <| .nil) call31 (κ := .eq (.bool true)) (fun σ w m hK hr hkn => by have hle_ := KC.le hK; have hA := KC.agree hK; have hM := hM.trans hle_; have hr0_ := hK.2; have hS := hS.mono hle_; have hkc := hkc.mono hle_; have hac := hac.mono hle_; have hcv26 := hcv26.mono hle_; have hv26 := hv26.mono hle_; have hkk26 := hkk26.mono hle_; have haa26 := haa26.mono hle_; have hc8 := hc8.mono hle_; have hcv30 := hcv30.mono hle_; have hv30 := hv30.mono hle_; have hkk30 := hkk30.mono hle_; have haa30 := haa30.mono hle_; exact Zy (s := s) (zAQ (s := s) (y := ⟨⟨_, ck, _, ca⟩, pe, yv, pv, fo, fc, co, cc, io, ic, mo, to, tc⟩) hA hr hS hv30 hr0_))) <| .cons rfl (zD rfl) <| .nil) fun a8 w8 m8 hst8 hle8 hk8 => ?_
     have hfr8 := hk8.fr (.n 2 <| .nil)
     replace hst8 := hst8.fin (L' := [_, _, _, _, _]) (.cons rfl <| .nil)
     clear hst7 hfr7 hk8
     obtain ⟨yz7, hst8, hSz7, hKz7⟩ := zp (k := 0) hst8 rfl
     simp only [List.set_cons_zero] at hst8
     refine hK29 _ _ ?_
     refine zN ?_
     repeat (with_reducible first | refine zH ?_ | refine zG ?_)
     exact zO hst8 hfr8 rfl (.tmp rfl <| .nil) (⟨_, (hst8.take 3).loc, yz7, (by simp only [ML, Zh, Ze]; rw [hKz7.to, hKz7.tc, hKz7.co, hKz7.cc]; rfl), hSz7, rfl⟩)
    ·simp only [nq4] at hb48; omega
 ·skip
  have hkl9 : s.c.kids.length = r9.length + 1 := by rw [hks9]; rfl
  have hbd9 := zBj hbn
  refine rp0 hst2 hfr2 (.cons rfl (zA (off := 0) rfl underlying25 rfl rfl sizeOf3 rfl) <| .cons rfl (zK (j := 3) rfl rfl isAgg3 rfl) <| .nil) fun a3 w3 m3 hst3 hle3 hk3 => ?_
  have hfr3 := hk3.fr (.o 0 <| .o 4 <| .o 3 <| .n 23 <| .nil)
  clear hst2 hfr2 hk3
  refine hK5 _ _ ?_
  refine zT ?_
  refine zB fun _ hK32 => ?_
  refine zB fun _ hK33 => ?_
  refine rp0 hst3 hfr3 (.cons rfl (zS rfl rfl) <| .cons rfl (zD rfl) <| .nil) fun a4 w4 m4 hst4 hle4 hk4 => ?_
  have hfr4 := hk4.fr (.o 0 <| .o 4 <| .o 3 <| .o 23 <| .n 24 <| .nil)
  clear hst3 hfr3 hk4
  refine hK33 _ _ ?_
  refine zE hfr4 rfl rfl (fun hb24 => ?_) (fun hb24 => ?_)
  ·simp only [nq3] at hb24; omega
  ·try simp only [nqs] at hb24
   refine rp0 hst4 hfr4 (.cons rfl (zS rfl rfl) <| .cons rfl (zD rfl) <| .nil) fun a5 w5 m5 hst5 hle5 hk5 => ?_
   have hfr5 := hk5.fr (.o 0 <| .o 4 <| .o 3 <| .o 23 <| .n 24 <| .nil)
   clear hst4 hfr4 hk5
   refine hK32 _ _ ?_
   refine zE hfr5 rfl rfl (fun hb24 => ?_) (fun hb24 => ?_)
   ·simp only [nq3] at hb24; omega
   ·try simp only [nqs] at hb24
    refine zB fun _ hK34 => ?_
    refine rp0 hst5 hfr5 (.cons rfl (zS rfl rfl) <| .cons rfl (zD rfl) <| .nil) fun a6 w6 m6 hst6 hle6 hk6 => ?_
    have hfr6 := hk6.fr (.o 0 <| .o 4 <| .o 3 <| .o 23 <| .n 48 <| .nil)
    clear hst5 hfr5 hk6
    refine hK34 _ _ ?_
    refine zE hfr6 rfl rfl (fun hb48 => ?_) (fun hb48 => ?_)
    ·simp only [nq3] at hb48; omega
    ·try simp only [nqs] at hb48
     refine zB fun _ hK35 => ?_
     refine rp0 hst6 hfr6 (.cons rfl (zS rfl rfl) <| .cons rfl (zD rfl) <| .nil) fun a7 w7 m7 hst7 hle7 hk7 => ?_
     have hfr7 := hk7.fr (.o 0 <| .o 4 <| .o 3 <| .o 23 <| .n 74 <| .nil)
     clear hst6 hfr6 hk7
     refine hK35 _ _ ?_
     refine zE hfr7 rfl rfl (fun hb74 => ?_) (fun hb74 => ?_)
     ·try simp only [nqs] at hb74
      refine zB fun _ hK36 => ?_
      have zq8 := hle6.trans hle7
      have zq9 := hle5.trans zq8
      have zq10 := hle4.trans zq9
      have zq11 := hle3.trans zq10
      replace hS := hS.mono zq11
      replace hkc := hkc.mono zq11
      replace hac := hac.mono zq11
      replace hM := hM.trans zq11
      refine ra0 (tch := [(7, 0, (fun _ => MK g (s.put s.c.name s.c.arms s.e) ⟨⟨_, ck, _, ca⟩, pe, yv, pv, fo, fc, co, cc, io, ic, mo, to, tc⟩))]) hst7 hfr7 (.cons rfl (zC rfl) <| .cons rfl (zA (off := 1) rfl underlying25 rfl rfl sizeOf9 rfl) <| .cons rfl (zK (j := 3) rfl rfl isAgg9 rfl) <| .cons rfl (zA (off := 5) rfl underlying25 rfl rfl sizeOf23 rfl) <| .cons rfl (zK (j := 3) rfl rfl isAgg23 rfl) <| .cons rfl (zC rfl) <| .cons rfl (zQ (.cons rfl <| .cons rfl <| .cons rfl <| .nil) underlying114 zeroValue114 (.cons sizeOf9 <| .cons sizeOf23 <| .cons sizeOf67 <| .nil) rfl) <| .consT rfl rfl (fun _ => rfl) rfl (zj rfl (.cons rfl <| .cons rfl <| .nil) call47 (κ := .ex (MP.anyV)) (fun σ w m hK hr hkn => by have hle_ := KC.le hK; have hA := KC.agree hK; have hM := hM.trans hle_; have hS := hS.mono hle_; have hkc := hkc.mono hle_; have hac := hac.mono hle_; exact zDo (s := s) (put_g (s := s) (y := ⟨⟨_, ck, _, ca⟩, pe, yv, pv, fo, fc, co, cc, io, ic, mo, to, tc⟩) (q := s.c.name) (l := s.c.arms) (e := s.e) hA hr hS hac hS.e (by omega) (by omega) (by omega)))) <| .nil) fun a8 w8 m8 hst8 hle8 hk8 => ?_
      have hfr8 := hk8.fr (.o 0 <| .o 4 <| .o 3 <| .nil)
      obtain ⟨y37, e37, hy37⟩ := hk8.ex 83 rfl
      replace hst8 := hst8.fin (L' := [_, _, _, _]) (.cons e37 <| .nil)
      clear hst7 hfr7 hk8
      obtain ⟨yz8, hst8, hSz8, hKz8⟩ := zp (k := 0) hst8 rfl
      simp only [List.set_cons_zero] at hst8
      refine hK36 _ _ ?_
      refine zB fun _ hK38 => ?_
      replace hkc := hkc.mono hle8
      obtain ⟨p39, vs39, x39, ho39, hd39, hm_x39, ht39, hcv39, hl39, hv39⟩ := hkc.nth (k := 0) (by omega)
      cases ho39
      obtain ⟨⟨oK39, cK39, oA39, cA39⟩, rfl, ⟨hik39, hin39⟩, hkk39, haa39⟩ := hv39.open_
      dsimp only at hkk39 haa39
      have hbg39 := hkk39.big; have hcp39 := hkk39.cap; have hbh39 := haa39.big; have hcq39 := haa39.cap
      have hxa99 : x39 = a9 := by have h9 := hd39; rw [hks9] at h9; simp at h9; exact h9.symm
      subst hxa99
      replace hS := hS.mono hle8
      replace hac := hac.mono hle8
      replace hM := hM.trans hle8
      refine ra0 (tch := [(6, 0, (fun _ => MK g ((s.put s.c.name s.c.arms s.e).goes x39 s.e) yz8))]) hst8 hfr8 (.cons rfl (zC rfl) <| .cons rfl (zA (off := 4) rfl underlying25 rfl rfl sizeOf22 rfl) <| .cons rfl (zK (j := 3) rfl rfl isAgg22 rfl) <| .cons rfl (zI (k := 0) rfl rfl underlying22 sizeOf25 rfl (by omega)) <| .cons rfl (zY rfl hcv39 isAgg25 sizeOf25 rfl rfl) <| .cons rfl (zC rfl) <| .consT rfl rfl (fun _ => rfl) rfl (zj rfl (.cons rfl <| .cons rfl <| .cons rfl <| .nil) call31 (κ := .eq (.bool true)) (fun σ w m hK hr hkn => by have hle_ := KC.le hK; have hA := KC.agree hK; have hM := hM.trans hle_; have hS := hS.mono hle_; have hkc := hkc.mono hle_; have hac := hac.mono hle_; have hSz8 := hSz8.mono hle_; have hcv39 := hcv39.mono hle_; have hv39 := hv39.mono hle_; have hkk39 := hkk39.mono hle_; have haa39 := haa39.mono hle_; exact Zy (s := s.put s.c.name s.c.arms s.e) (zAQ (s := s.put s.c.name s.c.arms s.e) (y := yz8) hA hr hSz8 hv39 hS.e))) <| .cons rfl (zD rfl) <| .nil) fun a9 w9 m9 hst9 hle9 hk9 => ?_
      have hfr9 := hk9.fr (.n 2 <| .nil)
      replace hst9 := hst9.fin (L' := [_, _, _, _]) (.cons rfl <| .nil)
      clear hst8 hfr8 hk9
      obtain ⟨yz7, hst9, hSz7, hKz7⟩ := zp (k := 0) hst9 rfl
      simp only [List.set_cons_zero] at hst9
      refine hK38 _ _ ?_
      refine zN ?_
      repeat (with_reducible first | refine zH ?_ | refine zG ?_)
      exact zO hst9 hfr9 rfl (.tmp rfl <| .nil) (⟨_, (hst9.take 3).loc, yz7, (by simp only [ML, Zh, Ze]; rw [hKz7.to, hKz7.tc, hKz8.to, hKz8.tc, hKz7.co, hKz7.cc, hKz8.co, hKz8.cc]; rfl), hSz7, rfl⟩)
     ·simp only [nq4] at hb74; omega
 ·skip
  have hkl9 : s.c.kids.length = r9.length + 1 := by rw [hks9]; rfl
  refine rp0 hst2 hfr2 (.cons rfl (zA (off := 0) rfl underlying25 rfl rfl sizeOf3 rfl) <| .cons rfl (zK (j := 3) rfl rfl isAgg3 rfl) <| .nil) fun a3 w3 m3 hst3 hle3 hk3 => ?_
  have hfr3 := hk3.fr (.o 0 <| .o 4 <| .o 3 <| .n 23 <| .nil)
  clear hst2 hfr2 hk3
  refine hK5 _ _ ?_
  refine zT ?_
  refine zB fun _ hK41 => ?_
  refine zB fun _ hK42 => ?_
  refine rp0 hst3 hfr3 (.cons rfl (zS rfl rfl) <| .cons rfl (zD rfl) <| .nil) fun a4 w4 m4 hst4 hle4 hk4 => ?_
  have hfr4 := hk4.fr (.o 0 <| .o 4 <| .o 3 <| .o 23 <| .n 24 <| .nil)
  clear hst3 hfr3 hk4
  refine hK42 _ _ ?_
  refine zE hfr4 rfl rfl (fun hb24 => ?_) (fun hb24 => ?_)
  ·simp only [nq3] at hb24; omega
  ·try simp only [nqs] at hb24
   refine rp0 hst4 hfr4 (.cons rfl (zS rfl rfl) <| .cons rfl (zD rfl) <| .nil) fun a5 w5 m5 hst5 hle5 hk5 => ?_
   have hfr5 := hk5.fr (.o 0 <| .o 4 <| .o 3 <| .o 23 <| .n 24 <| .nil)
   clear hst4 hfr4 hk5
   refine hK41 _ _ ?_
   refine zE hfr5 rfl rfl (fun hb24 => ?_) (fun hb24 => ?_)
   ·simp only [nq3] at hb24; omega
   ·try simp only [nqs] at hb24
    refine zB fun _ hK43 => ?_
    refine rp0 hst5 hfr5 (.cons rfl (zS rfl rfl) <| .cons rfl (zD rfl) <| .nil) fun a6 w6 m6 hst6 hle6 hk6 => ?_
    have hfr6 := hk6.fr (.o 0 <| .o 4 <| .o 3 <| .o 23 <| .n 48 <| .nil)
    clear hst5 hfr5 hk6
    refine hK43 _ _ ?_
    refine zE hfr6 rfl rfl (fun hb48 => ?_) (fun hb48 => ?_)
    ·simp only [nq3] at hb48; omega
    ·try simp only [nqs] at hb48
     refine zB fun _ hK44 => ?_
     refine rp0 hst6 hfr6 (.cons rfl (zS rfl rfl) <| .cons rfl (zD rfl) <| .nil) fun a7 w7 m7 hst7 hle7 hk7 => ?_
     have hfr7 := hk7.fr (.o 0 <| .o 4 <| .o 3 <| .o 23 <| .n 74 <| .nil)
     clear hst6 hfr6 hk7
     refine hK44 _ _ ?_
     refine zE hfr7 rfl rfl (fun hb74 => ?_) (fun hb74 => ?_)
     ·simp only [nq3] at hb74; omega
     ·try simp only [nqs] at hb74
      refine zB fun _ hK45 => ?_
      refine rp0 hst7 hfr7 (.cons rfl (zS rfl rfl) <| .cons rfl (zD rfl) <| .nil) fun a8 w8 m8 hst8 hle8 hk8 => ?_
      have hfr8 := hk8.fr (.o 0 <| .o 4 <| .o 3 <| .n 91 <| .nil)
      clear hst7 hfr7 hk8
      refine hK45 _ _ ?_
      refine zE hfr8 rfl rfl (fun hb91 => ?_) (fun hb91 => ?_)
      ·try simp only [nqs] at hb91
       refine zB fun _ hK46 => ?_
       refine z7 6 (by kernel_rfl) ?_
       have zq12 := hle7.trans hle8
       have zq13 := hle6.trans zq12
       have zq14 := hle5.trans zq13
       have zq15 := hle4.trans zq14
       have zq16 := hle3.trans zq15
       replace hkc := hkc.mono zq16
       obtain ⟨p47, vs47, x47, ho47, hd47, hm_x47, ht47, hcv47, hl47, hv47⟩ := hkc.nth (k := 0) (by omega)
       cases ho47
       obtain ⟨⟨oK47, cK47, oA47, cA47⟩, rfl, ⟨hik47, hin47⟩, hkk47, haa47⟩ := hv47.open_
       dsimp only at hkk47 haa47
       have hbg47 := hkk47.big; have hcp47 := hkk47.cap; have hbh47 := haa47.big; have hcq47 := haa47.cap
       have hxa99 : x47 = a9 := by have h9 := hd47; rw [hks9] at h9; simp at h9; exact h9.symm
       subst hxa99
       replace hS := hS.mono zq16
       refine zq (tch := []) hst8 hfr8 (by kernel_rfl) (by kernel_rfl) (by kernel_rfl) (.cons rfl (zA (off := 4) rfl underlying25 rfl rfl sizeOf22 rfl) <| .cons rfl (zK (j := 3) rfl rfl isAgg22 rfl) <| .cons rfl (zI (k := 0) rfl rfl underlying22 sizeOf25 rfl (by omega)) <| .cons rfl (zY rfl hcv47 isAgg25 sizeOf25 rfl rfl) <| .cons rfl (zC rfl) <| .cons rfl (zm (φ := MP.vlb (q9.getD Zt) q9.isSome) rfl (.cons rfl <| .cons rfl <| .nil) call48 (fun w m hK => by have hle_ := KC.le hK; have hA := KC.agree hK; have hS := hS.mono hle_; have hv47 := hv47.mono hle_; exact FnG.mono (matom_c hA hv47 hS.e hq9) fun _ _ _ _ h => h)) <| .nil) fun a9 w9 m9 hst9 hle9 hk9 => ?_
       have hfr9 := hk9.fr (.o 0 <| .o 4 <| .o 3 <| .nil)
       obtain ⟨y9, e48, hv9⟩ := hk9.ex 99 rfl
       replace hfr9 := hfr9.cons e48
       clear hst8 hfr8 hk9
       dsimp only [MP.vlb, MP.mem] at hfr9 hv9
       rcases hq8 with ⟨rfl, rfl, rfl⟩ | ⟨v9, rfl, hif9⟩
       ·skip
        dsimp only [Option.getD, Option.isSome] at hfr9 hv9
        replace hst9 := hst9.more (r := .free) trivial List.nodup_nil (by simp [Res.blocks])
        refine zq (tch := [(3, 4, (fun v => .blk v _)), (4, 4, (fun v => .blk v _))]) hst9 hfr9 (by kernel_rfl) (by kernel_rfl) (by kernel_rfl) (.cons rfl (zC rfl) <| .cons rfl (zM rfl rfl) <| .cons rfl (zM rfl rfl) <| .consT rfl rfl (fun _ => rfl) rfl (zP zeroValue72 rfl) <| .consT rfl rfl (fun _ => rfl) rfl (zb 6 rfl rfl rfl fun y6 => za rfl rfl rfl rfl rfl sizeOf72 rfl rfl rfl) <| .cons rfl (zD rfl) <| .nil) fun a10 w10 m10 hst10 hle10 hk10 => ?_
        have hfr10 := hk10.fr (.o 0 <| .o 4 <| .o 3 <| .o 99 <| .n 7 <| .nil)
        obtain ⟨g6, e49, _⟩ := hk10.ex 6 rfl
        replace hfr10 := hfr10.cons e49
        replace hst10 := hst10.fin (L' := [_, _, _, _, _]) (.cons e49 <| .cons e49 <| .nil)
        try simp only [List.take_succ_cons, List.take_zero, List.drop_succ_cons, List.drop_zero, List.cons_append, List.nil_append, List.append_nil, List.length_cons, List.length_nil, Nat.zero_add, Nat.reduceAdd] at hst10
        clear hst9 hfr9 hk10
        refine hK46 _ _ ?_
        refine zB fun _ hK50 => ?_
        refine rp0 hst10 hfr10 (.cons rfl (zC rfl) <| .cons rfl (zC rfl) <| .cons rfl (zF (κ := .eq (.bool false)) (b := true) 103 rfl rfl (fun h => by simp at h)) <| .cons rfl (zF (κ := .eq (.bool false)) (b := true) 103 rfl rfl (fun h => by simp at h)) <| .cons rfl (zF (κ := .eq (.bool false)) (b := true) 103 rfl rfl (fun h => by simp at h)) <| .cons rfl (zF (κ := .eq (.bool false)) (b := true) 103 rfl rfl (fun h => by simp at h)) <| .cons rfl (zU rfl rfl rfl) <| .cons rfl (zC rfl) <| .cons rfl (zF (κ := .eq (.bool false)) (b := true) 109 rfl rfl (fun h => by simp at h)) <| .cons rfl (zF (κ := .eq (.bool false)) (b := true) 109 rfl rfl (fun h => by simp at h)) <| .cons rfl (zF (κ := .eq (.bool false)) (b := true) 109 rfl rfl (fun h => by simp at h)) <| .cons rfl (zF (κ := .eq (.bool false)) (b := true) 109 rfl rfl (fun h => by simp at h)) <| .cons rfl (zF (κ := .eq (.bool false)) (b := true) 109 rfl rfl (fun h => by simp at h)) <| .cons rfl (zF (κ := .eq (.bool false)) (b := true) 109 rfl rfl (fun h => by simp at h)) <| .cons rfl (zF (κ := .eq (.bool false)) (b := true) 109 rfl rfl (fun h => by simp at h)) <| .cons rfl (zF (κ := .eq (.bool false)) (b := true) 109 rfl rfl (fun h => by simp at h)) <| .cons rfl (zF (κ := .eq (.bool false)) (b := true) 109 rfl rfl (fun h => by simp at h)) <| .cons rfl (zF (κ := .eq (.bool false)) (b := true) 109 rfl rfl (fun h => by simp at h)) <| .cons rfl (zF (κ := .eq (.bool false)) (b := true) 109 rfl rfl (fun h => by simp at h)) <| .cons rfl (zU rfl rfl rfl) <| .cons rfl (zD rfl) <| .nil) fun a11 w11 m11 hst11 hle11 hk11 => ?_
        have hfr11 := hk11.fr (.n 2 <| .nil)
        clear hst10 hfr10 hk11
        refine hK50 _ _ ?_
        refine zN ?_
        repeat (with_reducible first | refine zH ?_ | refine zG ?_)
        have zq17 := hle10.trans hle11
        have zq18 := hle9.trans zq17
        replace hS := hS.mono zq18
        exact zO hst11 hfr11 rfl (.tmp rfl <| .nil) (by first | exact ⟨_, (hst11.take 3).loc, yz7, (by simp only [ML, Zh, Ze]; rw [hKz7.to, hKz7.tc, hKz7.co, hKz7.cc]; rfl), hSz7, (by simp [hvk9, ZS])⟩ | exact ⟨_, (hst11.take 3).loc, ⟨⟨_, ck, _, ca⟩, pe, yv, pv, fo, fc, co, cc, io, ic, mo, to, tc⟩, rfl, hS, (by first | rfl | simp [hvk9, ZS])⟩)
       ·skip
        dsimp only [Option.getD, Option.isSome] at hfr9 hv9
        replace hst9 := hst9.more (r := .free) trivial List.nodup_nil (by simp [Res.blocks])
        refine zq (tch := [(3, 4, (fun v => .blk v _)), (4, 4, (fun v => .blk v _))]) hst9 hfr9 (by kernel_rfl) (by kernel_rfl) (by kernel_rfl) (.cons rfl (zC rfl) <| .cons rfl (zM rfl rfl) <| .cons rfl (zM rfl rfl) <| .consT rfl rfl (fun _ => rfl) rfl (zP zeroValue72 rfl) <| .consT rfl rfl (fun _ => rfl) rfl (zb 6 rfl rfl rfl fun y6 => za rfl rfl rfl rfl rfl sizeOf72 rfl rfl rfl) <| .cons rfl (zD rfl) <| .nil) fun a10 w10 m10 hst10 hle10 hk10 => ?_
        have hfr10 := hk10.fr (.o 0 <| .o 4 <| .o 3 <| .o 99 <| .n 7 <| .nil)
        obtain ⟨g6, e52, _⟩ := hk10.ex 6 rfl
        replace hfr10 := hfr10.cons e52
        replace hst10 := hst10.fin (L' := [_, _, _, _, _]) (.cons e52 <| .cons e52 <| .nil)
        try simp only [List.take_succ_cons, List.take_zero, List.drop_succ_cons, List.drop_zero, List.cons_append, List.nil_append, List.append_nil, List.length_cons, List.length_nil, Nat.zero_add, Nat.reduceAdd] at hst10
        clear hst9 hfr9 hk10
        refine hK46 _ _ ?_
        refine zB fun _ hK53 => ?_
        rcases if_ways hif9 with ⟨hvk9, hvn9, d9, hdk9, rfl, rfl⟩ | ⟨hvk9, rfl, rfl⟩
        ·skip
         have hdl9 := (List.getElem?_eq_some_iff.1 hdk9).1
         have zq19 := hle9.trans hle10
         replace hkc := hkc.mono zq19
         obtain ⟨p54, vs54, x54, ho54, hd54, hm_x54, ht54, hcv54, hl54, hv54⟩ := hkc.nth (k := ((2-v9.n).toNat)) (by omega)
         cases ho54
         obtain ⟨⟨oK54, cK54, oA54, cA54⟩, rfl, ⟨hik54, hin54⟩, hkk54, haa54⟩ := hv54.open_
         dsimp only at hkk54 haa54
         have hbg54 := hkk54.big; have hcp54 := hkk54.cap; have hbh54 := haa54.big; have hcq54 := haa54.cap
         have hxd9 : x54 = d9 := by have h9 := zAl hd54; rw [hdk9] at h9; injection h9 with h9; exact h9.symm
         subst hxd9
         have zq20 := zq16.trans zq19
         replace hac := hac.mono zq20
         replace hM := hM.trans zq20
         replace hS := hS.mono zq19
         replace hcv47 := hcv47.mono zq19
         replace hv47 := hv47.mono zq19
         replace hkk47 := hkk47.mono zq19
         replace haa47 := haa47.mono zq19
         replace hv9 := hv9.mono hle10
         refine ra0 (tch := [(18, 0, (fun _ => MK g (s.goes x54 s.e) ⟨⟨_, ck, _, ca⟩, pe, yv, pv, fo, fc, co, cc, io, ic, mo, to, tc⟩))]) hst10 hfr10 (.cons rfl (zC rfl) <| .cons rfl (zC rfl) <| .cons rfl (zA (off := 0) rfl underlying72 rfl rfl sizeOf31 rfl) <| .cons rfl (zA (off := 0) rfl underlying31 rfl rfl sizeOf3 rfl) <| .cons rfl (zK (k := 0) (j := 4) rfl rfl isAgg3 rfl) <| .cons rfl (zS rfl rfl) <| .cons rfl (zU rfl rfl rfl) <| .cons rfl (zC rfl) <| .cons rfl (zC rfl) <| .cons rfl (zA (off := 4) rfl underlying25 rfl rfl sizeOf22 rfl) <| .cons rfl (zK (j := 3) rfl rfl isAgg22 rfl) <| .cons rfl (zA (off := 0) rfl underlying72 rfl rfl sizeOf31 rfl) <| .cons rfl (zA (off := 1) rfl underlying31 rfl rfl sizeOf3 rfl) <| .cons rfl (zK (k := 1) (j := 4) rfl rfl isAgg3 rfl) <| .cons rfl (zAZ rfl rfl ⟨by omega, by omega⟩) <| .cons rfl (zI (k := ((2-v9.n).toNat)) rfl rfl underlying22 sizeOf25 (by omega) (by omega)) <| .cons rfl (zY rfl hcv54 isAgg25 sizeOf25 rfl rfl) <| .cons rfl (zC rfl) <| .consTG rfl rfl (fun _ => rfl) (.inr ⟨_, _, _, rfl, rfl, (by simp [hvk9])⟩) (zj rfl (.cons rfl <| .cons rfl <| .cons rfl <| .nil) call31 (κ := .eq (.bool true)) (fun σ w m hK hr hkn => by have hle_ := KC.le hK; have hA := KC.agree hK; have hM := hM.trans hle_; have hS := hS.mono hle_; have hkc := hkc.mono hle_; have hac := hac.mono hle_; have hcv47 := hcv47.mono hle_; have hv47 := hv47.mono hle_; have hkk47 := hkk47.mono hle_; have haa47 := haa47.mono hle_; have hv9 := hv9.mono hle_; have hcv54 := hcv54.mono hle_; have hv54 := hv54.mono hle_; have hkk54 := hkk54.mono hle_; have haa54 := haa54.mono hle_; exact Zy (s := s) (zAQ (s := s) (y := ⟨⟨_, ck, _, ca⟩, pe, yv, pv, fo, fc, co, cc, io, ic, mo, to, tc⟩) hA hr hS hv54 hS.e))) <| .cons rfl (zU rfl rfl rfl) <| .cons rfl (zD rfl) <| .nil) fun a11 w11 m11 hst11 hle11 hk11 => ?_
         have hfr11 := hk11.fr (.n 2 <| .nil)
         replace hst11 := hst11.fin (L' := [_, _, _, _, _]) (.cons rfl <| .nil)
         clear hst10 hfr10 hk11
         obtain ⟨yz7, hst11, hSz7, hKz7⟩ := zp (k := 0) hst11 rfl
         simp only [List.set_cons_zero] at hst11
         refine hK53 _ _ ?_
         refine zN ?_
         repeat (with_reducible first | refine zH ?_ | refine zG ?_)
         replace hS := hS.mono hle11
         exact zO hst11 hfr11 rfl (.tmp rfl <| .nil) (by first | exact ⟨_, (hst11.take 3).loc, yz7, (by simp only [ML, Zh, Ze]; rw [hKz7.to, hKz7.tc, hKz7.co, hKz7.cc]; rfl), hSz7, (by simp [hvk9, ZS])⟩ | exact ⟨_, (hst11.take 3).loc, ⟨⟨_, ck, _, ca⟩, pe, yv, pv, fo, fc, co, cc, io, ic, mo, to, tc⟩, rfl, hS, (by first | rfl | simp [hvk9, ZS])⟩)
        ·skip
         refine rp0 hst10 hfr10 (.cons rfl (zC rfl) <| .cons rfl (zC rfl) <| .cons rfl (zA (off := 0) rfl underlying72 rfl rfl sizeOf31 rfl) <| .cons rfl (zA (off := 0) rfl underlying31 rfl rfl sizeOf3 rfl) <| .cons rfl (zK (k := 0) (j := 4) rfl rfl isAgg3 rfl) <| .cons rfl (zS rfl rfl) <| .cons rfl (zU rfl rfl rfl) <| .cons rfl (zC rfl) <| .cons rfl (zF (κ := .eq (.bool false)) (b := true) 109 rfl rfl (fun h => by simp [hvk9] at h)) <| .cons rfl (zF (κ := .eq (.bool false)) (b := true) 109 rfl rfl (fun h => by simp [hvk9] at h)) <| .cons rfl (zF (κ := .eq (.bool false)) (b := true) 109 rfl rfl (fun h => by simp [hvk9] at h)) <| .cons rfl (zF (κ := .eq (.bool false)) (b := true) 109 rfl rfl (fun h => by simp [hvk9] at h)) <| .cons rfl (zF (κ := .eq (.bool false)) (b := true) 109 rfl rfl (fun h => by simp [hvk9] at h)) <| .cons rfl (zF (κ := .eq (.bool false)) (b := true) 109 rfl rfl (fun h => by simp [hvk9] at h)) <| .cons rfl (zF (κ := .eq (.bool false)) (b := true) 109 rfl rfl (fun h => by simp [hvk9] at h)) <| .cons rfl (zF (κ := .eq (.bool false)) (b := true) 109 rfl rfl (fun h => by simp [hvk9] at h)) <| .cons rfl (zF (κ := .eq (.bool false)) (b := true) 109 rfl rfl (fun h => by simp [hvk9] at h)) <| .cons rfl (zF (κ := .eq (.bool false)) (b := true) 109 rfl rfl (fun h => by simp [hvk9] at h)) <| .cons rfl (zF (κ := .eq (.bool false)) (b := true) 109 rfl rfl (fun h => by simp [hvk9] at h)) <| .cons rfl (zU rfl rfl rfl) <| .cons rfl (zD rfl) <| .nil) fun a11 w11 m11 hst11 hle11 hk11 => ?_
         have hfr11 := hk11.fr (.n 2 <| .nil)
         clear hst10 hfr10 hk11
         refine hK53 _ _ ?_
         refine zN ?_
         repeat (with_reducible first | refine zH ?_ | refine zG ?_)
         have zq21 := hle10.trans hle11
         have zq22 := hle9.trans zq21
         replace hS := hS.mono zq22
         exact zO hst11 hfr11 rfl (.tmp rfl <| .nil) (by first | exact ⟨_, (hst11.take 3).loc, yz7, (by simp only [ML, Zh, Ze]; rw [hKz7.to, hKz7.tc, hKz7.co, hKz7.cc]; rfl), hSz7, (by simp [hvk9, ZS])⟩ | exact ⟨_, (hst11.take 3).loc, ⟨⟨_, ck, _, ca⟩, pe, yv, pv, fo, fc, co, cc, io, ic, mo, to, tc⟩, rfl, hS, (by first | rfl | simp [hvk9, ZS])⟩)
      ·simp only [nq4] at hb91; omega
 ·skip
  refine rp0 hst2 hfr2 (.cons rfl (zA (off := 0) rfl underlying25 rfl rfl sizeOf3 rfl) <| .cons rfl (zK (j := 3) rfl rfl isAgg3 rfl) <| .nil) fun a3 w3 m3 hst3 hle3 hk3 => ?_
  have hfr3 := hk3.fr (.o 0 <| .o 4 <| .o 3 <| .n 23 <| .nil)
  clear hst2 hfr2 hk3
  refine hK5 _ _ ?_
  refine zT ?_
  refine zB fun _ hK57 => ?_
  refine zB fun _ hK58 => ?_
  refine rp0 hst3 hfr3 (.cons rfl (zS rfl rfl) <| .cons rfl (zD rfl) <| .nil) fun a4 w4 m4 hst4 hle4 hk4 => ?_
  have hfr4 := hk4.fr (.o 0 <| .o 4 <| .o 3 <| .o 23 <| .n 24 <| .nil)
  clear hst3 hfr3 hk4
  refine hK58 _ _ ?_
  refine zE hfr4 rfl rfl (fun hb24 => ?_) (fun hb24 => ?_)
  ·simp only [nq3] at hb24; omega
  ·try simp only [nqs] at hb24
   refine rp0 hst4 hfr4 (.cons rfl (zS rfl rfl) <| .cons rfl (zD rfl) <| .nil) fun a5 w5 m5 hst5 hle5 hk5 => ?_
   have hfr5 := hk5.fr (.o 0 <| .o 4 <| .o 3 <| .o 23 <| .n 24 <| .nil)
   clear hst4 hfr4 hk5
   refine hK57 _ _ ?_
   refine zE hfr5 rfl rfl (fun hb24 => ?_) (fun hb24 => ?_)
   ·simp only [nq3] at hb24; omega
   ·try simp only [nqs] at hb24
    refine zB fun _ hK59 => ?_
    refine rp0 hst5 hfr5 (.cons rfl (zS rfl rfl) <| .cons rfl (zD rfl) <| .nil) fun a6 w6 m6 hst6 hle6 hk6 => ?_
    have hfr6 := hk6.fr (.o 0 <| .o 4 <| .o 3 <| .o 23 <| .n 48 <| .nil)
    clear hst5 hfr5 hk6
    refine hK59 _ _ ?_
    refine zE hfr6 rfl rfl (fun hb48 => ?_) (fun hb48 => ?_)
    ·simp only [nq3] at hb48; omega
    ·try simp only [nqs] at hb48
     refine zB fun _ hK60 => ?_
     refine rp0 hst6 hfr6 (.cons rfl (zS rfl rfl) <| .cons rfl (zD rfl) <| .nil) fun a7 w7 m7 hst7 hle7 hk7 => ?_
     have hfr7 := hk7.fr (.o 0 <| .o 4 <| .o 3 <| .o 23 <| .n 74 <| .nil)
     clear hst6 hfr6 hk7
     refine hK60 _ _ ?_
     refine zE hfr7 rfl rfl (fun hb74 => ?_) (fun hb74 => ?_)
     ·simp only [nq3] at hb74; omega
     ·try simp only [nqs] at hb74
      refine zB fun _ hK61 => ?_
      refine rp0 hst7 hfr7 (.cons rfl (zS rfl rfl) <| .cons rfl (zD rfl) <| .nil) fun a8 w8 m8 hst8 hle8 hk8 => ?_
      have hfr8 := hk8.fr (.o 0 <| .o 4 <| .o 3 <| .n 91 <| .nil)
      clear hst7 hfr7 hk8
      refine hK61 _ _ ?_
      refine zE hfr8 rfl rfl (fun hb91 => ?_) (fun hb91 => ?_)
      ·simp only [nq3] at hb91; omega
      ·try simp only [nqs] at hb91
       refine zR ?_
       refine hK4 _ _ ?_
       refine zB fun _ hK62 => ?_
       refine zB fun _ hK63 => ?_
       refine rp0 hst8 hfr8 (.cons rfl (zA (off := 0) rfl underlying25 rfl rfl sizeOf3 rfl) <| .cons rfl (zK (j := 3) rfl rfl isAgg3 rfl) <| .cons rfl (ZA rfl rfl) <| .nil) fun a9 w9 m9 hst9 hle9 hk9 => ?_
       have hfr9 := hk9.fr (.o 0 <| .o 4 <| .o 3 <| .n 124 <| .nil)
       clear hst8 hfr8 hk9
       refine hK63 _ _ ?_
       refine zE hfr9 rfl rfl (fun hb124 => ?_) (fun hb124 => ?_)
       ·try simp only [nqs] at hb124
        refine zB fun _ hK64 => ?_
        refine z7 3 (by kernel_rfl) ?_
        have zq23 := hle8.trans hle9
        have zq24 := hle7.trans zq23
        have zq25 := hle6.trans zq24
        have zq26 := hle5.trans zq25
        have zq27 := hle4.trans zq26
        have zq28 := hle3.trans zq27
        replace hS := hS.mono zq28
        refine zq (tch := []) hst9 hfr9 (by kernel_rfl) (by kernel_rfl) (by kernel_rfl) (.cons rfl (zh (j := 3) rfl rfl isAgg25 sizeOf25 rfl) <| .cons rfl (zC rfl) <| .cons rfl (zm (φ := MP.vlb (q9.getD Zt) q9.isSome) rfl (.cons rfl <| .cons rfl <| .nil) call48 (fun w m hK => by have hle_ := KC.le hK; have hA := KC.agree hK; have hS := hS.mono hle_; exact FnG.mono (matom_c hA hS.c hS.e hq9) fun _ _ _ _ h => h)) <| .nil) fun a10 w10 m10 hst10 hle10 hk10 => ?_
        have hfr10 := hk10.fr (.o 0 <| .o 4 <| .o 3 <| .nil)
        obtain ⟨y9, e65, hv9⟩ := hk10.ex 128 rfl
        replace hfr10 := hfr10.cons e65
        clear hst9 hfr9 hk10
        dsimp only [MP.vlb, MP.mem] at hfr10 hv9
        rcases hq8 with ⟨rfl, rfl, rfl⟩ | ⟨v9, rfl, rfl, rfl⟩
        ·skip
         dsimp only [Option.getD, Option.isSome] at hfr10 hv9
         replace hst10 := hst10.more (r := .free) trivial List.nodup_nil (by simp [Res.blocks])
         refine zq (tch := [(3, 4, (fun v => .blk v _)), (4, 4, (fun v => .blk v _))]) hst10 hfr10 (by kernel_rfl) (by kernel_rfl) (by kernel_rfl) (.cons rfl (zC rfl) <| .cons rfl (zM rfl rfl) <| .cons rfl (zM rfl rfl) <| .consT rfl rfl (fun _ => rfl) rfl (zP zeroValue72 rfl) <| .consT rfl rfl (fun _ => rfl) rfl (zb 8 rfl rfl rfl fun y8 => za rfl rfl rfl rfl rfl sizeOf72 rfl rfl rfl) <| .cons rfl (zD rfl) <| .nil) fun a11 w11 m11 hst11 hle11 hk11 => ?_
         have hfr11 := hk11.fr (.o 0 <| .o 4 <| .o 3 <| .o 128 <| .n 9 <| .nil)
         obtain ⟨g8, e66, _⟩ := hk11.ex 8 rfl
         replace hfr11 := hfr11.cons e66
         replace hst11 := hst11.fin (L' := [_, _, _, _, _]) (.cons e66 <| .cons e66 <| .nil)
         try simp only [List.take_succ_cons, List.take_zero, List.drop_succ_cons, List.drop_zero, List.cons_append, List.nil_append, List.append_nil, List.length_cons, List.length_nil, Nat.zero_add, Nat.reduceAdd] at hst11
         clear hst10 hfr10 hk11
         refine hK64 _ _ ?_
         refine zB fun _ hK67 => ?_
         refine rp0 hst11 hfr11 (.cons rfl (zC rfl) <| .cons rfl (zC rfl) <| .cons rfl (zF (κ := .eq (.bool false)) (b := true) 132 rfl rfl (fun h => by simp at h)) <| .cons rfl (zF (κ := .eq (.bool false)) (b := true) 132 rfl rfl (fun h => by simp at h)) <| .cons rfl (zF (κ := .eq (.bool false)) (b := true) 132 rfl rfl (fun h => by simp at h)) <| .cons rfl (zU rfl rfl rfl) <| .cons rfl (zD rfl) <| .nil) fun a12 w12 m12 hst12 hle12 hk12 => ?_
         have hfr12 := hk12.fr (.n 2 <| .nil)
         clear hst11 hfr11 hk12
         refine hK67 _ _ ?_
         refine zN ?_
         repeat (with_reducible first | refine zH ?_ | refine zG ?_)
         have zq29 := hle11.trans hle12
         have zq30 := hle10.trans zq29
         replace hS := hS.mono zq30
         exact zO hst12 hfr12 rfl (.tmp rfl <| .nil) (by first | exact ⟨_, (hst12.take 3).loc, yz7, (by simp only [ML, Zh, Ze]; rw [hKz7.to, hKz7.tc, hKz7.co, hKz7.cc]; rfl), hSz7, rfl⟩ | exact ⟨_, (hst12.take 3).loc, ⟨⟨_, ck, _, ca⟩, pe, yv, pv, fo, fc, co, cc, io, ic, mo, to, tc⟩, rfl, hS, rfl⟩)
        ·skip
         dsimp only [Option.getD, Option.isSome] at hfr10 hv9
         replace hst10 := hst10.more (r := .free) trivial List.nodup_nil (by simp [Res.blocks])
         refine zq (tch := [(3, 4, (fun v => .blk v _)), (4, 4, (fun v => .blk v _))]) hst10 hfr10 (by kernel_rfl) (by kernel_rfl) (by kernel_rfl) (.cons rfl (zC rfl) <| .cons rfl (zM rfl rfl) <| .cons rfl (zM rfl rfl) <| .consT rfl rfl (fun _ => rfl) rfl (zP zeroValue72 rfl) <| .consT rfl rfl (fun _ => rfl) rfl (zb 8 rfl rfl rfl fun y8 => za rfl rfl rfl rfl rfl sizeOf72 rfl rfl rfl) <| .cons rfl (zD rfl) <| .nil) fun a11 w11 m11 hst11 hle11 hk11 => ?_
         have hfr11 := hk11.fr (.o 0 <| .o 4 <| .o 3 <| .o 128 <| .n 9 <| .nil)
         obtain ⟨g8, e69, _⟩ := hk11.ex 8 rfl
         replace hfr11 := hfr11.cons e69
         replace hst11 := hst11.fin (L' := [_, _, _, _, _]) (.cons e69 <| .cons e69 <| .nil)
         try simp only [List.take_succ_cons, List.take_zero, List.drop_succ_cons, List.drop_zero, List.cons_append, List.nil_append, List.append_nil, List.length_cons, List.length_nil, Nat.zero_add, Nat.reduceAdd] at hst11
         clear hst10 hfr10 hk11
         refine hK64 _ _ ?_
         refine zB fun _ hK70 => ?_
         have zq31 := hle10.trans hle11
         have zq32 := zq28.trans zq31
         replace hkc := hkc.mono zq32
         replace hac := hac.mono zq32
         replace hM := hM.trans zq32
         replace hS := hS.mono zq31
         replace hv9 := hv9.mono hle11
         refine ra0 (tch := [(4, 0, (fun _ => MK g (s.has v9) ⟨⟨_, ck, _, ca⟩, pe, yv, pv, fo, fc, co, cc, io, ic, mo, to, tc⟩))]) hst11 hfr11 (.cons rfl (zC rfl) <| .cons rfl (zC rfl) <| .cons rfl (zC rfl) <| .cons rfl (zh (j := 4) rfl rfl isAgg72 sizeOf72 rfl) <| .consTG rfl rfl (fun _ => rfl) (.inr ⟨_, _, _, rfl, rfl, rfl⟩) (zj rfl (.cons rfl <| .cons rfl <| .nil) call49 (κ := .eq (.bool true)) (fun σ w m hK hr hkn => by have hle_ := KC.le hK; have hA := KC.agree hK; have hM := hM.trans hle_; have hS := hS.mono hle_; have hkc := hkc.mono hle_; have hac := hac.mono hle_; have hv9 := hv9.mono hle_; exact Zy (s := s) (zBu (s := s) (x := v9) (y := ⟨⟨_, ck, _, ca⟩, pe, yv, pv, fo, fc, co, cc, io, ic, mo, to, tc⟩) hA hr hS hv9))) <| .cons rfl (zU rfl rfl rfl) <| .cons rfl (zD rfl) <| .nil) fun a12 w12 m12 hst12 hle12 hk12 => ?_
         have hfr12 := hk12.fr (.n 2 <| .nil)
         replace hst12 := hst12.fin (L' := [_, _, _, _, _]) (.cons rfl <| .nil)
         clear hst11 hfr11 hk12
         obtain ⟨yz7, hst12, hSz7, hKz7⟩ := zp (k := 0) hst12 rfl
         simp only [List.set_cons_zero] at hst12
         refine hK70 _ _ ?_
         refine zN ?_
         repeat (with_reducible first | refine zH ?_ | refine zG ?_)
         replace hS := hS.mono hle12
         exact zO hst12 hfr12 rfl (.tmp rfl <| .nil) (by first | exact ⟨_, (hst12.take 3).loc, yz7, (by simp only [ML, Zh, Ze]; rw [hKz7.to, hKz7.tc, hKz7.co, hKz7.cc]; rfl), hSz7, rfl⟩ | exact ⟨_, (hst12.take 3).loc, ⟨⟨_, ck, _, ca⟩, pe, yv, pv, fo, fc, co, cc, io, ic, mo, to, tc⟩, rfl, hS, rfl⟩)
       ·simp only [nq4] at hb124; omega
 ·skip
  refine rp0 hst2 hfr2 (.cons rfl (zA (off := 0) rfl underlying25 rfl rfl sizeOf3 rfl) <| .cons rfl (zK (j := 3) rfl rfl isAgg3 rfl) <| .nil) fun a3 w3 m3 hst3 hle3 hk3 => ?_
  have hfr3 := hk3.fr (.o 0 <| .o 4 <| .o 3 <| .n 23 <| .nil)
  clear hst2 hfr2 hk3
  refine hK5 _ _ ?_
  refine zT ?_
  refine zB fun _ hK72 => ?_
  refine zB fun _ hK73 => ?_
  refine rp0 hst3 hfr3 (.cons rfl (zS rfl rfl) <| .cons rfl (zD rfl) <| .nil) fun a4 w4 m4 hst4 hle4 hk4 => ?_
  have hfr4 := hk4.fr (.o 0 <| .o 4 <| .o 3 <| .o 23 <| .n 24 <| .nil)
  clear hst3 hfr3 hk4
  refine hK73 _ _ ?_
  refine zE hfr4 rfl rfl (fun hb24 => ?_) (fun hb24 => ?_)
  ·simp only [nq3] at hb24; omega
  ·try simp only [nqs] at hb24
   refine rp0 hst4 hfr4 (.cons rfl (zS rfl rfl) <| .cons rfl (zD rfl) <| .nil) fun a5 w5 m5 hst5 hle5 hk5 => ?_
   have hfr5 := hk5.fr (.o 0 <| .o 4 <| .o 3 <| .o 23 <| .n 24 <| .nil)
   clear hst4 hfr4 hk5
   refine hK72 _ _ ?_
   refine zE hfr5 rfl rfl (fun hb24 => ?_) (fun hb24 => ?_)
   ·simp only [nq3] at hb24; omega
   ·try simp only [nqs] at hb24
    refine zB fun _ hK74 => ?_
    refine rp0 hst5 hfr5 (.cons rfl (zS rfl rfl) <| .cons rfl (zD rfl) <| .nil) fun a6 w6 m6 hst6 hle6 hk6 => ?_
    have hfr6 := hk6.fr (.o 0 <| .o 4 <| .o 3 <| .o 23 <| .n 48 <| .nil)
    clear hst5 hfr5 hk6
    refine hK74 _ _ ?_
    refine zE hfr6 rfl rfl (fun hb48 => ?_) (fun hb48 => ?_)
    ·simp only [nq3] at hb48; omega
    ·try simp only [nqs] at hb48
     refine zB fun _ hK75 => ?_
     refine rp0 hst6 hfr6 (.cons rfl (zS rfl rfl) <| .cons rfl (zD rfl) <| .nil) fun a7 w7 m7 hst7 hle7 hk7 => ?_
     have hfr7 := hk7.fr (.o 0 <| .o 4 <| .o 3 <| .o 23 <| .n 74 <| .nil)
     clear hst6 hfr6 hk7
     refine hK75 _ _ ?_
     refine zE hfr7 rfl rfl (fun hb74 => ?_) (fun hb74 => ?_)
     ·simp only [nq3] at hb74; omega
     ·try simp only [nqs] at hb74
      refine zB fun _ hK76 => ?_
      refine rp0 hst7 hfr7 (.cons rfl (zS rfl rfl) <| .cons rfl (zD rfl) <| .nil) fun a8 w8 m8 hst8 hle8 hk8 => ?_
      have hfr8 := hk8.fr (.o 0 <| .o 4 <| .o 3 <| .n 91 <| .nil)
      clear hst7 hfr7 hk8
      refine hK76 _ _ ?_
      refine zE hfr8 rfl rfl (fun hb91 => ?_) (fun hb91 => ?_)
      ·simp only [nq3] at hb91; omega
      ·try simp only [nqs] at hb91
       refine zR ?_
       refine hK4 _ _ ?_
       refine zB fun _ hK77 => ?_
       refine zB fun _ hK78 => ?_
       refine rp0 hst8 hfr8 (.cons rfl (zA (off := 0) rfl underlying25 rfl rfl sizeOf3 rfl) <| .cons rfl (zK (j := 3) rfl rfl isAgg3 rfl) <| .cons rfl (ZA rfl rfl) <| .nil) fun a9 w9 m9 hst9 hle9 hk9 => ?_
       have hfr9 := hk9.fr (.o 0 <| .o 4 <| .o 3 <| .n 124 <| .nil)
       clear hst8 hfr8 hk9
       refine hK78 _ _ ?_
       refine zE hfr9 rfl rfl (fun hb124 => ?_) (fun hb124 => ?_)
       ·simp only [nq3] at hb124; omega
       ·try simp only [nqs] at hb124
        refine zR ?_
        refine hK77 _ _ ?_
        refine zB fun _ hK79 => ?_
        refine z7 4 (by kernel_rfl) ?_
        have zq33 := hle8.trans hle9
        have zq34 := hle7.trans zq33
        have zq35 := hle6.trans zq34
        have zq36 := hle5.trans zq35
        have zq37 := hle4.trans zq36
        have zq38 := hle3.trans zq37
        replace hS := hS.mono zq38
        replace hkc := hkc.mono zq38
        refine zq (tch := []) hst9 hfr9 (by kernel_rfl) (by kernel_rfl) (by kernel_rfl) (.cons rfl (zA (off := 4) rfl underlying25 rfl rfl sizeOf22 rfl) <| .cons rfl (zK (j := 3) rfl rfl isAgg22 rfl) <| .cons rfl (zC rfl) <| .cons rfl (zm (φ := MP.vlsb (q9.getD []) q9.isSome) rfl (.cons rfl <| .cons rfl <| .nil) call50 (fun w m hK => by have hle_ := KC.le hK; have hA := KC.agree hK; have hS := hS.mono hle_; have hkc := hkc.mono hle_; exact FnG.mono (matoms_c hA hkc hS.e hq9 hlb9) fun _ _ _ _ h => h)) <| .nil) fun a10 w10 m10 hst10 hle10 hk10 => ?_
        have hfr10 := hk10.fr (.o 0 <| .o 4 <| .o 3 <| .nil)
        obtain ⟨⟨ol9, cl9⟩, e80, hvl9⟩ := hk10.ex 141 rfl
        replace hfr10 := hfr10.cons e80
        clear hst9 hfr9 hk10
        dsimp only [MP.vlsb, MP.mem] at hfr10 hvl9
        rcases hq8 with ⟨rfl, rfl, rfl⟩ | ⟨l9, rfl, hap9⟩
        ·skip
         dsimp only [Option.getD, Option.isSome] at hfr10 hvl9
         refine zq (tch := []) hst10 hfr10 (by kernel_rfl) (by kernel_rfl) (by kernel_rfl) (.cons rfl (zC rfl) <| .cons rfl (zM rfl rfl) <| .cons rfl (zM rfl rfl) <| .cons rfl (zD rfl) <| .cons rfl (zD rfl) <| .nil) fun a11 w11 m11 hst11 hle11 hk11 => ?_
         have hfr11 := hk11.fr (.o 0 <| .o 4 <| .o 3 <| .o 141 <| .n 10 <| .n 11 <| .nil)
         clear hst10 hfr10 hk11
         refine hK79 _ _ ?_
         refine zB fun _ hK81 => ?_
         refine zB fun _ hK82 => ?_
         refine rp0 hst11 hfr11 (.cons rfl (zC rfl) <| .cons rfl (z2 rfl) <| .nil) fun a12 w12 m12 hst12 hle12 hk12 => ?_
         have hfr12 := hk12.fr (.o 0 <| .o 3 <| .o 10 <| .n 145 <| .nil)
         clear hst11 hfr11 hk12
         refine hK82 _ _ ?_
         refine zE hfr12 rfl rfl (fun hb145 => ?_) (fun hb145 => ?_)
         ·try simp only [nqs] at hb145
          refine zB fun _ hK83 => ?_
          refine rp0 hst12 hfr12 (.cons rfl (zD rfl) <| .nil) fun a13 w13 m13 hst13 hle13 hk13 => ?_
          have hfr13 := hk13.fr (.n 2 <| .nil)
          clear hst12 hfr12 hk13
          refine hK83 _ _ ?_
          refine zN ?_
          repeat (with_reducible first | refine zH ?_ | refine zG ?_)
          have zq39 := hle12.trans hle13
          have zq40 := hle11.trans zq39
          have zq41 := hle10.trans zq40
          replace hS := hS.mono zq41
          exact zO hst13 hfr13 rfl (.tmp rfl <| .nil) (⟨_, (hst13.take 3).loc, ⟨⟨_, ck, _, ca⟩, pe, yv, pv, fo, fc, co, cc, io, ic, mo, to, tc⟩, rfl, hS, rfl⟩)
         ·simp at hb145
        ·skip
         dsimp only [Option.getD, Option.isSome] at hfr10 hvl9
         have hvl8 : Vls m10 ol9 l9.length cl9 l9 := hvl9
         have hbl9 := hvl8.big; have hcl9 := hvl8.cap
         refine zq (tch := []) hst10 hfr10 (by kernel_rfl) (by kernel_rfl) (by kernel_rfl) (.cons rfl (zC rfl) <| .cons rfl (zM rfl rfl) <| .cons rfl (zM rfl rfl) <| .cons rfl (zD rfl) <| .cons rfl (zD rfl) <| .nil) fun a11 w11 m11 hst11 hle11 hk11 => ?_
         have hfr11 := hk11.fr (.o 0 <| .o 4 <| .o 3 <| .o 141 <| .n 10 <| .n 11 <| .nil)
         clear hst10 hfr10 hk11
         refine hK79 _ _ ?_
         refine zB fun _ hK85 => ?_
         refine zB fun _ hK86 => ?_
         refine rp0 hst11 hfr11 (.cons rfl (zC rfl) <| .cons rfl (z2 rfl) <| .nil) fun a12 w12 m12 hst12 hle12 hk12 => ?_
         have hfr12 := hk12.fr (.o 0 <| .o 3 <| .o 10 <| .n 145 <| .nil)
         clear hst11 hfr11 hk12
         refine hK86 _ _ ?_
         refine zE hfr12 rfl rfl (fun hb145 => ?_) (fun hb145 => ?_)
         ·simp at hb145
         ·try simp only [nqs] at hb145
          refine zR ?_
          refine hK85 _ _ ?_
          refine zB fun _ hK87 => ?_
          refine zB fun _ hK88 => ?_
          rcases app_ways hap9 with ⟨hj9, f9, w9, r9, hls9, hc9⟩ | ⟨hj9, hc9⟩ | ⟨hj9, rfl, rfl⟩ | ⟨hj9, w9, r9, hls9, hc9⟩ | ⟨hj1, hj2, hj3, hj4, w9, r9, hls9, hc9⟩
          ·skip
           have hll9 : l9.length = r9.length + 2 := by rw [hls9]; rfl
           refine rp0 hst12 hfr12 (.cons rfl (zA (off := 0) rfl underlying25 rfl rfl sizeOf3 rfl) <| .cons rfl (zK (j := 3) rfl rfl isAgg3 rfl) <| .nil) fun a13 w13 m13 hst13 hle13 hk13 => ?_
           have hfr13 := hk13.fr (.o 0 <| .o 3 <| .o 10 <| .n 147 <| .nil)
           clear hst12 hfr12 hk13
           refine hK88 _ _ ?_
           refine zT ?_
           refine zB fun _ hK89 => ?_
           refine rp0 hst13 hfr13 (.cons rfl (zS rfl rfl) <| .cons rfl (zD rfl) <| .nil) fun a14 w14 m14 hst14 hle14 hk14 => ?_
           have hfr14 := hk14.fr (.o 0 <| .o 3 <| .o 10 <| .o 147 <| .n 148 <| .nil)
           clear hst13 hfr13 hk14
           refine hK89 _ _ ?_
           refine zE hfr14 rfl rfl (fun hb148 => ?_) (fun hb148 => ?_)
           ·try simp only [nqs] at hb148
            refine zB fun _ hK90 => ?_
            have zq42 := hle13.trans hle14
            have zq43 := hle12.trans zq42
            have zq44 := hle11.trans zq43
            replace hvl8 := hvl8.mono zq44
            obtain ⟨p91, vs91, x91, ho91, hd91, hm_x91, ht91, hcv91, hl91, hv91⟩ := hvl8.nth (k := 0) (by omega)
            cases ho91
            obtain ⟨⟨oa91, ca91, pf91, ob91, cb91⟩, rfl, ⟨hi91, hj91⟩, hvk91, hcl91, hfm91, hnl91⟩ := hv91.open_
            have hbk91 := hvk91.big; have hbf91 := hfm91.big
            have hxf9 : x91 = f9 := by have h9 := hd91; rw [hls9] at h9; simp at h9; exact h9.symm
            subst hxf9
            obtain ⟨p92, vs92, x92, ho92, hd92, hm_x92, ht92, hcv92, hl92, hv92⟩ := hvl8.nth (k := 1) (by omega)
            cases ho92
            obtain ⟨⟨oa92, ca92, pf92, ob92, cb92⟩, rfl, ⟨hi92, hj92⟩, hvk92, hcl92, hfm92, hnl92⟩ := hv92.open_
            have hbk92 := hvk92.big; have hbf92 := hfm92.big
            have hxw9 : x92 = w9 := by have h9 := hd92; rw [hls9] at h9; simp at h9; exact h9.symm
            subst hxw9
            have htr9 := call_tr hc9
            have hce9 := call_ce hc9
            have zq45 := hle10.trans zq44
            have zq46 := zq38.trans zq45
            replace hac := hac.mono zq46
            replace hM := hM.trans zq46
            replace hS := hS.mono zq45
            replace hkc := hkc.mono zq45
            refine zc (tch := [(7, 0, (fun _ => MK g (s2) ⟨⟨_, ck, _, ca⟩, pe, yv, pv, fo, fc, co, cc, io, ic, mo, to, tc⟩))]) (fun _ => zw) hst14 hfr14 (by kernel_rfl) (by kernel_rfl) (by kernel_rfl) (.cons rfl (zC rfl) <| .cons rfl (zC rfl) <| .cons rfl (zI (k := 0) rfl rfl underlying68 sizeOf72 rfl (by omega)) <| .cons rfl (zY rfl hcv91 isAgg72 sizeOf72 rfl rfl) <| .cons rfl (zC rfl) <| .cons rfl (zI (k := 1) rfl rfl underlying68 sizeOf72 rfl (by omega)) <| .cons rfl (zY rfl hcv92 isAgg72 sizeOf72 rfl rfl) <| .consT rfl rfl (fun _ => rfl) rfl (zj rfl (.cons rfl <| .cons rfl <| .cons rfl <| .nil) call51 (κ := .eq (.bool b)) (fun σ w m hK hr hkn => by have hle_ := KC.le hK; have hA := KC.agree hK; have hM := hM.trans hle_; have hS := hS.mono hle_; have hkc := hkc.mono hle_; have hac := hac.mono hle_; have hvl8 := hvl8.mono hle_; have hcv91 := hcv91.mono hle_; have hv91 := hv91.mono hle_; have hvk91 := hvk91.mono hle_; have hcl91 := hcl91.mono hle_; have hfm91 := hfm91.mono hle_; have hcv92 := hcv92.mono hle_; have hv92 := hv92.mono hle_; have hvk92 := hvk92.mono hle_; have hcl92 := hcl92.mono hle_; have hfm92 := hfm92.mono hle_; exact Zy (s := s) (call_g (s := s) (y0 := ⟨⟨_, ck, _, ca⟩, pe, yv, pv, fo, fc, co, cc, io, ic, mo, to, tc⟩) hA hr hS hv91 hv92 hc9))) <| .cons rfl (zD rfl) <| .nil) fun a15 w15 m15 hst15 hle15 hk15 => ?_
            have hfr15 := hk15.fr (.n 2 <| .nil)
            replace hst15 := hst15.fin (L' := [_, _, _, _]) (.cons rfl <| .nil)
            clear hst14 hfr14 hk15
            obtain ⟨yz7, hst15, hSz7, hKz7⟩ := zp (k := 0) hst15 rfl
            simp only [List.set_cons_zero] at hst15
            refine hK90 _ _ ?_
            refine zN ?_
            repeat (with_reducible first | refine zH ?_ | refine zG ?_)
            exact zO hst15 hfr15 rfl (.tmp rfl <| .nil) (⟨_, (hst15.take 3).loc, yz7, (by simp only [ML, Zh, Ze]; rw [hKz7.to, hKz7.tc, hKz7.co, hKz7.cc, htr9, hce9]; rfl), hSz7, rfl⟩)
           ·simp only [nq4] at hb148; omega
          ·skip
           refine rp0 hst12 hfr12 (.cons rfl (zA (off := 0) rfl underlying25 rfl rfl sizeOf3 rfl) <| .cons rfl (zK (j := 3) rfl rfl isAgg3 rfl) <| .nil) fun a13 w13 m13 hst13 hle13 hk13 => ?_
           have hfr13 := hk13.fr (.o 0 <| .o 3 <| .o 10 <| .n 147 <| .nil)
           clear hst12 hfr12 hk13
           refine hK88 _ _ ?_
           refine zT ?_
           refine zB fun _ hK94 => ?_
           refine rp0 hst13 hfr13 (.cons rfl (zS rfl rfl) <| .cons rfl (zD rfl) <| .nil) fun a14 w14 m14 hst14 hle14 hk14 => ?_
           have hfr14 := hk14.fr (.o 0 <| .o 3 <| .o 10 <| .o 147 <| .n 148 <| .nil)
           clear hst13 hfr13 hk14
           refine hK94 _ _ ?_
           refine zE hfr14 rfl rfl (fun hb148 => ?_) (fun hb148 => ?_)
           ·simp only [nq3] at hb148; omega
           ·try simp only [nqs] at hb148
            refine zB fun _ hK95 => ?_
            refine rp0 hst14 hfr14 (.cons rfl (zS rfl rfl) <| .cons rfl (zD rfl) <| .nil) fun a15 w15 m15 hst15 hle15 hk15 => ?_
            have hfr15 := hk15.fr (.o 0 <| .o 3 <| .o 10 <| .o 147 <| .n 158 <| .nil)
            clear hst14 hfr14 hk15
            refine hK95 _ _ ?_
            refine zE hfr15 rfl rfl (fun hb158 => ?_) (fun hb158 => ?_)
            ·try simp only [nqs] at hb158
             refine zB fun _ hK96 => ?_
             refine z7 5 (by kernel_rfl) ?_
             refine zCO 4 (by kernel_rfl) ?_
             refine zq (tch := []) hst15 hfr15 (by kernel_rfl) (by kernel_rfl) (by kernel_rfl) (.cons rfl (zC rfl) <| .cons rfl (zA (off := 1) rfl underlying25 rfl rfl sizeOf9 rfl) <| .cons rfl (zK (j := 3) rfl rfl isAgg9 rfl) <| .cons rfl (zC rfl) <| .nil) fun a16 w16 m16 hst16 hle16 hk16 => ?_
             have hfr16 := hk16.fr (.o 0 <| .o 3 <| .o 10 <| .o 147 <| .n 160 <| .n 162 <| .n 163 <| .nil)
             clear hst15 hfr15 hk16
             have zq47 := hle15.trans hle16
             have zq48 := hle14.trans zq47
             have zq49 := hle13.trans zq48
             have zq50 := hle12.trans zq49
             have zq51 := hle11.trans zq50
             have zq52 := hle10.trans zq51
             replace hS := hS.mono zq52
             replace hvl8 := hvl8.mono zq51
             refine zFA [] [_] [_, _, _] hst16 hfr16 rfl (.cons rfl <| .cons rfl <| .cons rfl <| .nil) call52 (op_g (s := s) (y := ⟨⟨_, ck, _, ca⟩, pe, yv, pv, fo, fc, co, cc, io, ic, mo, to, tc⟩) hst16.agree (hst16.sub (A := []) (B := [_]) (rs := [_, _, _])) hS hvl8 hc9) ?_
             intro vr17 w17 m17 rs17 hst17 hle17 hp17
             obtain ⟨yz7, rfl, hSz7, hvq9⟩ := hp17
             simp only [List.nil_append, List.cons_append] at hst17
             have hfr17 := (hfr16.sub (T' := [(0, _), (3, _), (10, _), (147, _), (160, _), (162, _), (163, _)]) (.cons rfl <| .cons rfl <| .cons rfl <| .cons rfl <| .cons rfl <| .cons rfl <| .cons rfl <| .nil)).put (d := 164) (v := vr17) (by kernel_rfl) rfl
             clear hst16 hfr16
             subst hvq9
             refine zq (tch := []) hst17 hfr17 (by kernel_rfl) (by kernel_rfl) (by kernel_rfl) (.cons rfl (zD rfl) <| .nil) fun a18 w18 m18 hst18 hle18 hk18 => ?_
             have hfr18 := hk18.fr (.o 164 <| .o 0 <| .o 3 <| .o 10 <| .o 147 <| .o 160 <| .o 162 <| .o 163 <| .n 2 <| .nil)
             clear hst17 hfr17 hk18
             refine hK96 _ _ ?_
             refine zN ?_
             repeat (with_reducible first | refine zH ?_ | refine zG ?_)
             replace hSz7 := hSz7.mono hle18
             exact zO hst18 hfr18 rfl (.tmp rfl <| .nil) (⟨_, (hst18.take 3).loc, yz7, rfl, hSz7, rfl⟩)
            ·simp only [nq4] at hb158; omega
          ·skip
           refine rp0 hst12 hfr12 (.cons rfl (zA (off := 0) rfl underlying25 rfl rfl sizeOf3 rfl) <| .cons rfl (zK (j := 3) rfl rfl isAgg3 rfl) <| .nil) fun a13 w13 m13 hst13 hle13 hk13 => ?_
           have hfr13 := hk13.fr (.o 0 <| .o 3 <| .o 10 <| .n 147 <| .nil)
           clear hst12 hfr12 hk13
           refine hK88 _ _ ?_
           refine zT ?_
           refine zB fun _ hK98 => ?_
           refine rp0 hst13 hfr13 (.cons rfl (zS rfl rfl) <| .cons rfl (zD rfl) <| .nil) fun a14 w14 m14 hst14 hle14 hk14 => ?_
           have hfr14 := hk14.fr (.o 0 <| .o 3 <| .o 10 <| .o 147 <| .n 148 <| .nil)
           clear hst13 hfr13 hk14
           refine hK98 _ _ ?_
           refine zE hfr14 rfl rfl (fun hb148 => ?_) (fun hb148 => ?_)
           ·simp only [nq3] at hb148; omega
           ·try simp only [nqs] at hb148
            refine zB fun _ hK99 => ?_
            refine rp0 hst14 hfr14 (.cons rfl (zS rfl rfl) <| .cons rfl (zD rfl) <| .nil) fun a15 w15 m15 hst15 hle15 hk15 => ?_
            have hfr15 := hk15.fr (.o 0 <| .o 3 <| .o 10 <| .o 147 <| .n 158 <| .nil)
            clear hst14 hfr14 hk15
            refine hK99 _ _ ?_
            refine zE hfr15 rfl rfl (fun hb158 => ?_) (fun hb158 => ?_)
            ·simp only [nq3] at hb158; omega
            ·try simp only [nqs] at hb158
             refine zB fun _ hK100 => ?_
             refine rp0 hst15 hfr15 (.cons rfl (zS rfl rfl) <| .cons rfl (zD rfl) <| .nil) fun a16 w16 m16 hst16 hle16 hk16 => ?_
             have hfr16 := hk16.fr (.o 0 <| .o 3 <| .o 10 <| .o 147 <| .n 165 <| .nil)
             clear hst15 hfr15 hk16
             refine hK100 _ _ ?_
             refine zE hfr16 rfl rfl (fun hb165 => ?_) (fun hb165 => ?_)
             ·try simp only [nqs] at hb165
              refine zB fun _ hK101 => ?_
              have zq53 := hle15.trans hle16
              have zq54 := hle14.trans zq53
              have zq55 := hle13.trans zq54
              have zq56 := hle12.trans zq55
              have zq57 := hle11.trans zq56
              have zq58 := hle10.trans zq57
              have zq59 := zq38.trans zq58
              replace hac := hac.mono zq59
              replace hM := hM.trans zq59
              replace hS := hS.mono zq58
              replace hkc := hkc.mono zq58
              replace hvl8 := hvl8.mono zq57
              refine ra0 (tch := [(6, 0, (fun _ => MK g (s.has ⟨4, 0, s.c.name, l9, .none, []⟩) ⟨⟨_, ck, _, ca⟩, pe, yv, pv, fo, fc, co, cc, io, ic, mo, to, tc⟩))]) hst16 hfr16 (.cons rfl (zC rfl) <| .cons rfl (zA (off := 1) rfl underlying25 rfl rfl sizeOf9 rfl) <| .cons rfl (zK (j := 3) rfl rfl isAgg9 rfl) <| .cons rfl (zQ (.cons rfl <| .cons rfl <| .nil) underlying31 zeroValue31 (.cons sizeOf3 <| .cons sizeOf3 <| .cons sizeOf9 <| .cons sizeOf29 <| .nil) rfl) <| .cons rfl (zC rfl) <| .cons rfl (zQ (.cons rfl <| .cons rfl <| .nil) underlying72 zeroValue72 (.cons sizeOf31 <| .cons sizeOf68 <| .cons sizeOf69 <| .cons sizeOf70 <| .nil) rfl) <| .consT rfl rfl (fun _ => rfl) rfl (zj rfl (.cons rfl <| .cons rfl <| .nil) call49 (κ := .eq (.bool true)) (fun σ w m hK hr hkn => by have hle_ := KC.le hK; have hA := KC.agree hK; have hM := hM.trans hle_; have hS := hS.mono hle_; have hkc := hkc.mono hle_; have hac := hac.mono hle_; have hvl8 := hvl8.mono hle_; exact Zy (s := s) (zBu (s := s) (x := ⟨4, 0, s.c.name, l9, .none, []⟩) (y := ⟨⟨_, ck, _, ca⟩, pe, yv, pv, fo, fc, co, cc, io, ic, mo, to, tc⟩) hA hr hS (VlR.con hvl8)))) <| .cons rfl (zD rfl) <| .nil) fun a17 w17 m17 hst17 hle17 hk17 => ?_
              have hfr17 := hk17.fr (.n 2 <| .nil)
              replace hst17 := hst17.fin (L' := [_, _, _, _]) (.cons rfl <| .nil)
              clear hst16 hfr16 hk17
              obtain ⟨yz7, hst17, hSz7, hKz7⟩ := zp (k := 0) hst17 rfl
              simp only [List.set_cons_zero] at hst17
              refine hK101 _ _ ?_
              refine zN ?_
              repeat (with_reducible first | refine zH ?_ | refine zG ?_)
              exact zO hst17 hfr17 rfl (.tmp rfl <| .nil) (⟨_, (hst17.take 3).loc, yz7, (by simp only [ML, Zh, Ze]; rw [hKz7.to, hKz7.tc, hKz7.co, hKz7.cc]; rfl), hSz7, rfl⟩)
             ·simp only [nq4] at hb165; omega
          ·skip
           have hll9 : l9.length = r9.length + 1 := by rw [hls9]; rfl
           refine rp0 hst12 hfr12 (.cons rfl (zA (off := 0) rfl underlying25 rfl rfl sizeOf3 rfl) <| .cons rfl (zK (j := 3) rfl rfl isAgg3 rfl) <| .nil) fun a13 w13 m13 hst13 hle13 hk13 => ?_
           have hfr13 := hk13.fr (.o 0 <| .o 3 <| .o 10 <| .n 147 <| .nil)
           clear hst12 hfr12 hk13
           refine hK88 _ _ ?_
           refine zT ?_
           refine zB fun _ hK103 => ?_
           refine rp0 hst13 hfr13 (.cons rfl (zS rfl rfl) <| .cons rfl (zD rfl) <| .nil) fun a14 w14 m14 hst14 hle14 hk14 => ?_
           have hfr14 := hk14.fr (.o 0 <| .o 3 <| .o 10 <| .o 147 <| .n 148 <| .nil)
           clear hst13 hfr13 hk14
           refine hK103 _ _ ?_
           refine zE hfr14 rfl rfl (fun hb148 => ?_) (fun hb148 => ?_)
           ·simp only [nq3] at hb148; omega
           ·try simp only [nqs] at hb148
            refine zB fun _ hK104 => ?_
            refine rp0 hst14 hfr14 (.cons rfl (zS rfl rfl) <| .cons rfl (zD rfl) <| .nil) fun a15 w15 m15 hst15 hle15 hk15 => ?_
            have hfr15 := hk15.fr (.o 0 <| .o 3 <| .o 10 <| .o 147 <| .n 158 <| .nil)
            clear hst14 hfr14 hk15
            refine hK104 _ _ ?_
            refine zE hfr15 rfl rfl (fun hb158 => ?_) (fun hb158 => ?_)
            ·simp only [nq3] at hb158; omega
            ·try simp only [nqs] at hb158
             refine zB fun _ hK105 => ?_
             refine rp0 hst15 hfr15 (.cons rfl (zS rfl rfl) <| .cons rfl (zD rfl) <| .nil) fun a16 w16 m16 hst16 hle16 hk16 => ?_
             have hfr16 := hk16.fr (.o 0 <| .o 3 <| .o 10 <| .o 147 <| .n 165 <| .nil)
             clear hst15 hfr15 hk16
             refine hK105 _ _ ?_
             refine zE hfr16 rfl rfl (fun hb165 => ?_) (fun hb165 => ?_)
             ·simp only [nq3] at hb165; omega
             ·try simp only [nqs] at hb165
              refine zB fun _ hK106 => ?_
              refine rp0 hst16 hfr16 (.cons rfl (zS rfl rfl) <| .cons rfl (zD rfl) <| .nil) fun a17 w17 m17 hst17 hle17 hk17 => ?_
              have hfr17 := hk17.fr (.o 0 <| .o 3 <| .o 10 <| .n 174 <| .nil)
              clear hst16 hfr16 hk17
              refine hK106 _ _ ?_
              refine zE hfr17 rfl rfl (fun hb174 => ?_) (fun hb174 => ?_)
              ·try simp only [nqs] at hb174
               refine zB fun _ hK107 => ?_
               have zq60 := hle16.trans hle17
               have zq61 := hle15.trans zq60
               have zq62 := hle14.trans zq61
               have zq63 := hle13.trans zq62
               have zq64 := hle12.trans zq63
               have zq65 := hle11.trans zq64
               replace hvl8 := hvl8.mono zq65
               obtain ⟨p108, vs108, x108, ho108, hd108, hm_x108, ht108, hcv108, hl108, hv108⟩ := hvl8.nth (k := 0) (by omega)
               cases ho108
               obtain ⟨⟨oa108, ca108, pf108, ob108, cb108⟩, rfl, ⟨hi108, hj108⟩, hvk108, hcl108, hfm108, hnl108⟩ := hv108.open_
               have hbk108 := hvk108.big; have hbf108 := hfm108.big
               have hxf9 : x108 = w9 := by have h9 := hd108; rw [hls9] at h9; simp at h9; exact h9.symm
               subst hxf9
               have htr9 := match_tr hc9
               have hce9 := match_ce hc9
               have zq66 := hle10.trans zq65
               have zq67 := zq38.trans zq66
               replace hac := hac.mono zq67
               replace hM := hM.trans zq67
               replace hS := hS.mono zq66
               replace hkc := hkc.mono zq66
               refine zc (tch := [(6, 0, (fun _ => MK g (s2) ⟨⟨_, ck, _, ca⟩, pe, yv, pv, fo, fc, co, cc, io, ic, mo, to, tc⟩))]) (fun _ => zw) hst17 hfr17 (by kernel_rfl) (by kernel_rfl) (by kernel_rfl) (.cons rfl (zC rfl) <| .cons rfl (zC rfl) <| .cons rfl (zI (k := 0) rfl rfl underlying68 sizeOf72 rfl (by omega)) <| .cons rfl (zY rfl hcv108 isAgg72 sizeOf72 rfl rfl) <| .cons rfl (zA (off := 5) rfl underlying25 rfl rfl sizeOf23 rfl) <| .cons rfl (zK (j := 3) rfl rfl isAgg23 rfl) <| .consT rfl rfl (fun _ => rfl) rfl (zj rfl (.cons rfl <| .cons rfl <| .cons rfl <| .nil) call53 (κ := .eq (.bool b)) (fun σ w m hK hr hkn => by have hle_ := KC.le hK; have hA := KC.agree hK; have hM := hM.trans hle_; have hS := hS.mono hle_; have hkc := hkc.mono hle_; have hac := hac.mono hle_; have hvl8 := hvl8.mono hle_; have hcv108 := hcv108.mono hle_; have hv108 := hv108.mono hle_; have hvk108 := hvk108.mono hle_; have hcl108 := hcl108.mono hle_; have hfm108 := hfm108.mono hle_; exact Zy (s := s) (match_g (s := s) (y := ⟨⟨_, ck, _, ca⟩, pe, yv, pv, fo, fc, co, cc, io, ic, mo, to, tc⟩) hA hr hS hv108 hac hc9))) <| .cons rfl (zD rfl) <| .nil) fun a18 w18 m18 hst18 hle18 hk18 => ?_
               have hfr18 := hk18.fr (.n 2 <| .nil)
               replace hst18 := hst18.fin (L' := [_, _, _, _]) (.cons rfl <| .nil)
               clear hst17 hfr17 hk18
               obtain ⟨yz7, hst18, hSz7, hKz7⟩ := zp (k := 0) hst18 rfl
               simp only [List.set_cons_zero] at hst18
               refine hK107 _ _ ?_
               refine zN ?_
               repeat (with_reducible first | refine zH ?_ | refine zG ?_)
               exact zO hst18 hfr18 rfl (.tmp rfl <| .nil) (⟨_, (hst18.take 3).loc, yz7, (by simp only [ML, Zh, Ze]; rw [hKz7.to, hKz7.tc, hKz7.co, hKz7.cc, htr9, hce9]; rfl), hSz7, rfl⟩)
              ·simp only [nq4] at hb174; omega
          ·skip
           have hll9 : l9.length = r9.length + 1 := by rw [hls9]; rfl
           refine rp0 hst12 hfr12 (.cons rfl (zA (off := 0) rfl underlying25 rfl rfl sizeOf3 rfl) <| .cons rfl (zK (j := 3) rfl rfl isAgg3 rfl) <| .nil) fun a13 w13 m13 hst13 hle13 hk13 => ?_
           have hfr13 := hk13.fr (.o 0 <| .o 3 <| .o 10 <| .n 147 <| .nil)
           clear hst12 hfr12 hk13
           refine hK88 _ _ ?_
           refine zT ?_
           refine zB fun _ hK110 => ?_
           refine rp0 hst13 hfr13 (.cons rfl (zS rfl rfl) <| .cons rfl (zD rfl) <| .nil) fun a14 w14 m14 hst14 hle14 hk14 => ?_
           have hfr14 := hk14.fr (.o 0 <| .o 3 <| .o 10 <| .o 147 <| .n 148 <| .nil)
           clear hst13 hfr13 hk14
           refine hK110 _ _ ?_
           refine zE hfr14 rfl rfl (fun hb148 => ?_) (fun hb148 => ?_)
           ·simp only [nq3] at hb148; omega
           ·try simp only [nqs] at hb148
            refine zB fun _ hK111 => ?_
            refine rp0 hst14 hfr14 (.cons rfl (zS rfl rfl) <| .cons rfl (zD rfl) <| .nil) fun a15 w15 m15 hst15 hle15 hk15 => ?_
            have hfr15 := hk15.fr (.o 0 <| .o 3 <| .o 10 <| .o 147 <| .n 158 <| .nil)
            clear hst14 hfr14 hk15
            refine hK111 _ _ ?_
            refine zE hfr15 rfl rfl (fun hb158 => ?_) (fun hb158 => ?_)
            ·simp only [nq3] at hb158; omega
            ·try simp only [nqs] at hb158
             refine zB fun _ hK112 => ?_
             refine rp0 hst15 hfr15 (.cons rfl (zS rfl rfl) <| .cons rfl (zD rfl) <| .nil) fun a16 w16 m16 hst16 hle16 hk16 => ?_
             have hfr16 := hk16.fr (.o 0 <| .o 3 <| .o 10 <| .o 147 <| .n 165 <| .nil)
             clear hst15 hfr15 hk16
             refine hK112 _ _ ?_
             refine zE hfr16 rfl rfl (fun hb165 => ?_) (fun hb165 => ?_)
             ·simp only [nq3] at hb165; omega
             ·try simp only [nqs] at hb165
              refine zB fun _ hK113 => ?_
              refine rp0 hst16 hfr16 (.cons rfl (zS rfl rfl) <| .cons rfl (zD rfl) <| .nil) fun a17 w17 m17 hst17 hle17 hk17 => ?_
              have hfr17 := hk17.fr (.o 0 <| .o 3 <| .o 10 <| .n 174 <| .nil)
              clear hst16 hfr16 hk17
              refine hK113 _ _ ?_
              refine zE hfr17 rfl rfl (fun hb174 => ?_) (fun hb174 => ?_)
              ·simp only [nq3] at hb174; omega
              ·try simp only [nqs] at hb174
               refine zR ?_
               refine hK87 _ _ ?_
               refine zB fun _ hK114 => ?_
               have zq68 := hle16.trans hle17
               have zq69 := hle15.trans zq68
               have zq70 := hle14.trans zq69
               have zq71 := hle13.trans zq70
               have zq72 := hle12.trans zq71
               have zq73 := hle11.trans zq72
               replace hvl8 := hvl8.mono zq73
               obtain ⟨p115, vs115, x115, ho115, hd115, hm_x115, ht115, hcv115, hl115, hv115⟩ := hvl8.nth (k := 0) (by omega)
               cases ho115
               obtain ⟨⟨oa115, ca115, pf115, ob115, cb115⟩, rfl, ⟨hi115, hj115⟩, hvk115, hcl115, hfm115, hnl115⟩ := hv115.open_
               have hbk115 := hvk115.big; have hbf115 := hfm115.big
               have hxf9 : x115 = w9 := by have h9 := hd115; rw [hls9] at h9; simp at h9; exact h9.symm
               subst hxf9
               have htr9 := yield_tr hc9
               have hce9 := yield_ce hc9
               have zq74 := hle10.trans zq73
               have zq75 := zq38.trans zq74
               replace hac := hac.mono zq75
               replace hM := hM.trans zq75
               replace hS := hS.mono zq74
               replace hkc := hkc.mono zq74
               refine zc (tch := [(6, 0, (fun _ => MK g (s2) ⟨⟨_, ck, _, ca⟩, pe, yv, pv, fo, fc, co, cc, io, ic, mo, to, tc⟩))]) (fun _ => zw) hst17 hfr17 (by kernel_rfl) (by kernel_rfl) (by kernel_rfl) (.cons rfl (zC rfl) <| .cons rfl (zA (off := 1) rfl underlying25 rfl rfl sizeOf9 rfl) <| .cons rfl (zK (j := 3) rfl rfl isAgg9 rfl) <| .cons rfl (zC rfl) <| .cons rfl (zI (k := 0) rfl rfl underlying68 sizeOf72 rfl (by omega)) <| .cons rfl (zY rfl hcv115 isAgg72 sizeOf72 rfl rfl) <| .consT rfl rfl (fun _ => rfl) rfl (zj rfl (.cons rfl <| .cons rfl <| .cons rfl <| .nil) call54 (κ := .eq (.bool b)) (fun σ w m hK hr hkn => by have hle_ := KC.le hK; have hA := KC.agree hK; have hM := hM.trans hle_; have hS := hS.mono hle_; have hkc := hkc.mono hle_; have hac := hac.mono hle_; have hvl8 := hvl8.mono hle_; have hcv115 := hcv115.mono hle_; have hv115 := hv115.mono hle_; have hvk115 := hvk115.mono hle_; have hcl115 := hcl115.mono hle_; have hfm115 := hfm115.mono hle_; exact Zy (s := s) (yield_g (s := s) (y := ⟨⟨_, ck, _, ca⟩, pe, yv, pv, fo, fc, co, cc, io, ic, mo, to, tc⟩) hA hr hS hv115 hc9))) <| .cons rfl (zD rfl) <| .nil) fun a18 w18 m18 hst18 hle18 hk18 => ?_
               have hfr18 := hk18.fr (.n 2 <| .nil)
               replace hst18 := hst18.fin (L' := [_, _, _, _]) (.cons rfl <| .nil)
               clear hst17 hfr17 hk18
               obtain ⟨yz7, hst18, hSz7, hKz7⟩ := zp (k := 0) hst18 rfl
               simp only [List.set_cons_zero] at hst18
               refine hK114 _ _ ?_
               refine zN ?_
               repeat (with_reducible first | refine zH ?_ | refine zG ?_)
               exact zO hst18 hfr18 rfl (.tmp rfl <| .nil) (⟨_, (hst18.take 3).loc, yz7, (by simp only [ML, Zh, Ze]; rw [hKz7.to, hKz7.tc, hKz7.co, hKz7.cc, htr9, hce9]; rfl), hSz7, rfl⟩)
end Go.Proofs.Ytnppknioifgdfaa
namespace Go.Proofs.Ytnppknioifgdfaa
set_option linter.all false
open Go.RowKit
inductive VT where
 | mk (kind n : Int) (name : Str) (kids : List VT)
def VT.kind : VT → Int | ⟨k, _, _, _⟩ => k
def VT.n : VT → Int | ⟨_, n, _, _⟩ => n
def VT.name : VT → Str | ⟨_, _, s, _⟩ => s
def VT.kids : VT → List VT | ⟨_, _, _, ks⟩ => ks
mutual
/-- These cells are the value's. -/
def VR (m : Mem) : VT → List Value → Prop
 | ⟨k, n, s, ks⟩, vs => ∃ o c, vs = [.int .i64 k, .int .i64 n, S s, .slice o ks.length c] ∧ ks.length ≤ c ∧ ks.length ≤ 9223372036854775807 ∧ zo k ∧ zo n ∧ VRs m o 0 ks
def VRs (m : Mem) (o : Option Addr) : Nat → List VT → Prop
 | _, [] => True
 | i, t :: ts => (∃ p vs, o = some p ∧ CellsAt m (p.add (i * 4)) vs ∧ VR m t vs) ∧ VRs m o (i + 1) ts
end
theorem VRs.at_ {m : Mem} {o : Option Addr} : ∀ {ts : List VT} {i j : Nat} {t : VT}, VRs m o i ts → ts[j]? = some t → ∃ p vs, o = some p ∧ CellsAt m (p.add ((i + j) * 4)) vs ∧ VR m t vs
 | [], _, _, _, _, h => by simp at h
 | t :: ts, i, 0, t', h, e => by
  simp only [List.getElem?_cons_zero, Option.some.injEq] at e; subst e
  simp only [VRs] at h; exact h.1
 | t :: ts, i, j + 1, t', h, e => by
  simp only [VRs] at h
  obtain ⟨p, vs, h1, h2, h3⟩ := VRs.at_ (i := i + 1) h.2 (by simpa using e)
  exact ⟨p, vs, h1, by rw [show i + (j + 1) = i + 1 + j by omega]; exact h2, h3⟩
theorem VT.kid_lt {t u : VT} (h : u ∈ t.kids) : SizeOf.sizeOf u < SizeOf.sizeOf t := by
 obtain ⟨k, n, s, ks⟩ := t
 have := List.sizeOf_lt_of_mem h
 simp only [VT.kids] at this
 simp only [VT.mk.sizeOf_spec]; omega
theorem VT.rec_ {p : VT → Prop} (h : ∀ t, (∀ u ∈ t.kids, p u) → p t) (t : VT) : p t := h t fun u hu => VT.rec_ h u
termination_by SizeOf.sizeOf t
decreasing_by exact VT.kid_lt hu
abbrev VKids (m : Mem) (o : Option Addr) (n c : Nat) (l : List VT) : Prop := Sl (fun m vs t => VR m t vs) 4 m o n c l
theorem VR.len {m : Mem} {t : VT} {vs : List Value} (h : VR m t vs) : vs.length = 4 := by
 obtain ⟨k, n, s, ks⟩ := t
 simp only [VR] at h
 obtain ⟨o, c, rfl, _⟩ := h; rfl
theorem VR.open_ {m : Mem} {t : VT} {vs : List Value} (h : VR m t vs) : ∃ o c, vs = [.int .i64 t.kind, .int .i64 t.n, S t.name, .slice o t.kids.length c] ∧ VKids m o t.kids.length c t.kids ∧ zo t.kind ∧ zo t.n := by
 obtain ⟨k, n, s, ks⟩ := t
 simp only [VR] at h
 obtain ⟨o, c, e, h1, h2, h3, h4, h5⟩ := h
 exact ⟨o, c, e, ⟨rfl, h1, h2, fun i x hx => by
  obtain ⟨p, vs, e1, e2, e3⟩ := VRs.at_ h5 hx
  exact ⟨p, vs, e1, by rw [Nat.zero_add] at e2; exact e2, e3.len, e3⟩⟩, h3, h4⟩
mutual
theorem VR.mono {m m' : Mem} (hm : MLe m m') : ∀ {t : VT} {vs : List Value}, VR m t vs → VR m' t vs
 | ⟨k, n, s, ks⟩, vs, h => by
  simp only [VR] at h ⊢
  obtain ⟨o, c, e, h1, h2, h3, h4, h5⟩ := h
  exact ⟨o, c, e, h1, h2, h3, h4, VRs.mono hm h5⟩
theorem VRs.mono {m m' : Mem} (hm : MLe m m') {o : Option Addr} : ∀ {ts : List VT} {i : Nat}, VRs m o i ts → VRs m' o i ts
 | [], _, _ => by simp [VRs]
 | t :: ts, i, h => by
  simp only [VRs] at h ⊢
  obtain ⟨⟨p, vs, e1, e2, e3⟩, h2⟩ := h
  exact ⟨⟨p, vs, e1, e2.mono hm, VR.mono hm e3⟩, VRs.mono hm h2⟩
end
theorem VKids.mono {m m' : Mem} {o : Option Addr} {n c : Nat} {l : List VT} (h : VKids m o n c l) (hm : MLe m m') : VKids m' o n c l := Sl.mono h (fun _ _ e => e.mono hm) hm
theorem VR.build {m : Mem} {k n : Int} {s : Str} {o : Option Addr} {c : Nat} {ks : List VT} (h : VKids m o ks.length c ks) (hk : zo k) (hn : zo n) : VR m ⟨k, n, s, ks⟩ [.int .i64 k, .int .i64 n, S s, .slice o ks.length c] := by
 simp only [VR]
 refine ⟨o, c, rfl, h.cap, h.big, hk, hn, ?_⟩
 have key : ∀ (ts : List VT) (i : Nat), (∀ j t, ts[j]? = some t → ks[i + j]? = some t) → VRs m o i ts := by
  intro ts
  induction ts with
  | nil => intro i _; simp [VRs]
  | cons t ts ih =>
   intro i hi
   simp only [VRs]
   obtain ⟨p, vs, e1, e2, _, e3⟩ := h.at_ i t (by simpa using hi 0 t rfl)
   exact ⟨⟨p, vs, e1, e2, e3⟩, ih (i + 1) fun j u hj => by have := hi (j + 1) u (by simpa using hj); rw [show i + 1 + j = i + (j + 1) by omega]; exact this⟩
 exact key ks 0 fun j t hj => by rw [Nat.zero_add]; exact hj
theorem VR.leaf {m : Mem} {k n : Int} {s : Str} {o : Option Addr} (hk : zo k) (hn : zo n) : VR m ⟨k, n, s, []⟩ [.int .i64 k, .int .i64 n, S s, .slice o 0 0] := VR.build (ks := []) Sl.empty hk hn
theorem VR.one {m : Mem} {t : VT} {vs : List Value} (h : VR m t vs) : vs.all (·.oneCell') = true := by obtain ⟨o, c, rfl, _⟩ := h.open_; rfl
instance : RepR (fun m vs t => VR m t vs) := ⟨fun hm h => VR.mono hm h, fun h => VR.one h⟩
abbrev vtV (t : VT) (o : Option Addr) (c : Nat) : List Value := [.int .i64 t.kind, .int .i64 t.n, S t.name, .slice o t.kids.length c]
def MP.vt (t : VT) : MP := MP.mem (fun y : Option Addr × Nat => .agg (vtV t y.1 y.2).toArray) (fun y m => VR m t (vtV t y.1 y.2)) fun hm h => VR.mono hm h
abbrev VT.z : VT := ⟨0, 0, [], []⟩
end Go.Proofs.Ytnppknioifgdfaa
