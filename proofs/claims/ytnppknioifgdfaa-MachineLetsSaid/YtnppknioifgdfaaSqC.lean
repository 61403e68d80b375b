/-
  Texts that the law rests on: Mach2, Mach3, Mach4, Mach5, Mach6, Mach7. Conditions: those of each theorem.
-/
import Derived.Test.YtnppknioifgdfaaSqB
namespace Go.Proofs.Ytnppknioifgdfaa
open Go.Proofs.Try
set_option linter.all false
set_option maxRecDepth 4000
open Go.RowKit
structure Mc where
 c : Cd
 e : Env
 at_ : Bool
 v : Vl
 ev : Ev
 next : Int
 frames : List Fm
 cells : List Vl
 input : List Int
 kind : Int
 trace : List Int
 steps : Int
 konts : Int
 eff : List (Str × Str)
structure McY where
 yc : CdY
 pe : Option Addr
 yv : VlY
 pv : Option Addr
 fo : Option Addr
 fc : Nat
 co : Option Addr
 cc : Nat
 io : Option Addr
 ic : Nat
 mo : Nat
 to : Option Addr
 tc : Nat
abbrev mcV (s : Mc) (y : McY) : List Value :=
  [.int .i64 s.c.kind, S s.c.name, S s.c.param, .int .i64 s.c.n, .slice y.yc.o1 s.c.kids.length y.yc.c1, .slice y.yc.o2 s.c.arms.length y.yc.c2, .pointer y.pe, .bool s.at_,
   .int .i64 s.v.kind, .int .i64 s.v.n, S s.v.name, .slice none 0 0, .slice y.yv.o1 s.v.kids.length y.yv.c1, .pointer y.yv.p, .slice y.yv.o2 s.v.fs.length y.yv.c2, .pointer y.pv, .int .i64 s.next,
   .slice y.fo s.frames.length y.fc, .slice y.co s.cells.length y.cc, .slice y.io s.input.length y.ic, .map (some y.mo), .int .i64 s.kind, .int .i64 0, .int .i64 0, S [], .slice none 0 0, .slice y.to s.trace.length y.tc, .int .i64 s.steps, .int .i64 s.konts]
structure McR (m : Mem) (s : Mc) (y : McY) : Prop where
 c : CdR m s.c (cdV s.c y.yc)
 e : EnvR m s.e y.pe
 v : VlR m s.v (vlV s.v y.yv)
 ev : EvR m s.ev y.pv
 fr : Fms m y.fo s.frames.length y.fc s.frames
 inp : Ints m y.io s.input.length y.ic s.input ∧ ∀ n ∈ s.input, zo n
 next : zo s.next
 kind : zo s.kind
 eff : MapAt S m y.mo (zFB S s.eff)
 steps : zo s.steps
 konts : zo s.konts
 tr : Ints m y.to s.trace.length y.tc s.trace
theorem McR.mono {m m' : Mem} {s : Mc} {y : McY} (h : McR m s y) (hm : MLe m m') : McR m' s y := ⟨h.c.mono hm, EnvR.mono hm h.e, VlR.mono hm h.v, EvR.mono hm h.ev, h.fr.mono hm, ⟨h.inp.1.mono hm, h.inp.2⟩, h.next, h.kind, h.eff.mono hm, h.steps, h.konts, h.tr.mono hm⟩
abbrev MB (g : Nat) (s : Mc) (y : McY) : Res := .blk (.pointer (some ⟨g, 0, none⟩)) (.cells (mcV s y).toArray 79)
structure McK (y y' : McY) : Prop where
 co : y'.co = y.co
 cc : y'.cc = y.cc
 mo : y'.mo = y.mo
 to : y'.to = y.to
 tc : y'.tc = y.tc
theorem McK.refl (y : McY) : McK y y := ⟨rfl, rfl, rfl, rfl, rfl⟩
theorem McK.trans {x y z : McY} (h : McK x y) (k : McK y z) : McK x z := ⟨k.co.trans h.co, k.cc.trans h.cc, k.mo.trans h.mo, k.to.trans h.to, k.tc.trans h.tc⟩
abbrev zBs (g : Nat) (n : Nat) (s' : Mc) (y : McY) (w' : World) (m' : Mem) : Prop := ∃ y', Loc [g] n [MB g s' y'] w' m' ∧ McR m' s' y' ∧ McK y y'
def Mc.goes (s : Mc) (c : Cd) (e : Env) : Mc := { s with c := c, e := e, at_ := true }
def Mc.has (s : Mc) (v : Vl) : Mc := { s with v := v, at_ := false }
def Mc.ends (s : Mc) (k : Int) : Mc := { s with kind := k }
def Mc.push (s : Mc) (f : Fm) : Mc := { s with frames := s.frames ++ [f] }
def Mc.put (s : Mc) (q : Str) (l : List Ca) (e : Env) : Mc := ({ s with next := s.next + 1, ev := .cons q (s.next + 1) l e s.ev } : Mc).push (.prompt q l e (s.next + 1))
theorem mc_R {f : Nat} {args : Array Value} {g : Nat} {s s' : Mc} {y : McY} {w : World} {m : Mem} {b : Value} (h : FnG Try.prog f args [g] w m (fun w' m' v => zBs g w.heap.size s' y w' m' ∧ v = b)) :
  FnR Try.prog f args [MB g s y] w m fun rs' m' v => ∃ y', rs' = [MB g s' y'] ∧ McR m' s' y' ∧ McK y y' ∧ v = b :=
 FnG.mono h fun _ _ _ _ ⟨⟨y', hL, hU, hK⟩, hv⟩ => ⟨_, hL, y', rfl, hU, hK, hv⟩
def MK (g : Nat) (s : Mc) (y : McY) : Res := .pack [g] fun w m => ∃ y' : McY, [MB g s y'].flatMap Res.blocks = [g] ∧ (∀ r ∈ [MB g s y'], r.holds w m) ∧ (McR m s y' ∧ McK y y')
def MP.anyV : MP := MP.mem (fun v : Value => v) (fun _ _ => True) fun _ h => h
theorem zDo {f : Nat} {args : Array Value} {g : Nat} {s s' : Mc} {y : McY} {w : World} {m : Mem} (h : FnG Try.prog f args [g] w m (fun w' m' v => zBs g w.heap.size s' y w' m')) :
  Calls Try.prog f args w fun e w' => ∃ v m', e = .returned v ∧ ZR (MB g s y) (MK g s' y) w m w' m' ∧ (Kn.ex MP.anyV).holds m' v :=
 Calls.mono h fun e w' ⟨v, m', e1, hE, y', hL, hU, hK⟩ => ⟨v, m', e1, ⟨hE, zDO (Ly := fun y' => [MB g s' y']) (J := fun y' m => McR m s' y' ∧ McK y y') (fun y' m m' hm h => ⟨h.1.mono hm, h.2⟩) rfl hL.all ⟨hU, hK⟩, by simp [MK, Res.blocks], fun b hb => hL.own b (by simp only [MK, Res.blocks, List.mem_singleton] at hb; subst hb; simp [Res.blocks, zn])⟩, ⟨v, rfl, trivial⟩⟩
theorem Zy {f : Nat} {args : Array Value} {g : Nat} {s s' : Mc} {y : McY} {w : World} {m : Mem} {b : Value} (h : FnG Try.prog f args [g] w m (fun w' m' v => zBs g w.heap.size s' y w' m' ∧ v = b)) :
  Calls Try.prog f args w fun e w' => ∃ v m', e = .returned v ∧ ZR (MB g s y) (MK g s' y) w m w' m' ∧ (Kn.eq b).holds m' v :=
 Calls.mono h fun e w' ⟨v, m', e1, hE, ⟨y', hL, hU, hK⟩, hv⟩ => ⟨v, m', e1, ⟨hE, zDO (Ly := fun y' => [MB g s' y']) (J := fun y' m => McR m s' y' ∧ McK y y') (fun y' m m' hm h => ⟨h.1.mono hm, h.2⟩) rfl hL.all ⟨hU, hK⟩, by simp [MK, Res.blocks], fun b hb => hL.own b (by simp only [MK, Res.blocks, List.mem_singleton] at hb; subst hb; simp [Res.blocks, zn])⟩, hv⟩
theorem zp {G0 : List Nat} {W : World} {mE : Mem} {L : List Res} {k g : Nat} {s : Mc} {y : McY} {w : World} {m : Mem} (h : St G0 W mE L w m) (hk : L[k]? = some (MK g s y)) : ∃ y', St G0 W mE (L.set k (MB g s y')) w m ∧ McR m s y' ∧ McK y y' := by
 obtain ⟨y', _, hh, hU, hK⟩ := pack_at (h.loc.at_ hk) h.agree
 exact ⟨y', h.weaken hk rfl fun _ => hh _ (.head _), hU, hK⟩
def Mc.ended (s : Mc) : Bool := decide (s.kind ≠ 0) || (!s.at_ && decide (s.frames = []))
def Mc.getsF (t : Mc) : Fm → Option Mc
 | .bound _ n c e => some (t.goes c (.cons n t.v e))
 | .prompt _ [] _ _ => none
 | .prompt _ (a :: _) e _ => match a.vars with
  | [] => none
  | x :: _ => some (({ t with ev := Zg 1 t.ev } : Mc).goes a.body (.cons x t.v e))
 | .restore v _ => some { t with ev := v }
def Mc.gets (s : Mc) : Option Mc := match s.frames.getLast? with
 | none => none
 | some f => ({ s with frames := s.frames.dropLast } : Mc).getsF f
theorem zCR {s s' : Mc} (h : s.gets = some s') : ∃ fl f, s.frames = fl ++ [f] ∧ ({ s with frames := fl } : Mc).getsF f = some s' := by
 unfold Mc.gets at h
 cases hl : s.frames.getLast? with
 | none => rw [hl] at h; cases h
 | some f =>
  rw [hl] at h
  have hne : s.frames ≠ [] := fun e => by rw [e] at hl; cases hl
  refine ⟨s.frames.dropLast, f, ?_, h⟩
  have h1 := List.dropLast_concat_getLast hne
  rw [List.getLast?_eq_some_getLast hne] at hl
  injection hl with hl
  rw [← hl]; exact h1.symm
theorem zBC {t s2 : Mc} {q : Str} {l : List Ca} {e : Env} {k : Int} (h : t.getsF (.prompt q l e k) = some s2) : ∃ a lr x vr, l = a :: lr ∧ a.vars = x :: vr ∧ s2 = ({ t with ev := Zg 1 t.ev } : Mc).goes a.body (.cons x t.v e) := by
 cases l with
 | nil => cases h
 | cons a lr =>
  obtain ⟨s, vs, tl, b⟩ := a
  cases vs with
  | nil => cases h
  | cons x vr => injection h with h; exact ⟨⟨s, x :: vr, tl, b⟩, lr, x, vr, rfl, rfl, h.symm⟩
set_option maxHeartbeats 1600000 in
theorem zAQ {w : World} {m : Mem} {g : Nat} {s : Mc} {y : McY} {c : Cd} {vs_c : List Value} {e : Env} {pe : Option Addr} (hA : Agree w m) (hr : (MB g s y).holds w m) (hS : McR m s y) (h_c : CdR m c vs_c) (he : EnvR m e pe) : FnG Try.prog 31 #[.pointer (some ⟨g, 0, none⟩), .agg vs_c.toArray, .pointer pe] [g] w m (fun w' m' v => zBs g w.heap.size (s.goes c e) y w' m' ∧ v = .bool true) := by
 obtain ⟨⟨oK_c, cK_c, oA_c, cA_c⟩, rfl, ⟨hik_c, hin_c⟩, hkk_c, haa_c⟩ := h_c.open_
 dsimp only at hkk_c haa_c
 have hbg_c := hkk_c.big; have hcp_c := hkk_c.cap; have hbh_c := haa_c.big; have hcq_c := haa_c.cap
 refine zZ (vs := [_, _, _]) func31 rfl rfl rfl fun a0 hfr0 => ?_
 have hst0 := zW hA (zAN hr (by simp [Res.blocks, zn]))
 have hM : MLe m m := MLe.refl m
 refine zB fun _ hK1 => ?_
 refine rp0 hst0 hfr0 (.cons rfl (zr rfl rfl) <| .cons rfl (zD rfl) <| .nil) fun a1 w1 m1 hst1 hle1 hk1 => ?_
 have hfr1 := hk1.fr (.o 0 <| .o 2 <| .nil)
 obtain ⟨g2, e2, hc4⟩ := hk1.ex 4 rfl
 replace hfr1 := hfr1.cons e2
 replace hS := hS.mono hle1
 replace h_c := h_c.mono hle1
 replace he := he.mono hle1
 clear hst0 hfr0 hk1
 refine hK1 _ _ ?_
 refine zB fun _ hK3 => ?_
 refine ra0 (tch := [(8, 0, (fun _ => .blk _ _)), (12, 0, (fun _ => .blk _ _)), (16, 0, (fun _ => .blk _ _))]) hst1 hfr1 (.cons rfl (zC rfl) <| .cons rfl (zC rfl) <| .cons rfl (zC rfl) <| .cons rfl (zY rfl hc4 isAgg25 sizeOf25 rfl rfl) <| .cons rfl (zC rfl) <| .cons rfl (zL rfl) <| .cons rfl (zA (off := 0) rfl underlying79 rfl rfl sizeOf77 rfl) <| .cons rfl (zA (off := 0) rfl underlying77 rfl rfl sizeOf25 rfl) <| .consT rfl rfl (fun _ => rfl) rfl (z1 (k := 0) rfl rfl rfl sizeOf25 rfl rfl rfl) <| .cons rfl (zL rfl) <| .cons rfl (zA (off := 0) rfl underlying79 rfl rfl sizeOf77 rfl) <| .cons rfl (zA (off := 6) rfl underlying77 rfl rfl sizeOf67 rfl) <| .consT2 (d' := 10) rfl rfl (fun _ => rfl) rfl rfl rfl (ob_two (z1 (k := 6) rfl rfl rfl sizeOf67 rfl rfl rfl)) <| .cons rfl (zL rfl) <| .cons rfl (zA (off := 0) rfl underlying79 rfl rfl sizeOf77 rfl) <| .cons rfl (zA (off := 7) rfl underlying77 rfl rfl sizeOf4 rfl) <| .consT rfl rfl (fun _ => rfl) rfl (z1 (k := 7) rfl rfl rfl sizeOf4 rfl rfl rfl) <| .nil) fun a2 w2 m2 hst2 hle2 hk2 => ?_
 have hfr2 := hk2.fr (.nil)
 replace hst2 := hst2.fin (L' := [_]) (.cons rfl <| .cons rfl <| .cons rfl <| .nil)
 try simp only [List.take_succ_cons, List.take_zero, List.drop_succ_cons, List.drop_zero, List.cons_append, List.nil_append, List.append_nil, List.length_cons, List.length_nil, Nat.zero_add, Nat.reduceAdd] at hst2
 replace hS := hS.mono hle2
 replace h_c := h_c.mono hle2
 replace he := he.mono hle2
 clear hst1 hfr1 hk2
 refine hK3 _ _ ?_
 refine zB fun _ hK4 => ?_
 refine rp0 hst2 hfr2 (.cons rfl (zD rfl) <| .nil) fun a3 w3 m3 hst3 hle3 hk3 => ?_
 have hfr3 := hk3.fr (.n 6 <| .nil)
 replace hS := hS.mono hle3
 replace h_c := h_c.mono hle3
 replace he := he.mono hle3
 clear hst2 hfr2 hk3
 refine hK4 _ _ ?_
 refine zN ?_
 repeat (with_reducible first | refine zH ?_ | refine zG ?_)
 exact zO hst3 hfr3 rfl (.tmp rfl <| .nil) (⟨⟨{ y with yc := ⟨oK_c, cK_c, oA_c, cA_c⟩, pe := pe }, (hst3.take 1).loc, ⟨h_c, he, hS.v, hS.ev, hS.fr, hS.inp, hS.next, hS.kind, hS.eff, hS.steps, hS.konts, hS.tr⟩, ⟨rfl, rfl, rfl, rfl, rfl⟩⟩, rfl⟩)
set_option maxHeartbeats 1600000 in
theorem zBu {w : World} {m : Mem} {g : Nat} {s : Mc} {y : McY} {x : Vl} {vs_x : List Value} (hA : Agree w m) (hr : (MB g s y).holds w m) (hS : McR m s y) (h_x : VlR m x vs_x) : FnG Try.prog 49 #[.pointer (some ⟨g, 0, none⟩), .agg vs_x.toArray] [g] w m (fun w' m' v => zBs g w.heap.size (s.has x) y w' m' ∧ v = .bool true) := by
 obtain ⟨⟨oa_x, ca_x, pf_x, ob_x, cb_x⟩, rfl, ⟨hi_x, hj_x⟩, hvk_x, hcl_x, hfm_x, hnl_x⟩ := h_x.open_
 have hbk_x := hvk_x.big; have hbf_x := hfm_x.big
 refine zZ (vs := [_, _]) func49 rfl rfl rfl fun a0 hfr0 => ?_
 have hst0 := zW hA (zAN hr (by simp [Res.blocks, zn]))
 have hM : MLe m m := MLe.refl m
 refine zB fun _ hK1 => ?_
 refine rp0 hst0 hfr0 (.cons rfl (zr rfl rfl) <| .cons rfl (zD rfl) <| .nil) fun a1 w1 m1 hst1 hle1 hk1 => ?_
 have hfr1 := hk1.fr (.o 0 <| .nil)
 obtain ⟨g2, e2, hc3⟩ := hk1.ex 3 rfl
 replace hfr1 := hfr1.cons e2
 replace hS := hS.mono hle1
 replace h_x := h_x.mono hle1
 clear hst0 hfr0 hk1
 refine hK1 _ _ ?_
 refine zB fun _ hK3 => ?_
 refine ra0 (tch := [(6, 0, (fun _ => .blk _ _)), (10, 0, (fun _ => .blk _ _))]) hst1 hfr1 (.cons rfl (zC rfl) <| .cons rfl (zC rfl) <| .cons rfl (zY rfl hc3 isAgg72 sizeOf72 rfl rfl) <| .cons rfl (zL rfl) <| .cons rfl (zA (off := 0) rfl underlying79 rfl rfl sizeOf77 rfl) <| .cons rfl (zA (off := 8) rfl underlying77 rfl rfl sizeOf72 rfl) <| .consT rfl rfl (fun _ => rfl) rfl (z1 (k := 8) rfl rfl rfl sizeOf72 rfl rfl rfl) <| .cons rfl (zL rfl) <| .cons rfl (zA (off := 0) rfl underlying79 rfl rfl sizeOf77 rfl) <| .cons rfl (zA (off := 7) rfl underlying77 rfl rfl sizeOf4 rfl) <| .consT rfl rfl (fun _ => rfl) rfl (z1 (k := 7) rfl rfl rfl sizeOf4 rfl rfl rfl) <| .nil) fun a2 w2 m2 hst2 hle2 hk2 => ?_
 have hfr2 := hk2.fr (.nil)
 replace hst2 := hst2.fin (L' := [_]) (.cons rfl <| .cons rfl <| .nil)
 try simp only [List.take_succ_cons, List.take_zero, List.drop_succ_cons, List.drop_zero, List.cons_append, List.nil_append, List.append_nil, List.length_cons, List.length_nil, Nat.zero_add, Nat.reduceAdd] at hst2
 replace hS := hS.mono hle2
 replace h_x := h_x.mono hle2
 clear hst1 hfr1 hk2
 refine hK3 _ _ ?_
 refine zB fun _ hK4 => ?_
 refine rp0 hst2 hfr2 (.cons rfl (zD rfl) <| .nil) fun a3 w3 m3 hst3 hle3 hk3 => ?_
 have hfr3 := hk3.fr (.n 4 <| .nil)
 replace hS := hS.mono hle3
 replace h_x := h_x.mono hle3
 clear hst2 hfr2 hk3
 refine hK4 _ _ ?_
 refine zN ?_
 repeat (with_reducible first | refine zH ?_ | refine zG ?_)
 exact zO hst3 hfr3 rfl (.tmp rfl <| .nil) (⟨⟨{ y with yv := ⟨oa_x, ca_x, pf_x, ob_x, cb_x⟩ }, (hst3.take 1).loc, ⟨hS.c, hS.e, h_x, hS.ev, hS.fr, hS.inp, hS.next, hS.kind, hS.eff, hS.steps, hS.konts, hS.tr⟩, ⟨rfl, rfl, rfl, rfl, rfl⟩⟩, rfl⟩)
set_option maxHeartbeats 1600000 in
theorem zDf {w : World} {m : Mem} {g : Nat} {s : Mc} {y : McY} {k : Int} (hA : Agree w m) (hr : (MB g s y).holds w m) (hS : McR m s y) (hik : zo k) : FnG Try.prog 35 #[.pointer (some ⟨g, 0, none⟩), .int .i64 k] [g] w m (fun w' m' v => zBs g w.heap.size (s.ends k) y w' m' ∧ v = .bool true) := by
 refine zZ (vs := [_, _]) func35 rfl rfl rfl fun a0 hfr0 => ?_
 have hst0 := zW hA (zAN hr (by simp [Res.blocks, zn]))
 have hM : MLe m m := MLe.refl m
 refine zB fun _ hK1 => ?_
 refine rp0 hst0 hfr0 (.cons rfl (zD rfl) <| .nil) fun a1 w1 m1 hst1 hle1 hk1 => ?_
 have hfr1 := hk1.fr (.o 0 <| .o 1 <| .nil)
 replace hS := hS.mono hle1
 clear hst0 hfr0 hk1
 refine hK1 _ _ ?_
 refine zB fun _ hK2 => ?_
 refine ra0 (tch := [(6, 0, (fun _ => .blk _ _))]) hst1 hfr1 (.cons rfl (zC rfl) <| .cons rfl (zC rfl) <| .cons rfl (zL rfl) <| .cons rfl (zA (off := 21) rfl underlying79 rfl rfl sizeOf35 rfl) <| .cons rfl (zA (off := 0) rfl underlying35 rfl rfl sizeOf33 rfl) <| .cons rfl (zA (off := 0) rfl underlying33 rfl rfl sizeOf3 rfl) <| .consT rfl rfl (fun _ => rfl) rfl (z1 (k := 21) rfl rfl rfl sizeOf3 rfl rfl rfl) <| .nil) fun a2 w2 m2 hst2 hle2 hk2 => ?_
 have hfr2 := hk2.fr (.nil)
 replace hst2 := hst2.fin (L' := [_]) (.cons rfl <| .nil)
 try simp only [List.take_succ_cons, List.take_zero, List.drop_succ_cons, List.drop_zero, List.cons_append, List.nil_append, List.append_nil, List.length_cons, List.length_nil, Nat.zero_add, Nat.reduceAdd] at hst2
 replace hS := hS.mono hle2
 clear hst1 hfr1 hk2
 refine hK2 _ _ ?_
 refine zB fun _ hK3 => ?_
 refine rp0 hst2 hfr2 (.cons rfl (zD rfl) <| .nil) fun a3 w3 m3 hst3 hle3 hk3 => ?_
 have hfr3 := hk3.fr (.n 4 <| .nil)
 replace hS := hS.mono hle3
 clear hst2 hfr2 hk3
 refine hK3 _ _ ?_
 refine zN ?_
 repeat (with_reducible first | refine zH ?_ | refine zG ?_)
 exact zO hst3 hfr3 rfl (.tmp rfl <| .nil) (⟨⟨y, (hst3.take 1).loc, ⟨hS.c, hS.e, hS.v, hS.ev, hS.fr, hS.inp, hS.next, hik, hS.eff, hS.steps, hS.konts, hS.tr⟩, McK.refl y⟩, rfl⟩)
set_option maxHeartbeats 400000 in
theorem clip_c {w : World} {m : Mem} {o : Option Addr} {n c : Nat} (hA : Agree w m) (hc : n ≤ c) (hn : n ≤ 9223372036854775807) : FnV Try.prog 55 #[.slice o n c] w m (fun _ _ v => v = .slice o n n) := by
 refine zZ (vs := [_]) func55 rfl rfl rfl fun a0 hfr0 => ?_
 have hst0 := zW hA (zg [] _ w m)
 have hM : MLe m m := MLe.refl m
 refine zB fun _ hK1 => ?_
 refine rp0 hst0 hfr0 (.cons rfl (zD rfl) <| .nil) fun a1 w1 m1 hst1 hle1 hk1 => ?_
 have hfr1 := hk1.fr (.o 0 <| .nil)
 clear hst0 hfr0 hk1
 refine hK1 _ _ ?_
 refine zB fun _ hK2 => ?_
 refine rp0 hst1 hfr1 (.cons rfl (zC rfl) <| .cons rfl (zC rfl) <| .cons rfl (zl rfl underlying70) <| .cons rfl (zC rfl) <| .cons rfl (zl rfl underlying70) <| .cons rfl (ob_slice3 (h := n) (k := n) rfl (.some rfl rfl) (.some rfl rfl) underlying70 sizeOf124 (by omega) (by omega)) <| .cons rfl (zD rfl) <| .nil) fun a2 w2 m2 hst2 hle2 hk2 => ?_
 have hfr2 := hk2.fr (.n 2 <| .nil)
 clear hst1 hfr1 hk2
 refine hK2 _ _ ?_
 refine zN ?_
 repeat (with_reducible first | refine zH ?_ | refine zG ?_)
 exact zO hst2 hfr2 rfl (.tmp rfl <| .nil) (by have h9 : (if n = 0 then o else o.map (·.add (0 * 1))) = o := (by split; rfl; cases o <;> simp [Addr.add]); show Value.slice (if n = 0 then o else o.map (·.add (0 * 1))) (n - 0) (n - 0) = _; rw [h9]; rfl)
set_option maxHeartbeats 1600000 in
theorem zDk {w : World} {m : Mem} {g : Nat} {s : Mc} {y : McY} {f : Fm} {t9 : TypeId} {x9 : Value} (hA : Agree w m) (hr : (MB g s y).holds w m) (hS : McR m s y) (hf : FmR m f (.iface t9 x9)) (hb : s.frames.length ≤ 1000000000) : FnG Try.prog 45 #[.pointer (some ⟨g, 0, none⟩), .iface t9 x9] [g] w m (fun w' m' v => zBs g w.heap.size (s.push f) y w' m') := by
 refine zZ (vs := [_, _]) func45 rfl rfl rfl fun a0 hfr0 => ?_
 have hst0 := zW hA (zAN hr (by simp [Res.blocks, zn]))
 have hM : MLe m m := MLe.refl m
 obtain ⟨cs9, hrow9, hrd9, hcs9⟩ := hS.fr.reads
 have hcp8 := hS.fr.cap
 refine ra0 (tch := [(11, 0, (fun u => .blk _ (.cells (_ ++ [u] ++ _).toArray _)))]) hst0 hfr0 (.cons rfl (zC rfl) <| .cons rfl (zC rfl) <| .cons rfl (zL rfl) <| .cons rfl (zA (off := 17) rfl underlying79 rfl rfl sizeOf70 rfl) <| .cons rfl (zK (j := 0) rfl rfl isAgg70 rfl) <| .cons rfl (zX rfl (.cons rfl <| .nil) call55 (fun w m hK => by have hle_ := KC.le hK; have hA := KC.agree hK; exact clip_c (n := s.frames.length) hA hcp8 (by omega))) <| .cons rfl (zC rfl) <| .cons rfl (Zb (.cons rfl <| .nil) underlying70 sizeOf124 zeroValue124 rfl rfl rfl rfl) <| .cons rfl (zBA 11 rfl rfl rfl fun y11 => ob_appendF (size := 1) (bytes := 16) rfl rfl underlying70 type124 rfl rfl rfl rfl (fun w m hK => hrow9.mono (KC.le hK)) (by omega) (fun w m hK => .inr ⟨_, rfl, hK.2⟩) rfl (by decide) (by decide) rfl (by simp only [maxLen]; omega) (by omega)) <| .cons rfl (zL rfl) <| .cons rfl (zA (off := 17) rfl underlying79 rfl rfl sizeOf70 rfl) <| .consT rfl rfl (fun _ => rfl) rfl (zb 12 rfl rfl rfl fun y12 => zAj rfl rfl rfl rfl rfl sizeOf70 rfl rfl rfl) <| .nil) fun a1 w1 m1 hst1 hle1 hk1 => ?_
 have hfr1 := hk1.fr (.nil)
 obtain ⟨⟨r9, o9, c9⟩, e1, _, hro9, hcp9⟩ := hk1.ex 12 rfl
 replace hst1 := hst1.fin (L' := [_]) (.cons e1 <| .nil)
 try simp only [List.take_succ_cons, List.take_zero, List.drop_succ_cons, List.drop_zero, List.cons_append, List.nil_append, List.append_nil, List.length_cons, List.length_nil, Nat.zero_add, Nat.reduceAdd] at hst1
 replace hS := hS.mono hle1
 replace hf := hf.mono hle1
 replace hrd9 := hrd9.mono hle1
 clear hst0 hfr0 hk1
 repeat (with_reducible first | refine Zi ?_ | refine ZT ?_ | refine ZD ?_)
 exact fn_end hst1 hfr1 rfl (.nil) (⟨{ y with fo := o9, fc := c9 }, (by have h9 := (hst1.take 1).loc; rw [show s.frames.length + 1 = (s.frames ++ [f]).length by simp] at h9; exact h9), ⟨hS.c, hS.e, hS.v, hS.ev, (by rw [show (s.push f).frames.length = s.frames.length + 1 by simp [Mc.push]]; exact Reads.sl (hrd9.app (Reads.single rfl ⟨_, rfl, hf⟩)) (show RowAt _ o9 (cs9 ++ [.iface t9 x9]) from hro9) (by decide) (by simp [Mc.push]) hcp9 (by omega)), hS.inp, hS.next, hS.kind, hS.eff, hS.steps, hS.konts, hS.tr⟩, ⟨rfl, rfl, rfl, rfl, rfl⟩⟩)
set_option maxHeartbeats 1600000 in
theorem put_g {w : World} {m : Mem} {g : Nat} {s : Mc} {y : McY} {q : Str} {l : List Ca} {oa : Option Addr} {ca : Nat} {e : Env} {pe : Option Addr} (hA : Agree w m) (hr : (MB g s y).holds w m) (hS : McR m s y) (hl : Cas m oa l.length ca l) (he : EnvR m e pe) (hb : s.frames.length ≤ 1000000000) (hv : s.ev.len ≤ 1000000000) (hn : 0 ≤ s.next ∧ s.next ≤ 1000000000) : FnG Try.prog 47 #[.pointer (some ⟨g, 0, none⟩), .agg #[S q, .slice oa l.length ca, .pointer pe]] [g] w m (fun w' m' v => zBs g w.heap.size (s.put q l e) y w' m') := by
 refine zZ (vs := [_, _]) func47 rfl rfl rfl fun a0 hfr0 => ?_
 have hst0 := zW hA (zAN hr (by simp [Res.blocks, zn]))
 have hM : MLe m m := MLe.refl m
 have hi1 : zo (s.next + 1) := ⟨by omega, by omega⟩
 refine zB fun _ hK1 => ?_
 refine rp0 hst0 hfr0 (.cons rfl (zr rfl rfl) <| .nil) fun a1 w1 m1 hst1 hle1 hk1 => ?_
 have hfr1 := hk1.fr (.o 0 <| .nil)
 obtain ⟨g2, e2, hc3⟩ := hk1.ex 3 rfl
 replace hfr1 := hfr1.cons e2
 replace hS := hS.mono hle1
 replace hl := hl.mono hle1
 replace he := he.mono hle1
 replace hM := hM.trans hle1
 clear hst0 hfr0 hk1
 refine hK1 _ _ ?_
 refine zB fun _ hK3 => ?_
 refine ra0 (tch := [(9, 0, (fun _ => .blk _ _))]) hst1 hfr1 (.cons rfl (zC rfl) <| .cons rfl (zL rfl) <| .cons rfl (zA (off := 0) rfl underlying79 rfl rfl sizeOf77 rfl) <| .cons rfl (zA (off := 16) rfl underlying77 rfl rfl sizeOf3 rfl) <| .cons rfl (zK (k := 16) (j := 0) rfl rfl isAgg3 rfl) <| .cons rfl (z6 rfl rfl ⟨by omega, by omega⟩) <| .cons rfl (zL rfl) <| .cons rfl (zA (off := 0) rfl underlying79 rfl rfl sizeOf77 rfl) <| .cons rfl (zA (off := 16) rfl underlying77 rfl rfl sizeOf3 rfl) <| .consT rfl rfl (fun _ => rfl) rfl (z1 (k := 16) rfl rfl rfl sizeOf3 rfl rfl rfl) <| .nil) fun a2 w2 m2 hst2 hle2 hk2 => ?_
 have hfr2 := hk2.fr (.o 0 <| .o 3 <| .nil)
 replace hst2 := hst2.fin (L' := [_]) (.cons rfl <| .nil)
 try simp only [List.take_succ_cons, List.take_zero, List.drop_succ_cons, List.drop_zero, List.cons_append, List.nil_append, List.append_nil, List.length_cons, List.length_nil, Nat.zero_add, Nat.reduceAdd] at hst2
 replace hS := hS.mono hle2
 replace hl := hl.mono hle2
 replace he := he.mono hle2
 replace hc3 := hc3.mono hle2
 replace hM := hM.trans hle2
 clear hst1 hfr1 hk2
 refine hK3 _ _ ?_
 refine zB fun _ hK4 => ?_
 refine zc (tch := [(18, 0, (fun _ => .blkx _ _ _))]) (fun _ => zw) hst2 hfr2 (by kernel_rfl) (by kernel_rfl) (by kernel_rfl) (.cons rfl (zC rfl) <| .cons rfl (zC rfl) <| .cons rfl (zL rfl) <| .cons rfl (zA (off := 0) rfl underlying79 rfl rfl sizeOf77 rfl) <| .cons rfl (zA (off := 15) rfl underlying77 rfl rfl sizeOf75 rfl) <| .cons rfl (zz (k := 15) (j := 0) rfl rfl isAgg75 sizeOf75 rfl rfl) <| .cons rfl (zA (off := 0) rfl underlying114 rfl rfl sizeOf9 rfl) <| .cons rfl (zJ rfl hc3 isAgg9 rfl) <| .cons rfl (zC rfl) <| .cons rfl (zL rfl) <| .cons rfl (zA (off := 0) rfl underlying79 rfl rfl sizeOf77 rfl) <| .cons rfl (zA (off := 16) rfl underlying77 rfl rfl sizeOf3 rfl) <| .cons rfl (zK (k := 16) (j := 0) rfl rfl isAgg3 rfl) <| .cons rfl (zY rfl hc3 isAgg114 sizeOf114 rfl rfl) <| .cons rfl (zm (φ := MP.ev (.cons q (s.next + 1) l e s.ev)) rfl (.cons rfl <| .cons rfl <| .cons rfl <| .cons rfl <| .nil) call63 (fun w m hK => by have hle_ := KC.le hK; have hA := KC.agree hK; have hS := hS.mono hle_; have hl := hl.mono hle_; have he := he.mono hle_; exact FnG.mono (vpush_c (s := q) (k := s.next + 1) hA hS.ev hl he hv hi1) fun _ _ _ _ h => h)) <| .cons rfl (zL rfl) <| .cons rfl (zA (off := 0) rfl underlying79 rfl rfl sizeOf77 rfl) <| .cons rfl (zA (off := 15) rfl underlying77 rfl rfl sizeOf75 rfl) <| .consT rfl rfl (fun _ => rfl) rfl (z8 27 rfl rfl rfl fun y27 => z1 (k := 15) rfl rfl rfl sizeOf75 rfl rfl rfl) <| .nil) fun a3 w3 m3 hst3 hle3 hk3 => ?_
 have hfr3 := hk3.fr (.o 0 <| .o 3 <| .nil)
 replace hst3 := hst3.fin (L' := [_]) (.cons rfl <| .nil)
 try simp only [List.take_succ_cons, List.take_zero, List.drop_succ_cons, List.drop_zero, List.cons_append, List.nil_append, List.append_nil, List.length_cons, List.length_nil, Nat.zero_add, Nat.reduceAdd] at hst3
 obtain ⟨pv9, hev9, hst3⟩ := hst3.unx (k := 0) rfl (fun _ => rfl)
 replace hS := hS.mono hle3
 replace hl := hl.mono hle3
 replace he := he.mono hle3
 replace hc3 := hc3.mono hle3
 replace hM := hM.trans hle3
 clear hst2 hfr2 hk3
 refine hK4 _ _ ?_
 have hS1 : McR m3 ({ s with next := s.next + 1, ev := .cons q (s.next + 1) l e s.ev } : Mc) { y with pv := pv9 } := ⟨hS.c, hS.e, hS.v, hev9, hS.fr, hS.inp, hi1, hS.kind, hS.eff, hS.steps, hS.konts, hS.tr⟩
 refine zc (tch := [(9, 0, (fun _ => MK g (s.put q l e) { y with pv := pv9 }))]) (fun _ => zw) hst3 hfr3 (by kernel_rfl) (by kernel_rfl) (by kernel_rfl) (.cons rfl (zC rfl) <| .cons rfl (zY rfl hc3 isAgg114 sizeOf114 rfl rfl) <| .cons rfl (zC rfl) <| .cons rfl (zL rfl) <| .cons rfl (zA (off := 0) rfl underlying79 rfl rfl sizeOf77 rfl) <| .cons rfl (zA (off := 16) rfl underlying77 rfl rfl sizeOf3 rfl) <| .cons rfl (zK (k := 16) (j := 0) rfl rfl isAgg3 rfl) <| .cons rfl (zQ (vs := [(0, .agg [S q, .slice oa l.length ca, .pointer pe].toArray), (1, .int .i64 (s.next + 1))]) (.cons rfl <| .cons rfl <| .nil) underlying127 zeroValue127 (.cons sizeOf114 <| .cons sizeOf3 <| .nil) rfl) <| .cons rfl (zDj rfl underlying127 rfl) <| .consT rfl rfl (fun _ => rfl) rfl (zj rfl (.cons rfl <| .cons rfl <| .nil) call45 (κ := .ex (MP.anyV)) (fun σ w m hK hr hkn => by have hle_ := KC.le hK; have hA := KC.agree hK; have hM := hM.trans hle_; have hS := hS.mono hle_; have hl := hl.mono hle_; have he := he.mono hle_; have hc3 := hc3.mono hle_; have hev9 := hev9.mono hle_; have hS1 := hS1.mono hle_; exact zDo (s := ({ s with next := s.next + 1, ev := .cons q (s.next + 1) l e s.ev } : Mc)) (zDk (s := ({ s with next := s.next + 1, ev := .cons q (s.next + 1) l e s.ev } : Mc)) (y := { y with pv := pv9 }) (f := (.prompt q l e (s.next + 1))) hA hr hS1 (by simp only [FmR]; exact ⟨_, _, _, rfl, hi1, hl, he⟩) hb))) <| .nil) fun a4 w4 m4 hst4 hle4 hk4 => ?_
 have hfr4 := hk4.fr (.nil)
 obtain ⟨y6, e6, hy6⟩ := hk4.ex 40 rfl
 replace hst4 := hst4.fin (L' := [_]) (.cons e6 <| .nil)
 clear hst3 hfr3 hk4
 obtain ⟨y9, hst4, hS2, hK9⟩ := zp (k := 0) hst4 rfl
 simp only [List.set_cons_zero] at hst4
 repeat (with_reducible first | refine Zi ?_ | refine ZT ?_ | refine ZD ?_)
 exact fn_end hst4 hfr4 rfl (.nil) (⟨y9, (hst4.take 1).loc, hS2, ⟨hK9.co, hK9.cc, hK9.mo, hK9.to, hK9.tc⟩⟩)
set_option maxHeartbeats 400000 in
theorem ended0_c {w : World} {m : Mem} {a : Addr} {s : Mc} {y : McY} (hA : Agree w m) (hc : CellsAt m a (mcV s y)) : FnV Try.prog 32 #[.pointer (some a)] w m (fun _ _ v => v = .bool (s.ended)) := by
 refine zZ (vs := [_]) func32 rfl rfl rfl fun a0 hfr0 => ?_
 have hst0 := zW hA (zg [] _ w m)
 have hM : MLe m m := MLe.refl m
 refine zB fun _ hK1 => ?_
 refine rp0 hst0 hfr0 (.cons rfl (zD rfl) <| .nil) fun a1 w1 m1 hst1 hle1 hk1 => ?_
 have hfr1 := hk1.fr (.o 0 <| .nil)
 replace hc := hc.mono hle1
 clear hst0 hfr0 hk1
 refine hK1 _ _ ?_
 refine zB fun _ hK2 => ?_
 refine rp0 hst1 hfr1 (.cons rfl (zC rfl) <| .cons rfl (zL rfl) <| .cons rfl (zA (off := 21) rfl underlying79 rfl rfl sizeOf35 rfl) <| .cons rfl (zA (off := 0) rfl underlying35 rfl rfl sizeOf33 rfl) <| .cons rfl (zA (off := 0) rfl underlying33 rfl rfl sizeOf3 rfl) <| .cons rfl (zJ rfl ((hc.drop 21).drop 0) isAgg3 rfl) <| .cons rfl (Zs rfl rfl) <| .cons rfl (zC rfl) <| .cons rfl (zC rfl) <| .cons rfl (zL rfl) <| .cons rfl (zA (off := 0) rfl underlying79 rfl rfl sizeOf77 rfl) <| .cons rfl (zA (off := 7) rfl underlying77 rfl rfl sizeOf4 rfl) <| .cons rfl (zJ rfl (hc.drop 0) isAgg4 rfl) <| .cons rfl (z2 rfl) <| .cons rfl (zC rfl) <| .cons rfl (zC rfl) <| .cons rfl (zL rfl) <| .cons rfl (zA (off := 17) rfl underlying79 rfl rfl sizeOf70 rfl) <| .cons rfl (zJ rfl hc isAgg70 rfl) <| .cons rfl (zl rfl underlying70) <| .cons rfl (zS rfl rfl) <| .cons rfl (zU rfl rfl rfl) <| .cons rfl (Zd rfl rfl rfl) <| .cons rfl (zD rfl) <| .nil) fun a2 w2 m2 hst2 hle2 hk2 => ?_
 have hfr2 := hk2.fr (.n 2 <| .nil)
 clear hst1 hfr1 hk2
 refine hK2 _ _ ?_
 refine zN ?_
 repeat (with_reducible first | refine zH ?_ | refine zG ?_)
 exact zO hst2 hfr2 rfl (.tmp rfl <| .nil) (by refine congrArg Value.bool ?_; unfold Mc.ended; rw [Bool.eq_iff_iff]; simp)
theorem ended_c {w : World} {m : Mem} {g : Nat} {s : Mc} {y : McY} (hA : Agree w m) (hr : (MB g s y).holds w m) : FnV Try.prog 32 #[.pointer (some ⟨g, 0, none⟩)] w m (fun _ _ v => v = .bool s.ended) := by
 obtain ⟨m2, hA2, hle, hc⟩ := blk_see hA hr
 exact FnV.pure hA (ended0_c hA2 hc)
end Go.Proofs.Ytnppknioifgdfaa
namespace Go.Proofs.Ytnppknioifgdfaa
open Go.Proofs.Try
set_option linter.all false
set_option maxRecDepth 4000
open Go.RowKit
set_option maxHeartbeats 3200000 in
theorem gets_g {w : World} {m : Mem} {g : Nat} {s : Mc} {y : McY} {s2 : Mc} (hA : Agree w m) (hr : (MB g s y).holds w m) (hS : McR m s y) (hrun : s.gets = some s2) : FnG Try.prog 34 #[.pointer (some ⟨g, 0, none⟩)] [g] w m (fun w' m' v => zBs g w.heap.size (s2) y w' m' ∧ v = .bool true) := by
 refine zZ (vs := [_]) func34 rfl rfl rfl fun a0 hfr0 => ?_
 have hst0 := zW hA (zAN hr (by simp [Res.blocks, zn]))
 have hM : MLe m m := MLe.refl m
 obtain ⟨yc, pe, yv, pv, fo, fc, co, cc, io, ic, mo, to, tc⟩ := y
 obtain ⟨fl, f9, hfe, hrun⟩ := zCR hrun
 have hfq := hS.fr
 have hln : s.frames.length = fl.length + 1 := by rw [hfe]; simp
 have hbg9 := hfq.big; have hcp9 := hfq.cap
 refine zB fun _ hK1 => ?_
 refine rp0 hst0 hfr0 (.cons rfl (zD rfl) <| .nil) fun a1 w1 m1 hst1 hle1 hk1 => ?_
 have hfr1 := hk1.fr (.o 0 <| .nil)
 replace hS := hS.mono hle1
 replace hfq := hfq.mono hle1
 replace hM := hM.trans hle1
 clear hst0 hfr0 hk1
 refine hK1 _ _ ?_
 refine zB fun _ hK2 => ?_
 refine rp0 hst1 hfr1 (.cons rfl (zC rfl) <| .cons rfl (zL rfl) <| .cons rfl (zA (off := 17) rfl underlying79 rfl rfl sizeOf70 rfl) <| .cons rfl (zK (j := 0) rfl rfl isAgg70 rfl) <| .cons rfl (zl rfl underlying70) <| .cons rfl (zAZ rfl rfl ⟨by omega, by omega⟩) <| .cons rfl (zD rfl) <| .nil) fun a2 w2 m2 hst2 hle2 hk2 => ?_
 have hfr2 := hk2.fr (.o 0 <| .n 3 <| .nil)
 replace hS := hS.mono hle2
 replace hfq := hfq.mono hle2
 replace hM := hM.trans hle2
 clear hst1 hfr1 hk2
 refine hK2 _ _ ?_
 refine zB fun _ hK3 => ?_
 obtain ⟨p4, vs4, x4, ho4, hd4, hm_x4, ht4, hcv4, hl4, hv4⟩ := hfq.nth (k := fl.length) (by omega)
 cases ho4
 obtain ⟨xf4, rfl, hff4⟩ := id hv4
 refine rp0 hst2 hfr2 (.cons rfl (zC rfl) <| .cons rfl (zL rfl) <| .cons rfl (zA (off := 17) rfl underlying79 rfl rfl sizeOf70 rfl) <| .cons rfl (zK (j := 0) rfl rfl isAgg70 rfl) <| .cons rfl (zC rfl) <| .cons rfl (zI (k := fl.length) rfl rfl underlying70 sizeOf124 (by omega) (by omega)) <| .cons rfl (zk rfl hcv4 isAgg124 rfl) <| .cons rfl (zD rfl) <| .nil) fun a3 w3 m3 hst3 hle3 hk3 => ?_
 have hfr3 := hk3.fr (.o 0 <| .o 3 <| .n 4 <| .nil)
 replace hS := hS.mono hle3
 replace hfq := hfq.mono hle3
 replace hcv4 := hcv4.mono hle3
 replace hv4 := hv4.mono hle3
 replace hff4 := hff4.mono hle3
 replace hM := hM.trans hle3
 clear hst2 hfr2 hk3
 have hxf : x4 = f9 := by have h9 := hd4; rw [hfe] at h9; simp at h9; exact h9.symm
 refine hK3 _ _ ?_
 refine zB fun _ hK5 => ?_
 have hct6 : Fms _ _ _ _ ((s.frames.take (fl.length)).drop (0)) := hfq.cut (l := 0) (k := fl.length) (by omega) (by omega)
 have hcl6 : (fl.length) - (0) = (((s.frames.take (fl.length)).drop (0))).length := hct6.len.symm
 have hcu6 : Fms _ _ _ _ ((s.frames.take (fl.length)).drop (0)) := hct6.lenL
 refine ra0 (tch := [(10, 0, (fun _ => .blk _ _))]) hst3 hfr3 (.cons rfl (zC rfl) <| .cons rfl (zC rfl) <| .cons rfl (zL rfl) <| .cons rfl (zA (off := 17) rfl underlying79 rfl rfl sizeOf70 rfl) <| .cons rfl (zK (j := 0) rfl rfl isAgg70 rfl) <| .cons rfl (zC rfl) <| .cons rfl (zAW (l := 0) (h := fl.length) rfl .none (.some rfl (by omega)) underlying70 sizeOf124 (by first | omega | (dsimp only; omega)) (by first | omega | (dsimp only; omega))) <| .cons rfl (zX rfl (.cons rfl <| .nil) call55 (fun w m hK => by have hle_ := KC.le hK; have hA := KC.agree hK; exact clip_c (n := fl.length) hA (by omega) (by omega))) <| .cons rfl (zL rfl) <| .cons rfl (zA (off := 17) rfl underlying79 rfl rfl sizeOf70 rfl) <| .consT rfl rfl (fun _ => rfl) rfl (z1 rfl rfl rfl sizeOf70 rfl rfl rfl) <| .nil) fun a4 w4 m4 hst4 hle4 hk4 => ?_
 have hfr4 := hk4.fr (.o 0 <| .o 4 <| .nil)
 replace hst4 := hst4.fin (L' := [_]) (.cons rfl <| .nil)
 try simp only [List.take_succ_cons, List.take_zero, List.drop_succ_cons, List.drop_zero, List.cons_append, List.nil_append, List.append_nil, List.length_cons, List.length_nil, Nat.zero_add, Nat.reduceAdd] at hst4
 replace hS := hS.mono hle4
 replace hfq := hfq.mono hle4
 replace hcv4 := hcv4.mono hle4
 replace hv4 := hv4.mono hle4
 replace hff4 := hff4.mono hle4
 replace hct6 := hct6.mono hle4
 replace hcu6 := hcu6.mono hle4
 replace hM := hM.trans hle4
 clear hst3 hfr3 hk4
 have hfl : ((s.frames.take fl.length).drop 0) = fl := by rw [hfe]; simp
 have hF0 : Fms m4 (if fc = 0 then (some p4 : Option Addr) else (some p4).map (fun x : Addr => x.add (0 * 1))) ((s.frames.take fl.length).drop 0).length _ ((s.frames.take fl.length).drop 0) := hcu6
 have hF2 : Fms m4 (if fc = 0 then (some p4 : Option Addr) else (some p4).map (fun x : Addr => x.add (0 * 1))) fl.length fl.length fl := by rw [hfl] at hF0; exact ⟨rfl, Nat.le_refl _, hF0.big, hF0.at_⟩
 have hS2 : McR m4 ({ s with frames := fl } : Mc) ⟨yc, pe, yv, pv, (if fc = 0 then (some p4 : Option Addr) else (some p4).map (fun x : Addr => x.add (0 * 1))), fl.length, co, cc, io, ic, mo, to, tc⟩ := ⟨hS.c, hS.e, hS.v, hS.ev, hF2, hS.inp, hS.next, hS.kind, hS.eff, hS.steps, hS.konts, hS.tr⟩
 refine hK5 _ _ ?_
 refine zB fun _ hK7 => ?_
 refine zB fun _ hK8 => ?_
 rw [hxf] at hff4
 rcases f9 with ⟨qq, nn, c9, e9⟩ | ⟨qq, l9, e9, k9⟩ | ⟨v9, n9⟩
 ·skip
  have hq9 := hff4
  simp only [FmR] at hq9
  obtain ⟨cs9, pe9, rfl, hcc9, hee9⟩ := hq9
  unfold Mc.getsF at hrun
  injection hrun with hrun
  subst hrun
  obtain ⟨⟨oK_c9, cK_c9, oA_c9, cA_c9⟩, rfl, ⟨hik_c9, hin_c9⟩, hkk_c9, haa_c9⟩ := hcc9.open_
  dsimp only at hkk_c9 haa_c9
  have hbg_c9 := hkk_c9.big; have hcp_c9 := hkk_c9.cap; have hbh_c9 := haa_c9.big; have hcq_c9 := haa_c9.cap
  refine rp0 hst4 hfr4 (.cons rfl (zC rfl) <| .nil) fun a5 w5 m5 hst5 hle5 hk5 => ?_
  have hfr5 := hk5.fr (.o 0 <| .n 31 <| .nil)
  clear hst4 hfr4 hk5
  refine hK8 _ _ ?_
  refine zT ?_
  refine zB fun _ hK9 => ?_
  refine rp0 hst5 hfr5 (.cons rfl (zBy rfl underlying108 rfl) <| .cons rfl (zM rfl rfl) <| .cons rfl (zM rfl rfl) <| .nil) fun a6 w6 m6 hst6 hle6 hk6 => ?_
  have hfr6 := hk6.fr (.o 0 <| .o 31 <| .n 33 <| .n 34 <| .nil)
  clear hst5 hfr5 hk6
  refine hK9 _ _ ?_
  refine zE hfr6 rfl rfl (fun hb33 => ?_) (fun hb33 => ?_)
  ·try simp only [nqs] at hb33
   refine zB fun _ hK10 => ?_
   replace hst6 := hst6.more (r := .free) trivial List.nodup_nil (by simp [Res.blocks])
   refine ra0 (tch := [(0, 1, (fun v => .blk v _)), (1, 1, (fun v => .blk v _))]) hst6 hfr6 (.consT rfl rfl (fun _ => rfl) rfl (zP zeroValue108 rfl) <| .consT rfl rfl (fun _ => rfl) rfl (zb 5 rfl rfl rfl fun y5 => za rfl rfl rfl rfl rfl sizeOf108 rfl rfl rfl) <| .nil) fun a7 w7 m7 hst7 hle7 hk7 => ?_
   have hfr7 := hk7.fr (.o 0 <| .nil)
   obtain ⟨g5, e11, _⟩ := hk7.ex 5 rfl
   replace hfr7 := hfr7.cons e11
   replace hst7 := hst7.fin (L' := [_, _]) (.cons e11 <| .cons e11 <| .nil)
   try simp only [List.take_succ_cons, List.take_zero, List.drop_succ_cons, List.drop_zero, List.cons_append, List.nil_append, List.append_nil, List.length_cons, List.length_nil, Nat.zero_add, Nat.reduceAdd] at hst7
   clear hst6 hfr6 hk7
   refine hK10 _ _ ?_
   refine zB fun _ hK12 => ?_
   have zq1 := hle6.trans hle7
   have zq2 := hle5.trans zq1
   replace hS := hS.mono zq2
   replace hfq := hfq.mono zq2
   replace hcv4 := hcv4.mono zq2
   replace hv4 := hv4.mono zq2
   replace hff4 := hff4.mono zq2
   replace hct6 := hct6.mono zq2
   replace hcu6 := hcu6.mono zq2
   replace hS2 := hS2.mono zq2
   replace hcc9 := hcc9.mono zq2
   replace hee9 := hee9.mono zq2
   replace hM := hM.trans zq2
   refine zc (tch := [(13, 0, (fun _ => MK g (({ s with frames := fl } : Mc).goes c9 (.cons nn s.v e9)) ⟨yc, pe, yv, pv, (if fc = 0 then (some p4 : Option Addr) else (some p4).map (fun x : Addr => x.add (0 * 1))), fl.length, co, cc, io, ic, mo, to, tc⟩))]) (fun _ => zw) hst7 hfr7 (by kernel_rfl) (by kernel_rfl) (by kernel_rfl) (.cons rfl (zC rfl) <| .cons rfl (zA (off := 2) rfl underlying108 rfl rfl sizeOf25 rfl) <| .cons rfl (zz (j := 1) rfl rfl isAgg25 sizeOf25 rfl rfl) <| .cons rfl (zA (off := 8) rfl underlying108 rfl rfl sizeOf67 rfl) <| .cons rfl (zK (j := 1) rfl rfl isAgg67 rfl) <| .cons rfl (zA (off := 1) rfl underlying108 rfl rfl sizeOf9 rfl) <| .cons rfl (zK (j := 1) rfl rfl isAgg9 rfl) <| .cons rfl (zC rfl) <| .cons rfl (zL rfl) <| .cons rfl (zA (off := 0) rfl underlying79 rfl rfl sizeOf77 rfl) <| .cons rfl (zA (off := 8) rfl underlying77 rfl rfl sizeOf72 rfl) <| .cons rfl (zz (k := 8) (j := 0) rfl rfl isAgg72 sizeOf72 rfl rfl) <| .cons rfl (zm (φ := MP.env (.cons nn s.v e9)) rfl (.cons rfl <| .cons rfl <| .cons rfl <| .nil) call46 (fun w m hK => by have hle_ := KC.le hK; have hA := KC.agree hK; have hS2 := hS2.mono hle_; have hee9 := hee9.mono hle_; exact FnG.mono (zBY (s := nn) hA hee9 hS2.v) fun _ _ _ _ h => h)) <| .consT rfl rfl (fun _ => rfl) rfl (zb 47 rfl rfl rfl fun y47 => zj rfl (.cons rfl <| .cons rfl <| .cons rfl <| .nil) call31 (κ := .eq (.bool true)) (fun σ w m hK hr hkn => by have hle_ := KC.le hK; have hA := KC.agree hK; have hM := hM.trans hle_; have hr0_ := hK.2; have hS := hS.mono hle_; have hfq := hfq.mono hle_; have hcv4 := hcv4.mono hle_; have hv4 := hv4.mono hle_; have hff4 := hff4.mono hle_; have hct6 := hct6.mono hle_; have hcu6 := hcu6.mono hle_; have hS2 := hS2.mono hle_; have hcc9 := hcc9.mono hle_; have hee9 := hee9.mono hle_; exact Zy (s := ({ s with frames := fl } : Mc)) (zAQ (s := ({ s with frames := fl } : Mc)) (y := ⟨yc, pe, yv, pv, (if fc = 0 then (some p4 : Option Addr) else (some p4).map (fun x : Addr => x.add (0 * 1))), fl.length, co, cc, io, ic, mo, to, tc⟩) hA hr hS2 hcc9 hr0_))) <| .cons rfl (zD rfl) <| .nil) fun a8 w8 m8 hst8 hle8 hk8 => ?_
   have hfr8 := hk8.fr (.n 2 <| .nil)
   replace hst8 := hst8.fin (L' := [_, _]) (.cons rfl <| .nil)
   clear hst7 hfr7 hk8
   obtain ⟨y9, hst8, hS3, hK9⟩ := zp (k := 0) hst8 rfl
   simp only [List.set_cons_zero] at hst8
   refine hK12 _ _ ?_
   refine zN ?_
   repeat (with_reducible first | refine zH ?_ | refine zG ?_)
   exact zO hst8 hfr8 rfl (.tmp rfl <| .nil) (⟨⟨y9, (hst8.take 1).loc, hS3, ⟨hK9.co, hK9.cc, hK9.mo, hK9.to, hK9.tc⟩⟩, rfl⟩)
  ·simp at hb33
 ·skip
  have hq9 := hff4
  simp only [FmR] at hq9
  obtain ⟨oa9, ca9, pe9, rfl, hki9, hla9, hee9⟩ := hq9
  obtain ⟨aa, lr, x8, vr, rfl, hav, rfl⟩ := zBC hrun
  have hl0 : (aa :: lr).length = lr.length + 1 := rfl
  refine rp0 hst4 hfr4 (.cons rfl (zC rfl) <| .nil) fun a5 w5 m5 hst5 hle5 hk5 => ?_
  have hfr5 := hk5.fr (.o 0 <| .n 31 <| .nil)
  clear hst4 hfr4 hk5
  refine hK8 _ _ ?_
  refine zT ?_
  refine zB fun _ hK14 => ?_
  refine rp0 hst5 hfr5 (.cons rfl (zAg rfl underlying108 rfl rfl zeroValue108) <| .cons rfl (zM rfl rfl) <| .cons rfl (zM rfl rfl) <| .nil) fun a6 w6 m6 hst6 hle6 hk6 => ?_
  have hfr6 := hk6.fr (.o 0 <| .o 31 <| .n 33 <| .n 34 <| .nil)
  clear hst5 hfr5 hk6
  refine hK14 _ _ ?_
  refine zE hfr6 rfl rfl (fun hb33 => ?_) (fun hb33 => ?_)
  ·simp at hb33
  ·try simp only [nqs] at hb33
   refine zB fun _ hK15 => ?_
   refine rp0 hst6 hfr6 (.cons rfl (zBy rfl underlying127 rfl) <| .cons rfl (zM rfl rfl) <| .cons rfl (zM rfl rfl) <| .nil) fun a7 w7 m7 hst7 hle7 hk7 => ?_
   have hfr7 := hk7.fr (.o 0 <| .o 31 <| .n 50 <| .n 51 <| .nil)
   clear hst6 hfr6 hk7
   refine hK15 _ _ ?_
   refine zE hfr7 rfl rfl (fun hb50 => ?_) (fun hb50 => ?_)
   ·try simp only [nqs] at hb50
    refine zB fun _ hK16 => ?_
    replace hst7 := hst7.more (r := .free) trivial List.nodup_nil (by simp [Res.blocks])
    refine ra0 (tch := [(0, 1, (fun v => .blk v _)), (1, 1, (fun v => .blk v _))]) hst7 hfr7 (.consT rfl rfl (fun _ => rfl) rfl (zP zeroValue127 rfl) <| .consT rfl rfl (fun _ => rfl) rfl (zb 6 rfl rfl rfl fun y6 => za rfl rfl rfl rfl rfl sizeOf127 rfl rfl rfl) <| .nil) fun a8 w8 m8 hst8 hle8 hk8 => ?_
    have hfr8 := hk8.fr (.o 0 <| .nil)
    obtain ⟨g6, e17, _⟩ := hk8.ex 6 rfl
    replace hfr8 := hfr8.cons e17
    replace hst8 := hst8.fin (L' := [_, _]) (.cons e17 <| .cons e17 <| .nil)
    try simp only [List.take_succ_cons, List.take_zero, List.drop_succ_cons, List.drop_zero, List.cons_append, List.nil_append, List.append_nil, List.length_cons, List.length_nil, Nat.zero_add, Nat.reduceAdd] at hst8
    clear hst7 hfr7 hk8
    refine hK16 _ _ ?_
    refine zB fun _ hK18 => ?_
    have zq3 := hle7.trans hle8
    have zq4 := hle6.trans zq3
    have zq5 := hle5.trans zq4
    replace hS2 := hS2.mono zq5
    refine ra0 (tch := [(10, 0, (fun _ => .blkx _ _ _))]) hst8 hfr8 (.cons rfl (zC rfl) <| .cons rfl (zC rfl) <| .cons rfl (zL rfl) <| .cons rfl (zA (off := 0) rfl underlying79 rfl rfl sizeOf77 rfl) <| .cons rfl (zA (off := 15) rfl underlying77 rfl rfl sizeOf75 rfl) <| .cons rfl (zz (k := 15) (j := 0) rfl rfl isAgg75 sizeOf75 rfl rfl) <| .cons rfl (zm (φ := MP.ev (Zg 1 s.ev)) rfl (.cons rfl <| .cons rfl <| .nil) call56 (fun w m hK => by have hle_ := KC.le hK; have hA := KC.agree hK; have hS2 := hS2.mono hle_; exact FnG.mono (vdrop_c (n := 1) hA hS2.ev ⟨by omega, by omega⟩) fun _ _ _ _ h => h)) <| .cons rfl (zL rfl) <| .cons rfl (zA (off := 0) rfl underlying79 rfl rfl sizeOf77 rfl) <| .cons rfl (zA (off := 15) rfl underlying77 rfl rfl sizeOf75 rfl) <| .consT rfl rfl (fun _ => rfl) rfl (z8 58 rfl rfl rfl fun y58 => z1 (k := 15) rfl rfl rfl sizeOf75 rfl rfl rfl) <| .nil) fun a9 w9 m9 hst9 hle9 hk9 => ?_
    have hfr9 := hk9.fr (.o 0 <| .o 6 <| .nil)
    replace hst9 := hst9.fin (L' := [_, _]) (.cons rfl <| .nil)
    try simp only [List.take_succ_cons, List.take_zero, List.drop_succ_cons, List.drop_zero, List.cons_append, List.nil_append, List.append_nil, List.length_cons, List.length_nil, Nat.zero_add, Nat.reduceAdd] at hst9
    obtain ⟨pv9, hev9, hst9⟩ := hst9.unx (k := 0) rfl (fun _ => rfl)
    clear hst8 hfr8 hk9
    refine hK18 _ _ ?_
    refine zB fun _ hK20 => ?_
    have zq6 := zq5.trans hle9
    replace hla9 := hla9.mono zq6
    obtain ⟨p21, vs21, x21, ho21, hd21, hm_x21, ht21, hcv21, hl21, hv21⟩ := hla9.nth (k := 0) (by omega)
    cases ho21
    obtain ⟨oV21, cV21, bs21, rfl, hva21, hbd21⟩ := hv21.open_
    have hbv21 := hva21.big; have hcv21_ := hva21.cap
    obtain ⟨⟨oK21b, cK21b, oA21b, cA21b⟩, rfl, ⟨hik21b, hin21b⟩, hkk21b, haa21b⟩ := hbd21.open_
    dsimp only at hkk21b haa21b
    have hbg21b := hkk21b.big; have hcp21b := hkk21b.cap; have hbh21b := haa21b.big; have hcq21b := haa21b.cap
    obtain rfl : x21 = aa := by have h9 := hd21; simp at h9; exact h9.symm
    have hvl9 : x21.vars.length = vr.length + 1 := by rw [hav]; rfl
    obtain ⟨p22, vs22, x22, ho22, hd22, hm_x22, ht22, hcv22, hl22, hv22⟩ := hva21.nth (k := 0) (by omega)
    cases ho22
    subst hv22
    obtain rfl : x22 = x8 := by have h9 := hd22; rw [hav] at h9; simp at h9; exact h9.symm
    replace hS2 := hS2.mono hle9
    have hS4 : McR m9 ({ s with frames := fl, ev := Zg 1 s.ev } : Mc) ⟨yc, pe, yv, pv9, (if fc = 0 then (some p4 : Option Addr) else (some p4).map (fun x : Addr => x.add (0 * 1))), fl.length, co, cc, io, ic, mo, to, tc⟩ := ⟨hS2.c, hS2.e, hS2.v, hev9, hS2.fr, hS2.inp, hS2.next, hS2.kind, hS2.eff, hS2.steps, hS2.konts, hS2.tr⟩
    replace hS := hS.mono zq6
    replace hfq := hfq.mono zq6
    replace hcv4 := hcv4.mono zq6
    replace hv4 := hv4.mono zq6
    replace hff4 := hff4.mono zq6
    replace hct6 := hct6.mono zq6
    replace hcu6 := hcu6.mono zq6
    replace hee9 := hee9.mono zq6
    replace hM := hM.trans zq6
    refine zc (tch := [(24, 0, (fun _ => MK g (({ s with frames := fl, ev := Zg 1 s.ev } : Mc).goes x21.body (.cons x22 s.v e9)) ⟨yc, pe, yv, pv9, (if fc = 0 then (some p4 : Option Addr) else (some p4).map (fun x : Addr => x.add (0 * 1))), fl.length, co, cc, io, ic, mo, to, tc⟩))]) (fun _ => zw) hst9 hfr9 (by kernel_rfl) (by kernel_rfl) (by kernel_rfl) (.cons rfl (zC rfl) <| .cons rfl (zA (off := 0) rfl underlying127 rfl rfl sizeOf114 rfl) <| .cons rfl (zA (off := 1) rfl underlying114 rfl rfl sizeOf23 rfl) <| .cons rfl (zK (k := 1) (j := 1) rfl rfl isAgg23 rfl) <| .cons rfl (zI (k := 0) rfl rfl underlying23 sizeOf47 rfl (by omega)) <| .cons rfl (zA (off := 3) rfl underlying47 rfl rfl sizeOf25 rfl) <| .cons rfl (Zk rfl hcv21 isAgg25 sizeOf25 rfl rfl) <| .cons rfl (zA (off := 0) rfl underlying127 rfl rfl sizeOf114 rfl) <| .cons rfl (zA (off := 2) rfl underlying114 rfl rfl sizeOf67 rfl) <| .cons rfl (zK (k := 2) (j := 1) rfl rfl isAgg67 rfl) <| .cons rfl (zA (off := 0) rfl underlying127 rfl rfl sizeOf114 rfl) <| .cons rfl (zA (off := 1) rfl underlying114 rfl rfl sizeOf23 rfl) <| .cons rfl (zK (k := 1) (j := 1) rfl rfl isAgg23 rfl) <| .cons rfl (zI (k := 0) rfl rfl underlying23 sizeOf47 rfl (by omega)) <| .cons rfl (zA (off := 1) rfl underlying47 rfl rfl sizeOf45 rfl) <| .cons rfl (zJ rfl hcv21 isAgg45 rfl) <| .cons rfl (zI (k := 0) rfl rfl underlying45 sizeOf9 rfl (by omega)) <| .cons rfl (zk rfl hcv22 isAgg9 rfl) <| .cons rfl (zC rfl) <| .cons rfl (zL rfl) <| .cons rfl (zA (off := 0) rfl underlying79 rfl rfl sizeOf77 rfl) <| .cons rfl (zA (off := 8) rfl underlying77 rfl rfl sizeOf72 rfl) <| .cons rfl (zz (k := 8) (j := 0) rfl rfl isAgg72 sizeOf72 rfl rfl) <| .cons rfl (zm (φ := MP.env (.cons x22 s.v e9)) rfl (.cons rfl <| .cons rfl <| .cons rfl <| .nil) call46 (fun w m hK => by have hle_ := KC.le hK; have hA := KC.agree hK; have hee9 := hee9.mono hle_; have hS4 := hS4.mono hle_; exact FnG.mono (zBY (s := x22) hA hee9 hS4.v) fun _ _ _ _ h => h)) <| .consT rfl rfl (fun _ => rfl) rfl (zb 85 rfl rfl rfl fun y85 => zj rfl (.cons rfl <| .cons rfl <| .cons rfl <| .nil) call31 (κ := .eq (.bool true)) (fun σ w m hK hr hkn => by have hle_ := KC.le hK; have hA := KC.agree hK; have hM := hM.trans hle_; have hr0_ := hK.2; have hS := hS.mono hle_; have hfq := hfq.mono hle_; have hcv4 := hcv4.mono hle_; have hv4 := hv4.mono hle_; have hff4 := hff4.mono hle_; have hct6 := hct6.mono hle_; have hcu6 := hcu6.mono hle_; have hS2 := hS2.mono hle_; have hla9 := hla9.mono hle_; have hee9 := hee9.mono hle_; have hev9 := hev9.mono hle_; have hcv21 := hcv21.mono hle_; have hv21 := hv21.mono hle_; have hva21 := hva21.mono hle_; have hbd21 := hbd21.mono hle_; have hkk21b := hkk21b.mono hle_; have haa21b := haa21b.mono hle_; have hcv22 := hcv22.mono hle_; have hS4 := hS4.mono hle_; exact Zy (s := ({ s with frames := fl, ev := Zg 1 s.ev } : Mc)) (zAQ (s := ({ s with frames := fl, ev := Zg 1 s.ev } : Mc)) (y := ⟨yc, pe, yv, pv9, (if fc = 0 then (some p4 : Option Addr) else (some p4).map (fun x : Addr => x.add (0 * 1))), fl.length, co, cc, io, ic, mo, to, tc⟩) hA hr hS4 hbd21 hr0_))) <| .cons rfl (zD rfl) <| .nil) fun a10 w10 m10 hst10 hle10 hk10 => ?_
    have hfr10 := hk10.fr (.n 2 <| .nil)
    replace hst10 := hst10.fin (L' := [_, _]) (.cons rfl <| .nil)
    clear hst9 hfr9 hk10
    obtain ⟨y9, hst10, hS3, hK9⟩ := zp (k := 0) hst10 rfl
    simp only [List.set_cons_zero] at hst10
    refine hK20 _ _ ?_
    refine zN ?_
    repeat (with_reducible first | refine zH ?_ | refine zG ?_)
    exact zO hst10 hfr10 rfl (.tmp rfl <| .nil) (⟨⟨y9, (hst10.take 1).loc, hS3, ⟨hK9.co, hK9.cc, hK9.mo, hK9.to, hK9.tc⟩⟩, rfl⟩)
   ·simp at hb50
 ·skip
  have hq9 := hff4
  simp only [FmR] at hq9
  obtain ⟨p9, rfl, hni9, hev9⟩ := hq9
  unfold Mc.getsF at hrun
  injection hrun with hrun
  subst hrun
  refine rp0 hst4 hfr4 (.cons rfl (zC rfl) <| .nil) fun a5 w5 m5 hst5 hle5 hk5 => ?_
  have hfr5 := hk5.fr (.o 0 <| .n 31 <| .nil)
  clear hst4 hfr4 hk5
  refine hK8 _ _ ?_
  refine zT ?_
  refine zB fun _ hK24 => ?_
  refine rp0 hst5 hfr5 (.cons rfl (zAg rfl underlying108 rfl rfl zeroValue108) <| .cons rfl (zM rfl rfl) <| .cons rfl (zM rfl rfl) <| .nil) fun a6 w6 m6 hst6 hle6 hk6 => ?_
  have hfr6 := hk6.fr (.o 0 <| .o 31 <| .n 33 <| .n 34 <| .nil)
  clear hst5 hfr5 hk6
  refine hK24 _ _ ?_
  refine zE hfr6 rfl rfl (fun hb33 => ?_) (fun hb33 => ?_)
  ·simp at hb33
  ·try simp only [nqs] at hb33
   refine zB fun _ hK25 => ?_
   refine rp0 hst6 hfr6 (.cons rfl (zAg rfl underlying127 rfl rfl zeroValue127) <| .cons rfl (zM rfl rfl) <| .cons rfl (zM rfl rfl) <| .nil) fun a7 w7 m7 hst7 hle7 hk7 => ?_
   have hfr7 := hk7.fr (.o 0 <| .o 31 <| .n 50 <| .n 51 <| .nil)
   clear hst6 hfr6 hk7
   refine hK25 _ _ ?_
   refine zE hfr7 rfl rfl (fun hb50 => ?_) (fun hb50 => ?_)
   ·simp at hb50
   ·try simp only [nqs] at hb50
    refine zB fun _ hK26 => ?_
    refine rp0 hst7 hfr7 (.cons rfl (zBy rfl underlying130 rfl) <| .cons rfl (zM rfl rfl) <| .cons rfl (zM rfl rfl) <| .nil) fun a8 w8 m8 hst8 hle8 hk8 => ?_
    have hfr8 := hk8.fr (.o 0 <| .n 88 <| .n 89 <| .nil)
    clear hst7 hfr7 hk8
    refine hK26 _ _ ?_
    refine zE hfr8 rfl rfl (fun hb88 => ?_) (fun hb88 => ?_)
    ·try simp only [nqs] at hb88
     refine zB fun _ hK27 => ?_
     replace hst8 := hst8.more (r := .free) trivial List.nodup_nil (by simp [Res.blocks])
     refine ra0 (tch := [(0, 1, (fun v => .blk v _)), (1, 1, (fun v => .blk v _))]) hst8 hfr8 (.consT rfl rfl (fun _ => rfl) rfl (zP zeroValue130 rfl) <| .consT rfl rfl (fun _ => rfl) rfl (zb 7 rfl rfl rfl fun y7 => za rfl rfl rfl rfl rfl sizeOf130 rfl rfl rfl) <| .nil) fun a9 w9 m9 hst9 hle9 hk9 => ?_
     have hfr9 := hk9.fr (.o 0 <| .nil)
     obtain ⟨g28, e28, _⟩ := hk9.ex 7 rfl
     replace hfr9 := hfr9.cons e28
     replace hst9 := hst9.fin (L' := [_, _]) (.cons e28 <| .cons e28 <| .nil)
     try simp only [List.take_succ_cons, List.take_zero, List.drop_succ_cons, List.drop_zero, List.cons_append, List.nil_append, List.append_nil, List.length_cons, List.length_nil, Nat.zero_add, Nat.reduceAdd] at hst9
     clear hst8 hfr8 hk9
     refine hK27 _ _ ?_
     refine ra0 (tch := [(6, 0, (fun _ => .blk _ _))]) hst9 hfr9 (.cons rfl (zC rfl) <| .cons rfl (zA (off := 0) rfl underlying130 rfl rfl sizeOf75 rfl) <| .cons rfl (zz (j := 1) rfl rfl isAgg75 sizeOf75 rfl rfl) <| .cons rfl (zL rfl) <| .cons rfl (zA (off := 0) rfl underlying79 rfl rfl sizeOf77 rfl) <| .cons rfl (zA (off := 15) rfl underlying77 rfl rfl sizeOf75 rfl) <| .consT rfl rfl (fun _ => rfl) rfl (z1 (k := 15) rfl rfl rfl sizeOf75 rfl rfl rfl) <| .nil) fun a10 w10 m10 hst10 hle10 hk10 => ?_
     have hfr10 := hk10.fr (.nil)
     replace hst10 := hst10.fin (L' := [_, _]) (.cons rfl <| .nil)
     try simp only [List.take_succ_cons, List.take_zero, List.drop_succ_cons, List.drop_zero, List.cons_append, List.nil_append, List.append_nil, List.length_cons, List.length_nil, Nat.zero_add, Nat.reduceAdd] at hst10
     clear hst9 hfr9 hk10
     refine hK7 _ _ ?_
     refine zB fun _ hK29 => ?_
     refine rp0 hst10 hfr10 (.cons rfl (zD rfl) <| .nil) fun a11 w11 m11 hst11 hle11 hk11 => ?_
     have hfr11 := hk11.fr (.n 2 <| .nil)
     clear hst10 hfr10 hk11
     refine hK29 _ _ ?_
     refine zN ?_
     repeat (with_reducible first | refine zH ?_ | refine zG ?_)
     have zq7 := hle10.trans hle11
     have zq8 := hle9.trans zq7
     have zq9 := hle8.trans zq8
     have zq10 := hle7.trans zq9
     have zq11 := hle6.trans zq10
     have zq12 := hle5.trans zq11
     replace hS2 := hS2.mono zq12
     replace hev9 := hev9.mono zq12
     exact zO hst11 hfr11 rfl (.tmp rfl <| .nil) (⟨⟨⟨yc, pe, yv, p9, (if fc = 0 then (some p4 : Option Addr) else (some p4).map (fun x : Addr => x.add (0 * 1))), fl.length, co, cc, io, ic, mo, to, tc⟩, (hst11.take 1).loc, ⟨hS2.c, hS2.e, hS2.v, hev9, hS2.fr, hS2.inp, hS2.next, hS2.kind, hS2.eff, hS2.steps, hS2.konts, hS2.tr⟩, ⟨rfl, rfl, rfl, rfl, rfl⟩⟩, rfl⟩)
    ·simp at hb88
end Go.Proofs.Ytnppknioifgdfaa
namespace Go.Proofs.Ytnppknioifgdfaa
open Go.Proofs.Try
set_option linter.all false
set_option maxRecDepth 4000
open Go.RowKit
def Mc.bnd (s : Mc) : Bool := decide (s.frames.length ≤ 1000000) && decide (s.ev.len ≤ 1000000) && (decide (0 ≤ s.next) && decide (s.next ≤ 1000000)) && decide (s.cells.length ≤ 1000000) && decide (s.trace.length ≤ 1000000) && (decide (0 ≤ s.konts) && decide (s.konts ≤ 1000000))
theorem zBj {s : Mc} (h : s.bnd = true) : s.frames.length ≤ 1000000 ∧ s.ev.len ≤ 1000000 ∧ (0 ≤ s.next ∧ s.next ≤ 1000000) ∧ s.cells.length ≤ 1000000 ∧ s.trace.length ≤ 1000000 ∧ (0 ≤ s.konts ∧ s.konts ≤ 1000000) := by
 unfold Mc.bnd at h
 simp only [Bool.and_eq_true, decide_eq_true_eq] at h
 obtain ⟨⟨⟨⟨⟨h1, h2⟩, h3⟩, h4⟩, h5⟩, h6⟩ := h
 exact ⟨h1, h2, h3, h4, h5, h6⟩
abbrev zCY (n : Int) : Vl := ⟨1, n, [], [], .none, []⟩
abbrev zDa (n : Int) : Vl := ⟨2, n, [], [], .none, []⟩
abbrev zDZ : Vl := ⟨3, 0, [], [], .none, []⟩
abbrev refVl (n : Int) : Vl := ⟨5, n, [], [], .none, []⟩
abbrev zCB (self param : Str) (b : Cd) (e : Env) : Vl := ⟨6, 0, [], [], .mk self param b e, []⟩
abbrev zCn (l : List Fm) : Vl := ⟨6, 0, [], [], .none, l⟩
def Z6 (c : Cd) (e : Env) : Option (Option Vl) :=
 if c.kind = 1 then some (zAX c.name e)
 else if c.kind = 5 then (match c.kids with
  | [] => none
  | b :: _ => some (some (zCB [] c.name b e)))
 else if c.kind = 2 then some (some (zCY c.n))
 else if c.kind = 3 then some (some (zDa c.n))
 else some (some zDZ)
def zAB : List Cd → Env → Option (Option (List Vl))
 | [], _ => some (some [])
 | c :: l, e => match Z6 c e with
  | none => none
  | some none => some none
  | some (some v) => match zAB l e with
   | none => none
   | some none => some none
   | some (some vs) => some (some (v :: vs))
def zDU (vs : List Vl) : Option (Option (List Vl)) → Option (Option (List Vl))
 | none => none
 | some none => some none
 | some (some l) => some (some (vs ++ l))
def zCZ (s : Mc) : Fm → Option Mc
 | .bound q n c e => if s.bnd then some (s.push (.bound q n c e)) else none
 | .prompt q l e _ => if s.bnd then some (s.put q l e) else none
 | .restore _ n => if s.bnd then some ({ s.push (.restore s.ev n) with ev := Zg n.toNat s.ev } : Mc) else none
def Zr : Mc → List Fm → Option Mc
 | s, [] => some s
 | s, f :: l => match zCZ s f with
  | none => none
  | some t => Zr t l
def zBt (s : Mc) (f v : Vl) : Option (Mc × Bool) := match f.clo with
 | .mk self p b e => some (s.goes b (.cons p v (if self = [] then e else .cons self f e)), true)
 | .none => if f.fs = [] then some (s, false) else match Zr s f.fs with
  | none => none
  | some t => some (t.has v, true)
def bindAll : List Str → List Vl → Env → Env
 | x :: xs, v :: vs, e => bindAll xs vs (.cons x v e)
 | _, _, e => e
def Zo (v : Vl) (a : Ca) : Bool := decide (v.kind = 4) && decide (a.name = v.name) && decide ((a.vars.length : Int) = (v.kids.length : Int))
def zAa (s : Mc) (v : Vl) (l : List Ca) : Option (Mc × Bool) := match l.find? (Zo v) with
 | none => some (s, false)
 | some a => some (s.goes a.body (bindAll a.vars v.kids s.e), true)
def atF (k : Int) (fs : List Fm) : Nat → Option Nat
 | 0 => none
 | n + 1 => match fs[n]? with
  | some (.bound q _ _ _) => if q then none else atF k fs n
  | some (.prompt _ _ _ k') => if k' = k then some n else atF k fs n
  | _ => atF k fs n
def zAq (s : Mc) (op : Str) (v : Vl) : Option (Mc × Bool) := match z5 op s.eff with
 | none => some (s, false)
 | some q => match Zf q s.ev with
  | .nil => some (s, false)
  | .cons _ k l e o => match l with
   | [] => none
   | _ :: r => match r.find? (fun a => decide (a.name = op)) with
    | none => some (s, false)
    | some a => match a.vars with
     | [] => none
     | x :: xs => if s.bnd then (if a.tail then some (({ s.push (.restore s.ev ((s.ev.len : Int) - (o.len : Int))) with ev := o } : Mc).goes a.body (.cons x v e), true)
      else match atF k s.frames s.frames.length with
       | none => some (s, false)
       | some n => match xs with
        | [] => none
        | y :: _ => some (({ s with frames := s.frames.take n, ev := o, konts := s.konts + 1 } : Mc).goes a.body (.cons y (zCn (s.frames.drop n)) (.cons x v e)), true)) else none
def zEc (s : Str) (a b : Int) : Option Vl :=
 if s = [43] then some (zCY (IntKind.i64.wrap (a + b)))
 else if s = [45] then some (zCY (IntKind.i64.wrap (a - b)))
 else if s = [42] then some (zCY (IntKind.i64.wrap (a * b)))
 else if s = [47] then (if b = 0 then none else some (zCY (IntKind.i64.wrap (a.tdiv b))))
 else if s = [60] then some (zDa (if a < b then 1 else 0))
 else if s = [61] then some (zDa (if a = b then 1 else 0))
 else none
def opA (s : Mc) (name : Str) (l : List Vl) : Option (Mc × Bool) := match l with
 | [x, y] => if x.kind = 1 ∧ y.kind = 1 then (match zEc name x.n y.n with
  | some v => some (s.has v, true)
  | none => if name = [47] then some (s.ends 2, true) else some (s, false)) else some (s, false)
 | _ => some (s, false)
def opM (s : Mc) (name : Str) (l : List Vl) : Option (Mc × Bool) :=
 if name = [114, 101, 97, 100] then (match s.input with
  | [] => some (s.ends 3, true)
  | n :: r => some (({ s with input := r } : Mc).has (zCY n), true))
 else if name = [114, 101, 102] then (match l with
  | [] => none
  | v :: _ => if s.bnd then some (({ s with cells := s.cells ++ [v] } : Mc).has (refVl (s.cells.length : Int)), true) else none)
 else if name = [112, 114, 105, 110, 116] then (match l with
  | [] => none
  | v :: _ => if v.kind = 1 then (if s.bnd then some (({ s with trace := s.trace ++ [v.n] } : Mc).has zDZ, true) else none) else opA s name l)
 else if name = [33] ∨ name = [58, 61] then (match l with
  | [] => none
  | v :: r => if v.kind = 5 then (if 0 ≤ v.n then (if name = [33] then (match s.cells[v.n.toNat]? with
    | some x => some (s.has x, true)
    | none => none)
   else (match r with
    | x :: _ => if v.n.toNat < s.cells.length then some (({ s with cells := s.cells.set v.n.toNat x } : Mc).has zDZ, true) else none
    | [] => none)) else none) else opA s name l)
 else opA s name l
def appK (s : Mc) (c : Cd) (l : List Vl) : Option (Mc × Bool) :=
 if c.kind = 6 then (match l with
  | f :: v :: _ => zBt s f v
  | _ => none)
 else if c.kind = 11 then opM s c.name l
 else if c.kind = 12 then some (s.has ⟨4, 0, c.name, l, .none, []⟩, true)
 else match l with
  | [] => none
  | v :: _ => if c.kind = 13 then zAa s v c.arms else zAq s c.name v
def ifM (s : Mc) (v : Vl) (ks : List Cd) (e : Env) : Option (Mc × Bool) :=
 if v.kind = 2 then (if v.n ≤ 2 then (match ks[(2 - v.n).toNat]? with
  | some d => some (s.goes d e, true)
  | none => none) else none) else some (s, false)
def zAr (s : Mc) : Option (Mc × Bool) :=
 if s.c.kind = 7 ∨ s.c.kind = 8 then (match s.c.kids with
  | a :: b :: _ => if s.bnd then some ((s.push (.bound (decide (s.c.kind = 7)) s.c.name b s.e)).goes a s.e, true) else none
  | _ => none)
 else if s.c.kind = 9 then (match s.c.kids with
  | a :: b :: _ => some (s.goes b (.cons s.c.name (zCB s.c.name s.c.param a s.e) s.e), true)
  | _ => none)
 else if s.c.kind = 15 then (match s.c.kids with
  | a :: _ => if s.bnd then some ((s.put s.c.name s.c.arms s.e).goes a s.e, true) else none
  | _ => none)
 else if s.c.kind = 10 then (match s.c.kids with
  | a :: _ => (match Z6 a s.e with
   | none => none
   | some none => some (s, false)
   | some (some v) => ifM s v s.c.kids s.e)
  | _ => none)
 else if s.c.kind < 6 then (match Z6 s.c s.e with
  | none => none
  | some none => some (s, false)
  | some (some v) => some (s.has v, true))
 else if s.c.kids.length ≤ 1000000 then (match zAB s.c.kids s.e with
  | none => none
  | some none => some (s, false)
  | some (some l) => appK s s.c l)
 else none
def zDB (s : Mc) : Option Mc := if s.at_ then (match zAr s with
  | none => none
  | some (t, b) => some (if b then t else t.ends 4)) else s.gets
def zCu : Nat → Mc → Option Mc
 | 0, s => some s
 | n + 1, s => if s.ended then some s else match zDB { s with steps := s.steps + 1 } with
  | none => none
  | some t => zCu n t
theorem atom_var {c : Cd} {e : Env} {r : Option Vl} (h : Z6 c e = some r) (hk : c.kind = 1) : r = zAX c.name e := by
 unfold Z6 at h; rw [if_pos hk] at h; injection h with h; exact h.symm
theorem atom_fun {c : Cd} {e : Env} {r : Option Vl} (h : Z6 c e = some r) (hk : c.kind = 5) : ∃ b ks, c.kids = b :: ks ∧ r = some (zCB [] c.name b e) := by
 unfold Z6 at h; rw [if_neg (by omega), if_pos hk] at h
 split at h
 ·cases h
 ·rename_i b ks e1; injection h with h; exact ⟨b, ks, e1, h.symm⟩
theorem atom_int {c : Cd} {e : Env} {r : Option Vl} (h : Z6 c e = some r) (hk : c.kind = 2) : r = some (zCY c.n) := by
 unfold Z6 at h; rw [if_neg (by omega), if_neg (by omega), if_pos hk] at h; injection h with h; exact h.symm
theorem atom_bool {c : Cd} {e : Env} {r : Option Vl} (h : Z6 c e = some r) (hk : c.kind = 3) : r = some (zDa c.n) := by
 unfold Z6 at h; rw [if_neg (by omega), if_neg (by omega), if_neg (by omega), if_pos hk] at h; injection h with h; exact h.symm
theorem atom_unit {c : Cd} {e : Env} {r : Option Vl} (h : Z6 c e = some r) (h1 : ¬ c.kind = 1) (h2 : ¬ c.kind = 5) (h3 : ¬ c.kind = 2) (h4 : ¬ c.kind = 3) : r = some zDZ := by
 unfold Z6 at h; rw [if_neg h1, if_neg h2, if_neg h3, if_neg h4] at h; injection h with h; exact h.symm
theorem in0_ : zo 0 := ⟨by decide, by decide⟩
theorem in4_ : zo 4 := ⟨by decide, by decide⟩
theorem in6_ : zo 6 := ⟨by decide, by decide⟩
theorem VlR.flat {m : Mem} {k n : Int} (hk : zo k) (hn : zo n) : VlR m ⟨k, n, [], [], .none, []⟩ (vlV ⟨k, n, [], [], .none, []⟩ zDI) := VlR.build hk hn Sl.empty (by simp only [Vl.clo, CloR]) Sl.empty fun _ => rfl
theorem VlR.fun_ {m : Mem} {s q : Str} {b : Cd} {e : Env} {a : Addr} {bs : List Value} {pe : Option Addr} (hc : CellsAt m a (S s :: S q :: (bs ++ [.pointer pe]))) (hb : CdR m b bs) (he : EnvR m e pe) : VlR m (zCB s q b e) (vlV (zCB s q b e) ⟨none, 0, some a, none, 0⟩) :=
 VlR.build in6_ in0_ Sl.empty (by simp only [Vl.clo, CloR]; exact ⟨a, bs, pe, rfl, hc, hb, he⟩) Sl.empty fun _ => rfl
theorem VlR.kont {m : Mem} {l : List Fm} {o : Option Addr} {c : Nat} (h : Fms m o l.length c l) (h0 : l ≠ []) : VlR m (zCn l) (vlV (zCn l) ⟨none, 0, none, o, c⟩) :=
 VlR.build in6_ in0_ Sl.empty (by simp only [Vl.clo, CloR]) h fun e => absurd e h0
theorem VlR.con {m : Mem} {s : Str} {l : List Vl} {o : Option Addr} {c : Nat} (h : Vls m o l.length c l) : VlR m ⟨4, 0, s, l, .none, []⟩ (vlV ⟨4, 0, s, l, .none, []⟩ ⟨o, c, none, none, 0⟩) :=
 VlR.build in4_ in0_ h (by simp only [Vl.clo, CloR]) Sl.empty fun _ => rfl
theorem atoms_cons {c : Cd} {l : List Cd} {e : Env} {ga : List Vl} {r : Option (List Vl)} (h : some r = zDU ga (zAB (c :: l) e)) : ∃ q, Z6 c e = some q ∧ (q = none → r = none) ∧ ∀ v, q = some v → some r = zDU (ga ++ [v]) (zAB l e) := by
 rw [zAB] at h
 cases hq : Z6 c e with
 | none => rw [hq] at h; cases h
 | some q =>
  rw [hq] at h
  refine ⟨q, rfl, fun e1 => ?_, fun v e1 => ?_⟩
  ·subst e1; injection h
  ·subst e1
   rw [h]
   cases hl : zAB l e with
   | none => simp only [hl, zDU]
   | some o => cases o with
    | none => simp only [hl, zDU]
    | some vs => simp only [hl, zDU, List.append_assoc, List.singleton_append]
theorem addVs_nil : ∀ o : Option (Option (List Vl)), zDU [] o = o
 | none => rfl
 | some none => rfl
 | some (some l) => by simp [zDU]
theorem some_getD {α : Type} {q : Option α} {z : α} (h : q.isSome = true) : q = some (q.getD z) := by cases q with | none => cases h | some x => rfl
theorem none_of {α : Type} {q : Option α} (h : q.isSome = false) : q = none := by cases q with | none => rfl | some x => cases h
def MP.vlsb (l : List Vl) (b : Bool) : MP := MP.mem (fun y : Option Addr × Nat => .tuple #[.slice y.1 l.length y.2, .bool b]) (fun y m => Vls m y.1 l.length y.2 l) fun hm h => h.mono hm
abbrev VlV (k n : Int) (s : Str) (ks : Value) : Value := .agg #[.int .i64 k, .int .i64 n, S s, ks]
abbrev zBw : Value := .slice none 0 0
set_option maxHeartbeats 400000 in
theorem zCv {w : World} {m : Mem} {n : Int} (hA : Agree w m) :
  FnV Try.prog 74 #[.int .i64 n] w m (fun _ _ v => v = VlV 1 n [] zBw) := by
 refine zZ (vs := [.int .i64 n]) func74 rfl rfl rfl fun a0 hfr0 => ?_
 have hst0 := zW hA (zg [] _ w m)
 refine zB fun _ hK1 => ?_
 replace hst0 := hst0.more (r := .free) trivial List.nodup_nil (by simp [Res.blocks])
 refine ra0 (tch := [(0, 0, (fun v => .blk v _))]) hst0 hfr0 (.consT rfl rfl (fun _ => rfl) rfl (zP zeroValue31 rfl) <| .nil) fun a1 w1 m1 hst1 hle1 hk1 => ?_
 have hfr1 := hk1.fr (.o 0 <| .nil)
 obtain ⟨g2, e2, _⟩ := hk1.ex 2 rfl
 replace hfr1 := hfr1.cons e2
 replace hst1 := hst1.fin (L' := [_]) (.cons e2 <| .nil)
 clear hst0 hfr0 hk1
 refine hK1 _ _ ?_
 refine zB fun _ hK3 => ?_
 refine ra0 (tch := [(2, 0, (fun _ => .blk _ _))]) hst1 hfr1 (.cons rfl (zC rfl) <| .cons rfl (zQ (.cons rfl <| .cons rfl <| .nil) underlying31 zeroValue31 (.cons sizeOf3 <| .cons sizeOf3 <| .cons sizeOf9 <| .cons sizeOf29 <| .nil) rfl) <| .consT rfl rfl (fun _ => rfl) rfl (ze rfl rfl rfl sizeOf31 rfl rfl rfl) <| .nil) fun a2 w2 m2 hst2 hle2 hk2 => ?_
 have hfr2 := hk2.fr (.o 2 <| .nil)
 replace hst2 := hst2.fin (L' := [_]) (.cons rfl <| .nil)
 clear hst1 hfr1 hk2
 refine hK3 _ _ ?_
 refine zN ?_
 repeat (with_reducible first | refine zH ?_ | refine zG ?_)
 exact zO hst2 hfr2 rfl (.cell rfl (zi (zf (hst2.loc.at_ (k := 0) rfl)) isAgg31 sizeOf31) <| .nil) (rfl)
set_option maxHeartbeats 400000 in
theorem truth_c {w : World} {m : Mem} {b : Bool} (hA : Agree w m) :
  FnV Try.prog 79 #[.bool b] w m (fun _ _ v => v = VlV 2 (if b then 1 else 0) [] zBw) := by
 refine zZ (vs := [.bool b]) func79 rfl rfl rfl fun a0 hfr0 => ?_
 have hst0 := zW hA (zg [] _ w m)
 refine zB fun _ hK1 => ?_
 replace hst0 := hst0.more (r := .free) trivial List.nodup_nil (by simp [Res.blocks])
 refine ra0 (tch := [(0, 0, (fun v => .blk v _))]) hst0 hfr0 (.consT rfl rfl (fun _ => rfl) rfl (zP zeroValue31 rfl) <| .nil) fun a1 w1 m1 hst1 hle1 hk1 => ?_
 have hfr1 := hk1.fr (.o 0 <| .nil)
 obtain ⟨g2, e2, _⟩ := hk1.ex 2 rfl
 replace hfr1 := hfr1.cons e2
 replace hst1 := hst1.fin (L' := [_]) (.cons e2 <| .nil)
 clear hst0 hfr0 hk1
 refine hK1 _ _ ?_
 refine zB fun _ hK3 => ?_
 refine zB fun _ hK4 => ?_
 refine rp0 hst1 hfr1 (.cons rfl (zC rfl) <| .nil) fun a2 w2 m2 hst2 hle2 hk2 => ?_
 have hfr2 := hk2.fr (.o 2 <| .n 3 <| .nil)
 clear hst1 hfr1 hk2
 refine hK4 _ _ ?_
 refine zE hfr2 rfl rfl (fun hb3 => ?_) (fun hb3 => ?_)
 ·subst hb3
  refine zB fun _ hK5 => ?_
  refine ra0 (tch := [(1, 0, (fun _ => .blk _ _))]) hst2 hfr2 (.cons rfl (zQ (.cons rfl <| .cons rfl <| .nil) underlying31 zeroValue31 (.cons sizeOf3 <| .cons sizeOf3 <| .cons sizeOf9 <| .cons sizeOf29 <| .nil) rfl) <| .consT rfl rfl (fun _ => rfl) rfl (ze rfl rfl rfl sizeOf31 rfl rfl rfl) <| .nil) fun a3 w3 m3 hst3 hle3 hk3 => ?_
  have hfr3 := hk3.fr (.o 2 <| .nil)
  replace hst3 := hst3.fin (L' := [_]) (.cons rfl <| .nil)
  clear hst2 hfr2 hk3
  refine hK5 _ _ ?_
  refine zN ?_
  repeat (with_reducible first | refine zH ?_ | refine zG ?_)
  exact zO hst3 hfr3 rfl (.cell rfl (zi (zf (hst3.loc.at_ (k := 0) rfl)) isAgg31 sizeOf31) <| .nil) (rfl)
 ·subst hb3
  refine zR ?_
  refine hK3 _ _ ?_
  refine zB fun _ hK7 => ?_
  refine ra0 (tch := [(1, 0, (fun _ => .blk _ _))]) hst2 hfr2 (.cons rfl (zQ (.cons rfl <| .nil) underlying31 zeroValue31 (.cons sizeOf3 <| .cons sizeOf3 <| .cons sizeOf9 <| .cons sizeOf29 <| .nil) rfl) <| .consT rfl rfl (fun _ => rfl) rfl (ze rfl rfl rfl sizeOf31 rfl rfl rfl) <| .nil) fun a3 w3 m3 hst3 hle3 hk3 => ?_
  have hfr3 := hk3.fr (.o 2 <| .nil)
  replace hst3 := hst3.fin (L' := [_]) (.cons rfl <| .nil)
  clear hst2 hfr2 hk3
  refine hK7 _ _ ?_
  refine zN ?_
  repeat (with_reducible first | refine zH ?_ | refine zG ?_)
  exact zO hst3 hfr3 rfl (.cell rfl (zi (zf (hst3.loc.at_ (k := 0) rfl)) isAgg31 sizeOf31) <| .nil) (rfl)
set_option maxHeartbeats 400000 in
theorem op_add {w : World} {m : Mem} {a b : Int} {p q : Addr} (hA : Agree w m) (hp : CellsAt m p [.int .i64 a]) (hq : CellsAt m q [.int .i64 b]) :
  FnV Try.prog 73 #[.pointer (some p), .pointer (some q)] w m (fun _ _ v => v = VlV 1 (IntKind.i64.wrap (a + b)) [] zBw) := by
 refine zZ (vs := [.pointer (some p), .pointer (some q)]) func73 rfl rfl rfl fun a0 hfr0 => ?_
 have hst0 := zW hA (zg [] _ w m)
 refine zB fun _ hK1 => ?_
 replace hst0 := hst0.more (r := .free) trivial List.nodup_nil (by simp [Res.blocks])
 refine ra0 (tch := [(0, 0, (fun v => .blk v _))]) hst0 hfr0 (.consT rfl rfl (fun _ => rfl) rfl (zP zeroValue31 rfl) <| .nil) fun a1 w1 m1 hst1 hle1 hk1 => ?_
 have hfr1 := hk1.fr (.o 0 <| .o 1 <| .nil)
 obtain ⟨g2, e2, _⟩ := hk1.ex 2 rfl
 replace hfr1 := hfr1.cons e2
 replace hst1 := hst1.fin (L' := [_]) (.cons e2 <| .nil)
 replace hp := hp.mono hle1
 replace hq := hq.mono hle1
 clear hst0 hfr0 hk1
 refine hK1 _ _ ?_
 refine zB fun _ hK3 => ?_
 refine ra0 (tch := [(4, 0, (fun _ => .blk _ _))]) hst1 hfr1 (.cons rfl (zk rfl hp isAgg3 rfl) <| .cons rfl (zk rfl hq isAgg3 rfl) <| .cons rfl (ob_addW rfl rfl) <| .cons rfl (zX rfl (.cons rfl <| .nil) call74 (fun w m hK => by exact zCv (KC.agree hK))) <| .consT rfl rfl (fun _ => rfl) rfl (ze rfl rfl rfl sizeOf31 rfl rfl rfl) <| .nil) fun a2 w2 m2 hst2 hle2 hk2 => ?_
 have hfr2 := hk2.fr (.o 2 <| .nil)
 replace hst2 := hst2.fin (L' := [_]) (.cons rfl <| .nil)
 clear hst1 hfr1 hk2
 refine hK3 _ _ ?_
 refine zN ?_
 repeat (with_reducible first | refine zH ?_ | refine zG ?_)
 exact zO hst2 hfr2 rfl (.cell rfl (zi (zf (hst2.loc.at_ (k := 0) rfl)) isAgg31 sizeOf31) <| .nil) (rfl)
set_option maxHeartbeats 400000 in
theorem op_sub {w : World} {m : Mem} {a b : Int} {p q : Addr} (hA : Agree w m) (hp : CellsAt m p [.int .i64 a]) (hq : CellsAt m q [.int .i64 b]) :
  FnV Try.prog 75 #[.pointer (some p), .pointer (some q)] w m (fun _ _ v => v = VlV 1 (IntKind.i64.wrap (a - b)) [] zBw) := by
 refine zZ (vs := [.pointer (some p), .pointer (some q)]) func75 rfl rfl rfl fun a0 hfr0 => ?_
 have hst0 := zW hA (zg [] _ w m)
 refine zB fun _ hK1 => ?_
 replace hst0 := hst0.more (r := .free) trivial List.nodup_nil (by simp [Res.blocks])
 refine ra0 (tch := [(0, 0, (fun v => .blk v _))]) hst0 hfr0 (.consT rfl rfl (fun _ => rfl) rfl (zP zeroValue31 rfl) <| .nil) fun a1 w1 m1 hst1 hle1 hk1 => ?_
 have hfr1 := hk1.fr (.o 0 <| .o 1 <| .nil)
 obtain ⟨g2, e2, _⟩ := hk1.ex 2 rfl
 replace hfr1 := hfr1.cons e2
 replace hst1 := hst1.fin (L' := [_]) (.cons e2 <| .nil)
 replace hp := hp.mono hle1
 replace hq := hq.mono hle1
 clear hst0 hfr0 hk1
 refine hK1 _ _ ?_
 refine zB fun _ hK3 => ?_
 refine ra0 (tch := [(4, 0, (fun _ => .blk _ _))]) hst1 hfr1 (.cons rfl (zk rfl hp isAgg3 rfl) <| .cons rfl (zk rfl hq isAgg3 rfl) <| .cons rfl (ob_subW rfl rfl) <| .cons rfl (zX rfl (.cons rfl <| .nil) call74 (fun w m hK => by exact zCv (KC.agree hK))) <| .consT rfl rfl (fun _ => rfl) rfl (ze rfl rfl rfl sizeOf31 rfl rfl rfl) <| .nil) fun a2 w2 m2 hst2 hle2 hk2 => ?_
 have hfr2 := hk2.fr (.o 2 <| .nil)
 replace hst2 := hst2.fin (L' := [_]) (.cons rfl <| .nil)
 clear hst1 hfr1 hk2
 refine hK3 _ _ ?_
 refine zN ?_
 repeat (with_reducible first | refine zH ?_ | refine zG ?_)
 exact zO hst2 hfr2 rfl (.cell rfl (zi (zf (hst2.loc.at_ (k := 0) rfl)) isAgg31 sizeOf31) <| .nil) (rfl)
set_option maxHeartbeats 400000 in
theorem op_mul {w : World} {m : Mem} {a b : Int} {p q : Addr} (hA : Agree w m) (hp : CellsAt m p [.int .i64 a]) (hq : CellsAt m q [.int .i64 b]) :
  FnV Try.prog 76 #[.pointer (some p), .pointer (some q)] w m (fun _ _ v => v = VlV 1 (IntKind.i64.wrap (a * b)) [] zBw) := by
 refine zZ (vs := [.pointer (some p), .pointer (some q)]) func76 rfl rfl rfl fun a0 hfr0 => ?_
 have hst0 := zW hA (zg [] _ w m)
 refine zB fun _ hK1 => ?_
 replace hst0 := hst0.more (r := .free) trivial List.nodup_nil (by simp [Res.blocks])
 refine ra0 (tch := [(0, 0, (fun v => .blk v _))]) hst0 hfr0 (.consT rfl rfl (fun _ => rfl) rfl (zP zeroValue31 rfl) <| .nil) fun a1 w1 m1 hst1 hle1 hk1 => ?_
 have hfr1 := hk1.fr (.o 0 <| .o 1 <| .nil)
 obtain ⟨g2, e2, _⟩ := hk1.ex 2 rfl
 replace hfr1 := hfr1.cons e2
 replace hst1 := hst1.fin (L' := [_]) (.cons e2 <| .nil)
 replace hp := hp.mono hle1
 replace hq := hq.mono hle1
 clear hst0 hfr0 hk1
 refine hK1 _ _ ?_
 refine zB fun _ hK3 => ?_
 refine ra0 (tch := [(4, 0, (fun _ => .blk _ _))]) hst1 hfr1 (.cons rfl (zk rfl hp isAgg3 rfl) <| .cons rfl (zk rfl hq isAgg3 rfl) <| .cons rfl (ob_mulW rfl rfl) <| .cons rfl (zX rfl (.cons rfl <| .nil) call74 (fun w m hK => by exact zCv (KC.agree hK))) <| .consT rfl rfl (fun _ => rfl) rfl (ze rfl rfl rfl sizeOf31 rfl rfl rfl) <| .nil) fun a2 w2 m2 hst2 hle2 hk2 => ?_
 have hfr2 := hk2.fr (.o 2 <| .nil)
 replace hst2 := hst2.fin (L' := [_]) (.cons rfl <| .nil)
 clear hst1 hfr1 hk2
 refine hK3 _ _ ?_
 refine zN ?_
 repeat (with_reducible first | refine zH ?_ | refine zG ?_)
 exact zO hst2 hfr2 rfl (.cell rfl (zi (zf (hst2.loc.at_ (k := 0) rfl)) isAgg31 sizeOf31) <| .nil) (rfl)
set_option maxHeartbeats 400000 in
theorem op_quo {w : World} {m : Mem} {a b : Int} {p q : Addr} (hA : Agree w m) (hp : CellsAt m p [.int .i64 a]) (hq : CellsAt m q [.int .i64 b]) (hb : b ≠ 0) :
  FnV Try.prog 77 #[.pointer (some p), .pointer (some q)] w m (fun _ _ v => v = VlV 1 (IntKind.i64.wrap (a.tdiv b)) [] zBw) := by
 refine zZ (vs := [.pointer (some p), .pointer (some q)]) func77 rfl rfl rfl fun a0 hfr0 => ?_
 have hst0 := zW hA (zg [] _ w m)
 refine zB fun _ hK1 => ?_
 replace hst0 := hst0.more (r := .free) trivial List.nodup_nil (by simp [Res.blocks])
 refine ra0 (tch := [(0, 0, (fun v => .blk v _))]) hst0 hfr0 (.consT rfl rfl (fun _ => rfl) rfl (zP zeroValue31 rfl) <| .nil) fun a1 w1 m1 hst1 hle1 hk1 => ?_
 have hfr1 := hk1.fr (.o 0 <| .o 1 <| .nil)
 obtain ⟨g2, e2, _⟩ := hk1.ex 2 rfl
 replace hfr1 := hfr1.cons e2
 replace hst1 := hst1.fin (L' := [_]) (.cons e2 <| .nil)
 replace hp := hp.mono hle1
 replace hq := hq.mono hle1
 clear hst0 hfr0 hk1
 refine hK1 _ _ ?_
 refine zB fun _ hK3 => ?_
 refine ra0 (tch := [(4, 0, (fun _ => .blk _ _))]) hst1 hfr1 (.cons rfl (zk rfl hp isAgg3 rfl) <| .cons rfl (zk rfl hq isAgg3 rfl) <| .cons rfl (ob_quoW rfl rfl hb) <| .cons rfl (zX rfl (.cons rfl <| .nil) call74 (fun w m hK => by exact zCv (KC.agree hK))) <| .consT rfl rfl (fun _ => rfl) rfl (ze rfl rfl rfl sizeOf31 rfl rfl rfl) <| .nil) fun a2 w2 m2 hst2 hle2 hk2 => ?_
 have hfr2 := hk2.fr (.o 2 <| .nil)
 replace hst2 := hst2.fin (L' := [_]) (.cons rfl <| .nil)
 clear hst1 hfr1 hk2
 refine hK3 _ _ ?_
 refine zN ?_
 repeat (with_reducible first | refine zH ?_ | refine zG ?_)
 exact zO hst2 hfr2 rfl (.cell rfl (zi (zf (hst2.loc.at_ (k := 0) rfl)) isAgg31 sizeOf31) <| .nil) (rfl)
set_option maxHeartbeats 400000 in
theorem op_lss {w : World} {m : Mem} {a b : Int} {p q : Addr} (hA : Agree w m) (hp : CellsAt m p [.int .i64 a]) (hq : CellsAt m q [.int .i64 b]) :
  FnV Try.prog 78 #[.pointer (some p), .pointer (some q)] w m (fun _ _ v => v = VlV 2 (if decide (a < b) then 1 else 0) [] zBw) := by
 refine zZ (vs := [.pointer (some p), .pointer (some q)]) func78 rfl rfl rfl fun a0 hfr0 => ?_
 have hst0 := zW hA (zg [] _ w m)
 refine zB fun _ hK1 => ?_
 replace hst0 := hst0.more (r := .free) trivial List.nodup_nil (by simp [Res.blocks])
 refine ra0 (tch := [(0, 0, (fun v => .blk v _))]) hst0 hfr0 (.consT rfl rfl (fun _ => rfl) rfl (zP zeroValue31 rfl) <| .nil) fun a1 w1 m1 hst1 hle1 hk1 => ?_
 have hfr1 := hk1.fr (.o 0 <| .o 1 <| .nil)
 obtain ⟨g2, e2, _⟩ := hk1.ex 2 rfl
 replace hfr1 := hfr1.cons e2
 replace hst1 := hst1.fin (L' := [_]) (.cons e2 <| .nil)
 replace hp := hp.mono hle1
 replace hq := hq.mono hle1
 clear hst0 hfr0 hk1
 refine hK1 _ _ ?_
 refine zB fun _ hK3 => ?_
 refine ra0 (tch := [(4, 0, (fun _ => .blk _ _))]) hst1 hfr1 (.cons rfl (zk rfl hp isAgg3 rfl) <| .cons rfl (zk rfl hq isAgg3 rfl) <| .cons rfl (ZA rfl rfl) <| .cons rfl (zX rfl (.cons rfl <| .nil) call79 (fun w m hK => by exact truth_c (KC.agree hK))) <| .consT rfl rfl (fun _ => rfl) rfl (ze rfl rfl rfl sizeOf31 rfl rfl rfl) <| .nil) fun a2 w2 m2 hst2 hle2 hk2 => ?_
 have hfr2 := hk2.fr (.o 2 <| .nil)
 replace hst2 := hst2.fin (L' := [_]) (.cons rfl <| .nil)
 clear hst1 hfr1 hk2
 refine hK3 _ _ ?_
 refine zN ?_
 repeat (with_reducible first | refine zH ?_ | refine zG ?_)
 exact zO hst2 hfr2 rfl (.cell rfl (zi (zf (hst2.loc.at_ (k := 0) rfl)) isAgg31 sizeOf31) <| .nil) (rfl)
set_option maxHeartbeats 400000 in
theorem op_eql {w : World} {m : Mem} {a b : Int} {p q : Addr} (hA : Agree w m) (hp : CellsAt m p [.int .i64 a]) (hq : CellsAt m q [.int .i64 b]) :
  FnV Try.prog 80 #[.pointer (some p), .pointer (some q)] w m (fun _ _ v => v = VlV 2 (if decide (a = b) then 1 else 0) [] zBw) := by
 refine zZ (vs := [.pointer (some p), .pointer (some q)]) func80 rfl rfl rfl fun a0 hfr0 => ?_
 have hst0 := zW hA (zg [] _ w m)
 refine zB fun _ hK1 => ?_
 replace hst0 := hst0.more (r := .free) trivial List.nodup_nil (by simp [Res.blocks])
 refine ra0 (tch := [(0, 0, (fun v => .blk v _))]) hst0 hfr0 (.consT rfl rfl (fun _ => rfl) rfl (zP zeroValue31 rfl) <| .nil) fun a1 w1 m1 hst1 hle1 hk1 => ?_
 have hfr1 := hk1.fr (.o 0 <| .o 1 <| .nil)
 obtain ⟨g2, e2, _⟩ := hk1.ex 2 rfl
 replace hfr1 := hfr1.cons e2
 replace hst1 := hst1.fin (L' := [_]) (.cons e2 <| .nil)
 replace hp := hp.mono hle1
 replace hq := hq.mono hle1
 clear hst0 hfr0 hk1
 refine hK1 _ _ ?_
 refine zB fun _ hK3 => ?_
 refine ra0 (tch := [(4, 0, (fun _ => .blk _ _))]) hst1 hfr1 (.cons rfl (zk rfl hp isAgg3 rfl) <| .cons rfl (zk rfl hq isAgg3 rfl) <| .cons rfl (zS rfl rfl) <| .cons rfl (zX rfl (.cons rfl <| .nil) call79 (fun w m hK => by exact truth_c (KC.agree hK))) <| .consT rfl rfl (fun _ => rfl) rfl (ze rfl rfl rfl sizeOf31 rfl rfl rfl) <| .nil) fun a2 w2 m2 hst2 hle2 hk2 => ?_
 have hfr2 := hk2.fr (.o 2 <| .nil)
 replace hst2 := hst2.fin (L' := [_]) (.cons rfl <| .nil)
 clear hst1 hfr1 hk2
 refine hK3 _ _ ?_
 refine zN ?_
 repeat (with_reducible first | refine zH ?_ | refine zG ?_)
 exact zO hst2 hfr2 rfl (.cell rfl (zi (zf (hst2.loc.at_ (k := 0) rfl)) isAgg31 sizeOf31) <| .nil) (rfl)
def zAm (s : Str) (a b : Int) : Value × Bool :=
 if s = [43] then (VlV 1 (IntKind.i64.wrap (a + b)) [] zBw, true) else if s = [45] then (VlV 1 (IntKind.i64.wrap (a - b)) [] zBw, true) else if s = [42] then (VlV 1 (IntKind.i64.wrap (a * b)) [] zBw, true)
 else if s = [47] then (if b = 0 then (VlV 0 0 [] zBw, false) else (VlV 1 (IntKind.i64.wrap (a.tdiv b)) [] zBw, true))
 else if s = [60] then (VlV 2 (if decide (a < b) then 1 else 0) [] zBw, true) else if s = [61] then (VlV 2 (if decide (a = b) then 1 else 0) [] zBw, true) else (VlV 0 0 [] zBw, false)
theorem op_cases (s : Str) : s = [43] ∨ s = [45] ∨ s = [42] ∨ s = [47] ∨ s = [60] ∨ s = [61] ∨ (s ≠ [43] ∧ s ≠ [45] ∧ s ≠ [42] ∧ s ≠ [47] ∧ s ≠ [60] ∧ s ≠ [61]) := by
 by_cases h1 : s = [43] <;> by_cases h2 : s = [45] <;> by_cases h3 : s = [42] <;> by_cases h4 : s = [47] <;> by_cases h5 : s = [60] <;> by_cases h6 : s = [61] <;> simp [h1, h2, h3, h4, h5, h6]
set_option maxHeartbeats 400000 in
theorem op_c {w : World} {m : Mem} {s : Str} {a b : Int} (hA : Agree w m) :
  FnV Try.prog 65 #[S s, .int .i64 a, .int .i64 b] w m (fun _ _ v => v = .tuple #[(zAm s a b).1, .bool (zAm s a b).2]) := by
 refine zZ (vs := [S s, .int .i64 a, .int .i64 b]) func65 rfl rfl rfl fun a0 hfr0 => ?_
 have hst0 := zW hA (zg [] _ w m)
 refine zB fun _ hK1 => ?_
 replace hst0 := hst0.more (r := .free) trivial List.nodup_nil (by simp [Res.blocks])
 refine ra0 (tch := [(2, 0, (fun v => .blk v _))]) hst0 hfr0 (.cons rfl (zr rfl rfl) <| .cons rfl (zr rfl rfl) <| .consT rfl rfl (fun _ => rfl) rfl (zP zeroValue31 rfl) <| .cons rfl (zD rfl) <| .nil) fun a1 w1 m1 hst1 hle1 hk1 => ?_
 have hfr1 := hk1.fr (.o 0 <| .nil)
 obtain ⟨gx, e2, hc4⟩ := hk1.ex 4 rfl
 replace hfr1 := hfr1.cons e2
 obtain ⟨gy, e3, hc5⟩ := hk1.ex 5 rfl
 replace hfr1 := hfr1.cons e3
 obtain ⟨g4, e4, _⟩ := hk1.ex 6 rfl
 replace hfr1 := hfr1.cons e4
 replace hst1 := hst1.fin (L' := [_]) (.cons e4 <| .nil)
 clear hst0 hfr0 hk1
 refine hK1 _ _ ?_
 refine zB fun _ hK5 => ?_
 replace hst1 := hst1.more (r := .free) trivial List.nodup_nil (by simp [Res.blocks])
 refine region_seq (tch := [(0, 1, (fun v => .map v _)), (2, 1, (fun v => .map v _)), (4, 1, (fun v => .map v _)), (6, 1, (fun v => .map v _)), (8, 1, (fun v => .map v _)), (10, 1, (fun v => .map v _)), (12, 1, (fun v => .map v _))]) hst1 hfr1 (by kernel_rfl) (by kernel_rfl) (by kernel_rfl) (.consT rfl rfl (fun _ => rfl) rfl (zCG S) <| .cons rfl (ZN (.cons rfl <| .cons rfl <| .nil)) <| .consT rfl rfl (fun _ => rfl) rfl (zt zAD rfl rfl rfl underlying154 underlying9) <| .cons rfl (ZN (.cons rfl <| .cons rfl <| .nil)) <| .consT rfl rfl (fun _ => rfl) rfl (zt zAD rfl rfl rfl underlying154 underlying9) <| .cons rfl (ZN (.cons rfl <| .cons rfl <| .nil)) <| .consT rfl rfl (fun _ => rfl) rfl (zt zAD rfl rfl rfl underlying154 underlying9) <| .cons rfl (ZN (.cons rfl <| .cons rfl <| .nil)) <| .consT rfl rfl (fun _ => rfl) rfl (zt zAD rfl rfl rfl underlying154 underlying9) <| .cons rfl (ZN (.cons rfl <| .cons rfl <| .nil)) <| .consT rfl rfl (fun _ => rfl) rfl (zt zAD rfl rfl rfl underlying154 underlying9) <| .cons rfl (ZN (.cons rfl <| .cons rfl <| .nil)) <| .consT rfl rfl (fun _ => rfl) rfl (zt zAD rfl rfl rfl underlying154 underlying9) <| .consA 11 rfl rfl <| .consA 18 rfl rfl <| .nil) fun a2 w2 m2 hst2 hle2 hk2 => ?_
 have hfr2 := hk2.fr (.o 0 <| .o 5 <| .o 6 <| .nil)
 obtain ⟨gm, e6, _⟩ := hk2.ex 11 rfl
 have es7 := hk2.same 18 rfl e6
 replace hfr2 := hfr2.cons (hk2.same 8 rfl es7)
 replace hst2 := hst2.fin (L' := [_, _]) (.cons e6 <| .cons e6 <| .cons e6 <| .cons e6 <| .cons e6 <| .cons e6 <| .cons e6 <| .nil)
 replace hc4 := hc4.mono hle2
 replace hc5 := hc5.mono hle2
 clear hst1 hfr1 hk2
 refine hK5 _ _ ?_
 refine zB fun _ hK8 => ?_
 rcases op_cases s with rfl | rfl | rfl | rfl | rfl | rfl | ⟨h1, h2, h3, h4, h5, h6⟩
 ·skip
  refine rp0 hst2 hfr2 (.cons rfl (zC rfl) <| .cons rfl (zC rfl) <| .cons rfl (zAR (j := 1) (v := .func (.func 73) #[] #[.pointer (some ⟨gx, 0, none⟩), .pointer (some ⟨gy, 0, none⟩)]) (b := true) zAD rfl rfl rfl underlying154 underlying9 zeroValue132 rfl) <| .cons rfl (zC rfl) <| .cons rfl (zM rfl rfl) <| .cons rfl (zM rfl rfl) <| .cons rfl (zD rfl) <| .cons rfl (zD rfl) <| .nil) fun a3 w3 m3 hst3 hle3 hk3 => ?_
  have hfr3 := hk3.fr (.o 0 <| .o 5 <| .o 6 <| .n 9 <| .n 10 <| .nil)
  clear hst2 hfr2 hk3
  refine hK8 _ _ ?_
  refine zB fun _ hK9 => ?_
  refine zB fun _ hK10 => ?_
  replace hc5 := hc5.mono hle3
  refine rp0 hst3 hfr3 (.cons rfl (zC rfl) <| .cons rfl (z2 rfl) <| .cons rfl (zC rfl) <| .cons rfl (zC rfl) <| .cons rfl (zd rfl rfl) <| .cons rfl (zC rfl) <| .cons rfl (zk rfl hc5 isAgg3 rfl) <| .cons rfl (zS rfl rfl) <| .cons rfl (zU rfl rfl rfl) <| .cons rfl (Zd rfl rfl rfl) <| .nil) fun a4 w4 m4 hst4 hle4 hk4 => ?_
  have hfr4 := hk4.fr (.o 6 <| .o 9 <| .n 34 <| .nil)
  clear hst3 hfr3 hk4
  refine hK10 _ _ ?_
  refine zE hfr4 rfl rfl (fun hb34 => ?_) (fun hb34 => ?_)
  ·simp at hb34
  ·refine zR ?_
   refine hK9 _ _ ?_
   refine zB fun _ hK11 => ?_
   have zq1 := hle3.trans hle4
   replace hc4 := hc4.mono zq1
   replace hc5 := hc5.mono hle4
   refine ra0 (tch := [(2, 0, (fun _ => .blk _ _))]) hst4 hfr4 (.cons rfl (zC rfl) <| .cons rfl (zX rfl (.nil) call73 (fun w m hK => by exact op_add (KC.agree hK) (hc4.mono (KC.le hK)) (hc5.mono (KC.le hK)))) <| .consT rfl rfl (fun _ => rfl) rfl (ze rfl rfl rfl sizeOf31 rfl rfl rfl) <| .cons rfl (zD rfl) <| .nil) fun a5 w5 m5 hst5 hle5 hk5 => ?_
   have hfr5 := hk5.fr (.o 6 <| .n 7 <| .nil)
   replace hst5 := hst5.fin (L' := [_, _]) (.cons rfl <| .nil)
   clear hst4 hfr4 hk5
   refine hK11 _ _ ?_
   refine zN ?_
   repeat (with_reducible first | refine zH ?_ | refine zG ?_)
   exact zO hst5 hfr5 rfl (.cell rfl (zi (zf (hst5.loc.at_ (k := 0) rfl)) isAgg31 sizeOf31) <| .tmp rfl <| .nil) (by simp [zAm, ZS])
 ·skip
  refine rp0 hst2 hfr2 (.cons rfl (zC rfl) <| .cons rfl (zC rfl) <| .cons rfl (zAR (j := 1) (v := .func (.func 75) #[] #[.pointer (some ⟨gx, 0, none⟩), .pointer (some ⟨gy, 0, none⟩)]) (b := true) zAD rfl rfl rfl underlying154 underlying9 zeroValue132 rfl) <| .cons rfl (zC rfl) <| .cons rfl (zM rfl rfl) <| .cons rfl (zM rfl rfl) <| .cons rfl (zD rfl) <| .cons rfl (zD rfl) <| .nil) fun a3 w3 m3 hst3 hle3 hk3 => ?_
  have hfr3 := hk3.fr (.o 0 <| .o 5 <| .o 6 <| .n 9 <| .n 10 <| .nil)
  clear hst2 hfr2 hk3
  refine hK8 _ _ ?_
  refine zB fun _ hK13 => ?_
  refine zB fun _ hK14 => ?_
  replace hc5 := hc5.mono hle3
  refine rp0 hst3 hfr3 (.cons rfl (zC rfl) <| .cons rfl (z2 rfl) <| .cons rfl (zC rfl) <| .cons rfl (zC rfl) <| .cons rfl (zd rfl rfl) <| .cons rfl (zC rfl) <| .cons rfl (zk rfl hc5 isAgg3 rfl) <| .cons rfl (zS rfl rfl) <| .cons rfl (zU rfl rfl rfl) <| .cons rfl (Zd rfl rfl rfl) <| .nil) fun a4 w4 m4 hst4 hle4 hk4 => ?_
  have hfr4 := hk4.fr (.o 6 <| .o 9 <| .n 34 <| .nil)
  clear hst3 hfr3 hk4
  refine hK14 _ _ ?_
  refine zE hfr4 rfl rfl (fun hb34 => ?_) (fun hb34 => ?_)
  ·simp at hb34
  ·refine zR ?_
   refine hK13 _ _ ?_
   refine zB fun _ hK15 => ?_
   have zq2 := hle3.trans hle4
   replace hc4 := hc4.mono zq2
   replace hc5 := hc5.mono hle4
   refine ra0 (tch := [(2, 0, (fun _ => .blk _ _))]) hst4 hfr4 (.cons rfl (zC rfl) <| .cons rfl (zX rfl (.nil) call75 (fun w m hK => by exact op_sub (KC.agree hK) (hc4.mono (KC.le hK)) (hc5.mono (KC.le hK)))) <| .consT rfl rfl (fun _ => rfl) rfl (ze rfl rfl rfl sizeOf31 rfl rfl rfl) <| .cons rfl (zD rfl) <| .nil) fun a5 w5 m5 hst5 hle5 hk5 => ?_
   have hfr5 := hk5.fr (.o 6 <| .n 7 <| .nil)
   replace hst5 := hst5.fin (L' := [_, _]) (.cons rfl <| .nil)
   clear hst4 hfr4 hk5
   refine hK15 _ _ ?_
   refine zN ?_
   repeat (with_reducible first | refine zH ?_ | refine zG ?_)
   exact zO hst5 hfr5 rfl (.cell rfl (zi (zf (hst5.loc.at_ (k := 0) rfl)) isAgg31 sizeOf31) <| .tmp rfl <| .nil) (by simp [zAm, ZS])
 ·skip
  refine rp0 hst2 hfr2 (.cons rfl (zC rfl) <| .cons rfl (zC rfl) <| .cons rfl (zAR (j := 1) (v := .func (.func 76) #[] #[.pointer (some ⟨gx, 0, none⟩), .pointer (some ⟨gy, 0, none⟩)]) (b := true) zAD rfl rfl rfl underlying154 underlying9 zeroValue132 rfl) <| .cons rfl (zC rfl) <| .cons rfl (zM rfl rfl) <| .cons rfl (zM rfl rfl) <| .cons rfl (zD rfl) <| .cons rfl (zD rfl) <| .nil) fun a3 w3 m3 hst3 hle3 hk3 => ?_
  have hfr3 := hk3.fr (.o 0 <| .o 5 <| .o 6 <| .n 9 <| .n 10 <| .nil)
  clear hst2 hfr2 hk3
  refine hK8 _ _ ?_
  refine zB fun _ hK17 => ?_
  refine zB fun _ hK18 => ?_
  replace hc5 := hc5.mono hle3
  refine rp0 hst3 hfr3 (.cons rfl (zC rfl) <| .cons rfl (z2 rfl) <| .cons rfl (zC rfl) <| .cons rfl (zC rfl) <| .cons rfl (zd rfl rfl) <| .cons rfl (zC rfl) <| .cons rfl (zk rfl hc5 isAgg3 rfl) <| .cons rfl (zS rfl rfl) <| .cons rfl (zU rfl rfl rfl) <| .cons rfl (Zd rfl rfl rfl) <| .nil) fun a4 w4 m4 hst4 hle4 hk4 => ?_
  have hfr4 := hk4.fr (.o 6 <| .o 9 <| .n 34 <| .nil)
  clear hst3 hfr3 hk4
  refine hK18 _ _ ?_
  refine zE hfr4 rfl rfl (fun hb34 => ?_) (fun hb34 => ?_)
  ·simp at hb34
  ·refine zR ?_
   refine hK17 _ _ ?_
   refine zB fun _ hK19 => ?_
   have zq3 := hle3.trans hle4
   replace hc4 := hc4.mono zq3
   replace hc5 := hc5.mono hle4
   refine ra0 (tch := [(2, 0, (fun _ => .blk _ _))]) hst4 hfr4 (.cons rfl (zC rfl) <| .cons rfl (zX rfl (.nil) call76 (fun w m hK => by exact op_mul (KC.agree hK) (hc4.mono (KC.le hK)) (hc5.mono (KC.le hK)))) <| .consT rfl rfl (fun _ => rfl) rfl (ze rfl rfl rfl sizeOf31 rfl rfl rfl) <| .cons rfl (zD rfl) <| .nil) fun a5 w5 m5 hst5 hle5 hk5 => ?_
   have hfr5 := hk5.fr (.o 6 <| .n 7 <| .nil)
   replace hst5 := hst5.fin (L' := [_, _]) (.cons rfl <| .nil)
   clear hst4 hfr4 hk5
   refine hK19 _ _ ?_
   refine zN ?_
   repeat (with_reducible first | refine zH ?_ | refine zG ?_)
   exact zO hst5 hfr5 rfl (.cell rfl (zi (zf (hst5.loc.at_ (k := 0) rfl)) isAgg31 sizeOf31) <| .tmp rfl <| .nil) (by simp [zAm, ZS])
 ·skip
  refine rp0 hst2 hfr2 (.cons rfl (zC rfl) <| .cons rfl (zC rfl) <| .cons rfl (zAR (j := 1) (v := .func (.func 77) #[] #[.pointer (some ⟨gx, 0, none⟩), .pointer (some ⟨gy, 0, none⟩)]) (b := true) zAD rfl rfl rfl underlying154 underlying9 zeroValue132 rfl) <| .cons rfl (zC rfl) <| .cons rfl (zM rfl rfl) <| .cons rfl (zM rfl rfl) <| .cons rfl (zD rfl) <| .cons rfl (zD rfl) <| .nil) fun a3 w3 m3 hst3 hle3 hk3 => ?_
  have hfr3 := hk3.fr (.o 0 <| .o 5 <| .o 6 <| .n 9 <| .n 10 <| .nil)
  clear hst2 hfr2 hk3
  refine hK8 _ _ ?_
  refine zB fun _ hK21 => ?_
  refine zB fun _ hK22 => ?_
  replace hc5 := hc5.mono hle3
  refine rp0 hst3 hfr3 (.cons rfl (zC rfl) <| .cons rfl (z2 rfl) <| .cons rfl (zC rfl) <| .cons rfl (zC rfl) <| .cons rfl (zd rfl rfl) <| .cons rfl (zC rfl) <| .cons rfl (zk rfl hc5 isAgg3 rfl) <| .cons rfl (zS rfl rfl) <| .cons rfl (zU rfl rfl rfl) <| .cons rfl (Zd rfl rfl rfl) <| .nil) fun a4 w4 m4 hst4 hle4 hk4 => ?_
  have hfr4 := hk4.fr (.o 6 <| .o 9 <| .n 34 <| .nil)
  clear hst3 hfr3 hk4
  refine hK22 _ _ ?_
  refine zE hfr4 rfl rfl (fun hb34 => ?_) (fun hb34 => ?_)
  ·refine zB fun _ hK23 => ?_
   refine ra0 (tch := [(1, 0, (fun _ => .blk _ _))]) hst4 hfr4 (.cons rfl (zQ (.nil) underlying31 zeroValue31 (.cons sizeOf3 <| .cons sizeOf3 <| .cons sizeOf9 <| .cons sizeOf29 <| .nil) rfl) <| .consT rfl rfl (fun _ => rfl) rfl (ze rfl rfl rfl sizeOf31 rfl rfl rfl) <| .cons rfl (zD rfl) <| .nil) fun a5 w5 m5 hst5 hle5 hk5 => ?_
   have hfr5 := hk5.fr (.o 6 <| .n 7 <| .nil)
   replace hst5 := hst5.fin (L' := [_, _]) (.cons rfl <| .nil)
   clear hst4 hfr4 hk5
   refine hK23 _ _ ?_
   refine zN ?_
   repeat (with_reducible first | refine zH ?_ | refine zG ?_)
   exact zO hst5 hfr5 rfl (.cell rfl (zi (zf (hst5.loc.at_ (k := 0) rfl)) isAgg31 sizeOf31) <| .tmp rfl <| .nil) (by simp at hb34; simp [zAm, ZS, hb34])
  ·refine zR ?_
   refine hK21 _ _ ?_
   refine zB fun _ hK25 => ?_
   have zq4 := hle3.trans hle4
   replace hc4 := hc4.mono zq4
   replace hc5 := hc5.mono hle4
   refine ra0 (tch := [(2, 0, (fun _ => .blk _ _))]) hst4 hfr4 (.cons rfl (zC rfl) <| .cons rfl (zX rfl (.nil) call77 (fun w m hK => by exact op_quo (KC.agree hK) (hc4.mono (KC.le hK)) (hc5.mono (KC.le hK)) (by simpa using hb34))) <| .consT rfl rfl (fun _ => rfl) rfl (ze rfl rfl rfl sizeOf31 rfl rfl rfl) <| .cons rfl (zD rfl) <| .nil) fun a5 w5 m5 hst5 hle5 hk5 => ?_
   have hfr5 := hk5.fr (.o 6 <| .n 7 <| .nil)
   replace hst5 := hst5.fin (L' := [_, _]) (.cons rfl <| .nil)
   clear hst4 hfr4 hk5
   refine hK25 _ _ ?_
   refine zN ?_
   repeat (with_reducible first | refine zH ?_ | refine zG ?_)
   exact zO hst5 hfr5 rfl (.cell rfl (zi (zf (hst5.loc.at_ (k := 0) rfl)) isAgg31 sizeOf31) <| .tmp rfl <| .nil) (by simp at hb34; simp [zAm, ZS, hb34])
 ·skip
  refine rp0 hst2 hfr2 (.cons rfl (zC rfl) <| .cons rfl (zC rfl) <| .cons rfl (zAR (j := 1) (v := .func (.func 78) #[] #[.pointer (some ⟨gx, 0, none⟩), .pointer (some ⟨gy, 0, none⟩)]) (b := true) zAD rfl rfl rfl underlying154 underlying9 zeroValue132 rfl) <| .cons rfl (zC rfl) <| .cons rfl (zM rfl rfl) <| .cons rfl (zM rfl rfl) <| .cons rfl (zD rfl) <| .cons rfl (zD rfl) <| .nil) fun a3 w3 m3 hst3 hle3 hk3 => ?_
  have hfr3 := hk3.fr (.o 0 <| .o 5 <| .o 6 <| .n 9 <| .n 10 <| .nil)
  clear hst2 hfr2 hk3
  refine hK8 _ _ ?_
  refine zB fun _ hK27 => ?_
  refine zB fun _ hK28 => ?_
  replace hc5 := hc5.mono hle3
  refine rp0 hst3 hfr3 (.cons rfl (zC rfl) <| .cons rfl (z2 rfl) <| .cons rfl (zC rfl) <| .cons rfl (zC rfl) <| .cons rfl (zd rfl rfl) <| .cons rfl (zC rfl) <| .cons rfl (zk rfl hc5 isAgg3 rfl) <| .cons rfl (zS rfl rfl) <| .cons rfl (zU rfl rfl rfl) <| .cons rfl (Zd rfl rfl rfl) <| .nil) fun a4 w4 m4 hst4 hle4 hk4 => ?_
  have hfr4 := hk4.fr (.o 6 <| .o 9 <| .n 34 <| .nil)
  clear hst3 hfr3 hk4
  refine hK28 _ _ ?_
  refine zE hfr4 rfl rfl (fun hb34 => ?_) (fun hb34 => ?_)
  ·simp at hb34
  ·refine zR ?_
   refine hK27 _ _ ?_
   refine zB fun _ hK29 => ?_
   have zq5 := hle3.trans hle4
   replace hc4 := hc4.mono zq5
   replace hc5 := hc5.mono hle4
   refine ra0 (tch := [(2, 0, (fun _ => .blk _ _))]) hst4 hfr4 (.cons rfl (zC rfl) <| .cons rfl (zX rfl (.nil) call78 (fun w m hK => by exact op_lss (KC.agree hK) (hc4.mono (KC.le hK)) (hc5.mono (KC.le hK)))) <| .consT rfl rfl (fun _ => rfl) rfl (ze rfl rfl rfl sizeOf31 rfl rfl rfl) <| .cons rfl (zD rfl) <| .nil) fun a5 w5 m5 hst5 hle5 hk5 => ?_
   have hfr5 := hk5.fr (.o 6 <| .n 7 <| .nil)
   replace hst5 := hst5.fin (L' := [_, _]) (.cons rfl <| .nil)
   clear hst4 hfr4 hk5
   refine hK29 _ _ ?_
   refine zN ?_
   repeat (with_reducible first | refine zH ?_ | refine zG ?_)
   exact zO hst5 hfr5 rfl (.cell rfl (zi (zf (hst5.loc.at_ (k := 0) rfl)) isAgg31 sizeOf31) <| .tmp rfl <| .nil) (by simp [zAm, ZS])
 ·skip
  refine rp0 hst2 hfr2 (.cons rfl (zC rfl) <| .cons rfl (zC rfl) <| .cons rfl (zAR (j := 1) (v := .func (.func 80) #[] #[.pointer (some ⟨gx, 0, none⟩), .pointer (some ⟨gy, 0, none⟩)]) (b := true) zAD rfl rfl rfl underlying154 underlying9 zeroValue132 rfl) <| .cons rfl (zC rfl) <| .cons rfl (zM rfl rfl) <| .cons rfl (zM rfl rfl) <| .cons rfl (zD rfl) <| .cons rfl (zD rfl) <| .nil) fun a3 w3 m3 hst3 hle3 hk3 => ?_
  have hfr3 := hk3.fr (.o 0 <| .o 5 <| .o 6 <| .n 9 <| .n 10 <| .nil)
  clear hst2 hfr2 hk3
  refine hK8 _ _ ?_
  refine zB fun _ hK31 => ?_
  refine zB fun _ hK32 => ?_
  replace hc5 := hc5.mono hle3
  refine rp0 hst3 hfr3 (.cons rfl (zC rfl) <| .cons rfl (z2 rfl) <| .cons rfl (zC rfl) <| .cons rfl (zC rfl) <| .cons rfl (zd rfl rfl) <| .cons rfl (zC rfl) <| .cons rfl (zk rfl hc5 isAgg3 rfl) <| .cons rfl (zS rfl rfl) <| .cons rfl (zU rfl rfl rfl) <| .cons rfl (Zd rfl rfl rfl) <| .nil) fun a4 w4 m4 hst4 hle4 hk4 => ?_
  have hfr4 := hk4.fr (.o 6 <| .o 9 <| .n 34 <| .nil)
  clear hst3 hfr3 hk4
  refine hK32 _ _ ?_
  refine zE hfr4 rfl rfl (fun hb34 => ?_) (fun hb34 => ?_)
  ·simp at hb34
  ·refine zR ?_
   refine hK31 _ _ ?_
   refine zB fun _ hK33 => ?_
   have zq6 := hle3.trans hle4
   replace hc4 := hc4.mono zq6
   replace hc5 := hc5.mono hle4
   refine ra0 (tch := [(2, 0, (fun _ => .blk _ _))]) hst4 hfr4 (.cons rfl (zC rfl) <| .cons rfl (zX rfl (.nil) call80 (fun w m hK => by exact op_eql (KC.agree hK) (hc4.mono (KC.le hK)) (hc5.mono (KC.le hK)))) <| .consT rfl rfl (fun _ => rfl) rfl (ze rfl rfl rfl sizeOf31 rfl rfl rfl) <| .cons rfl (zD rfl) <| .nil) fun a5 w5 m5 hst5 hle5 hk5 => ?_
   have hfr5 := hk5.fr (.o 6 <| .n 7 <| .nil)
   replace hst5 := hst5.fin (L' := [_, _]) (.cons rfl <| .nil)
   clear hst4 hfr4 hk5
   refine hK33 _ _ ?_
   refine zN ?_
   repeat (with_reducible first | refine zH ?_ | refine zG ?_)
   exact zO hst5 hfr5 rfl (.cell rfl (zi (zf (hst5.loc.at_ (k := 0) rfl)) isAgg31 sizeOf31) <| .tmp rfl <| .nil) (by simp [zAm, ZS])
 ·skip
  refine rp0 hst2 hfr2 (.cons rfl (zC rfl) <| .cons rfl (zC rfl) <| .cons rfl (zAR (j := 1) (v := .nilFunc) (b := false) zAD rfl rfl rfl underlying154 underlying9 zeroValue132 (by rw [show z5 s _ = none from by simp [z5, zBH, h1, h2, h3, h4, h5, h6]])) <| .cons rfl (zC rfl) <| .cons rfl (zM rfl rfl) <| .cons rfl (zM rfl rfl) <| .cons rfl (zD rfl) <| .cons rfl (zD rfl) <| .nil) fun a3 w3 m3 hst3 hle3 hk3 => ?_
  have hfr3 := hk3.fr (.o 0 <| .o 5 <| .o 6 <| .n 9 <| .n 10 <| .nil)
  clear hst2 hfr2 hk3
  refine hK8 _ _ ?_
  refine zB fun _ hK35 => ?_
  refine zB fun _ hK36 => ?_
  replace hc5 := hc5.mono hle3
  refine rp0 hst3 hfr3 (.cons rfl (zC rfl) <| .cons rfl (z2 rfl) <| .cons rfl (zC rfl) <| .cons rfl (zC rfl) <| .cons rfl (zd rfl rfl) <| .cons rfl (zC rfl) <| .cons rfl (zk rfl hc5 isAgg3 rfl) <| .cons rfl (zS rfl rfl) <| .cons rfl (zU rfl rfl rfl) <| .cons rfl (Zd rfl rfl rfl) <| .nil) fun a4 w4 m4 hst4 hle4 hk4 => ?_
  have hfr4 := hk4.fr (.o 6 <| .o 9 <| .n 34 <| .nil)
  clear hst3 hfr3 hk4
  refine hK36 _ _ ?_
  refine zE hfr4 rfl rfl (fun hb34 => ?_) (fun hb34 => ?_)
  ·refine zB fun _ hK37 => ?_
   refine ra0 (tch := [(1, 0, (fun _ => .blk _ _))]) hst4 hfr4 (.cons rfl (zQ (.nil) underlying31 zeroValue31 (.cons sizeOf3 <| .cons sizeOf3 <| .cons sizeOf9 <| .cons sizeOf29 <| .nil) rfl) <| .consT rfl rfl (fun _ => rfl) rfl (ze rfl rfl rfl sizeOf31 rfl rfl rfl) <| .cons rfl (zD rfl) <| .nil) fun a5 w5 m5 hst5 hle5 hk5 => ?_
   have hfr5 := hk5.fr (.o 6 <| .n 7 <| .nil)
   replace hst5 := hst5.fin (L' := [_, _]) (.cons rfl <| .nil)
   clear hst4 hfr4 hk5
   refine hK37 _ _ ?_
   refine zN ?_
   repeat (with_reducible first | refine zH ?_ | refine zG ?_)
   exact zO hst5 hfr5 rfl (.cell rfl (zi (zf (hst5.loc.at_ (k := 0) rfl)) isAgg31 sizeOf31) <| .tmp rfl <| .nil) (by simp [zAm, ZS, h1, h2, h3, h4, h5, h6])
  ·simp at hb34
set_option maxHeartbeats 400000 in
theorem matom_c {w : World} {m : Mem} {c : Cd} {vs_c : List Value} {e : Env} {pe : Option Addr} {r : Option Vl} (hA : Agree w m) (h_c : CdR m c vs_c) (he : EnvR m e pe) (hrun : Z6 c e = some r) : FnV Try.prog 48 #[.agg vs_c.toArray, .pointer pe] w m (fun _ m v => (MP.vlb (r.getD Zt) r.isSome).p m v) := by
 obtain ⟨⟨oK_c, cK_c, oA_c, cA_c⟩, rfl, ⟨hik_c, hin_c⟩, hkk_c, haa_c⟩ := h_c.open_
 dsimp only at hkk_c haa_c
 have hbg_c := hkk_c.big; have hcp_c := hkk_c.cap; have hbh_c := haa_c.big; have hcq_c := haa_c.cap
 refine zZ (vs := [_, _]) func48 rfl rfl rfl fun a0 hfr0 => ?_
 have hst0 := zW hA (zg [] _ w m)
 have hM : MLe m m := MLe.refl m
 refine zB fun _ hK1 => ?_
 replace hst0 := hst0.more (r := .free) trivial List.nodup_nil (by simp [Res.blocks])
 refine ra0 (tch := [(1, 0, (fun v => .blk v _))]) hst0 hfr0 (.cons rfl (zr rfl rfl) <| .consT rfl rfl (fun _ => rfl) rfl (zP zeroValue72 rfl) <| .cons rfl (zD rfl) <| .nil) fun a1 w1 m1 hst1 hle1 hk1 => ?_
 have hfr1 := hk1.fr (.o 1 <| .nil)
 obtain ⟨g2, e2, hc2⟩ := hk1.ex 2 rfl
 replace hfr1 := hfr1.cons e2
 obtain ⟨g4, e3, _⟩ := hk1.ex 4 rfl
 replace hfr1 := hfr1.cons e3
 replace hst1 := hst1.fin (L' := [_]) (.cons e3 <| .nil)
 replace hkk_c := hkk_c.mono hle1
 replace he := he.mono hle1
 clear hst0 hfr0 hk1
 refine hK1 _ _ ?_
 refine zB fun _ hK4 => ?_
 refine zB fun _ hK5 => ?_
 refine rp0 hst1 hfr1 (.cons rfl (zA (off := 0) rfl underlying25 rfl rfl sizeOf3 rfl) <| .cons rfl (zJ rfl hc2 isAgg3 rfl) <| .nil) fun a2 w2 m2 hst2 hle2 hk2 => ?_
 have hfr2 := hk2.fr (.o 1 <| .o 2 <| .o 4 <| .n 7 <| .nil)
 replace hkk_c := hkk_c.mono hle2
 replace he := he.mono hle2
 replace hc2 := hc2.mono hle2
 clear hst1 hfr1 hk2
 refine hK5 _ _ ?_
 refine zT ?_
 refine zB fun _ hK6 => ?_
 refine rp0 hst2 hfr2 (.cons rfl (zS rfl rfl) <| .cons rfl (zD rfl) <| .nil) fun a3 w3 m3 hst3 hle3 hk3 => ?_
 have hfr3 := hk3.fr (.o 1 <| .o 2 <| .o 4 <| .o 7 <| .n 8 <| .nil)
 replace hkk_c := hkk_c.mono hle3
 replace he := he.mono hle3
 replace hc2 := hc2.mono hle3
 clear hst2 hfr2 hk3
 refine hK6 _ _ ?_
 refine zE hfr3 rfl rfl (fun hb8 => ?_) (fun hb8 => ?_)
 ·try simp only [nqs] at hb8
  refine zB fun _ hK7 => ?_
  refine z7 4 (by kernel_rfl) ?_
  refine zq (tch := []) hst3 hfr3 (by kernel_rfl) (by kernel_rfl) (by kernel_rfl) (.cons rfl (zC rfl) <| .cons rfl (zA (off := 1) rfl underlying25 rfl rfl sizeOf9 rfl) <| .cons rfl (zJ rfl hc2 isAgg9 rfl) <| .cons rfl (zm (φ := MP.vlb ((zAX c.name e).getD Zt) (zAX c.name e).isSome) rfl (.cons rfl <| .cons rfl <| .nil) call64 (fun w m hK => by have hle_ := KC.le hK; have hA := KC.agree hK; have he := he.mono hle_; exact FnG.mono (findE_c (s := c.name) hA he) fun _ _ _ _ h => h)) <| .nil) fun a4 w4 m4 hst4 hle4 hk4 => ?_
  have hfr4 := hk4.fr (.o 1 <| .o 2 <| .o 4 <| .o 7 <| .nil)
  obtain ⟨y9, e8, hv9⟩ := hk4.ex 13 rfl
  replace hfr4 := hfr4.cons e8
  clear hst3 hfr3 hk4
  refine zq (tch := [(2, 0, (fun _ => .blk _ _))]) hst4 hfr4 (by kernel_rfl) (by kernel_rfl) (by kernel_rfl) (.cons rfl (zM rfl rfl) <| .cons rfl (zM rfl rfl) <| .consT rfl rfl (fun _ => rfl) rfl (ze rfl rfl rfl sizeOf72 rfl rfl rfl) <| .cons rfl (zD rfl) <| .nil) fun a5 w5 m5 hst5 hle5 hk5 => ?_
  have hfr5 := hk5.fr (.o 1 <| .o 2 <| .o 4 <| .o 7 <| .o 13 <| .n 5 <| .nil)
  replace hst5 := hst5.fin (L' := [_]) (.cons rfl <| .nil)
  try simp only [List.take_succ_cons, List.take_zero, List.drop_succ_cons, List.drop_zero, List.cons_append, List.nil_append, List.append_nil, List.length_cons, List.length_nil, Nat.zero_add, Nat.reduceAdd] at hst5
  clear hst4 hfr4 hk5
  refine hK7 _ _ ?_
  refine zN ?_
  repeat (with_reducible first | refine zH ?_ | refine zG ?_)
  replace hv9 := hv9.mono hle5
  exact zO hst5 hfr5 rfl (.cell rfl (zi (zf (hst5.loc.at_ (k := 0) rfl)) isAgg72 sizeOf72) <| .tmp rfl <| .nil) (by rw [atom_var hrun hb8]; exact ⟨y9, rfl, hv9⟩)
 ·try simp only [nqs] at hb8
  refine zB fun _ hK10 => ?_
  refine rp0 hst3 hfr3 (.cons rfl (zS rfl rfl) <| .cons rfl (zD rfl) <| .nil) fun a4 w4 m4 hst4 hle4 hk4 => ?_
  have hfr4 := hk4.fr (.o 1 <| .o 2 <| .o 4 <| .o 7 <| .n 16 <| .nil)
  clear hst3 hfr3 hk4
  refine hK10 _ _ ?_
  refine zE hfr4 rfl rfl (fun hb16 => ?_) (fun hb16 => ?_)
  ·try simp only [nqs] at hb16
   refine zB fun _ hK11 => ?_
   obtain ⟨b9, ks9, hks9, rfl⟩ := atom_fun hrun hb16
   have hl9 : c.kids.length = ks9.length + 1 := by rw [hks9]; rfl
   replace hkk_c := hkk_c.mono hle4
   obtain ⟨p12, vs12, x12, ho12, hd12, hm_x12, ht12, hcv12, hl12, hv12⟩ := hkk_c.nth (k := 0) (by omega)
   cases ho12
   obtain ⟨⟨oK12, cK12, oA12, cA12⟩, rfl, ⟨hik12, hin12⟩, hkk12, haa12⟩ := hv12.open_
   dsimp only at hkk12 haa12
   have hbg12 := hkk12.big; have hcp12 := hkk12.cap; have hbh12 := haa12.big; have hcq12 := haa12.cap
   obtain rfl : x12 = b9 := by have h9 := hd12; rw [hks9] at h9; simp at h9; exact h9.symm
   replace hc2 := hc2.mono hle4
   refine zc (tch := [(11, 0, (fun _ => .blkx _ _ _))]) (fun _ => zw) hst4 hfr4 (by kernel_rfl) (by kernel_rfl) (by kernel_rfl) (.cons rfl (zQ (.cons rfl <| .nil) underlying31 zeroValue31 (.cons sizeOf3 <| .cons sizeOf3 <| .cons sizeOf9 <| .cons sizeOf29 <| .nil) rfl) <| .cons rfl (zA (off := 1) rfl underlying25 rfl rfl sizeOf9 rfl) <| .cons rfl (zJ rfl hc2 isAgg9 rfl) <| .cons rfl (zA (off := 4) rfl underlying25 rfl rfl sizeOf22 rfl) <| .cons rfl (zJ rfl hc2 isAgg22 rfl) <| .cons rfl (zI (k := 0) rfl rfl underlying22 sizeOf25 rfl (by omega)) <| .cons rfl (zY rfl hcv12 isAgg25 sizeOf25 rfl rfl) <| .cons rfl (zC rfl) <| .cons rfl (zQ (.cons rfl <| .cons rfl <| .cons rfl <| .cons rfl <| .nil) underlying110 zeroValue110 (.cons sizeOf9 <| .cons sizeOf9 <| .cons sizeOf25 <| .cons sizeOf67 <| .nil) rfl) <| .cons rfl (zr rfl rfl) <| .cons rfl (zAI 27 rfl rfl rfl fun y27 => zQ (.cons rfl <| .cons rfl <| .nil) underlying72 zeroValue72 (.cons sizeOf31 <| .cons sizeOf68 <| .cons sizeOf69 <| .cons sizeOf70 <| .nil) rfl) <| .consT rfl rfl (fun _ => rfl) rfl (z8 28 rfl rfl rfl fun y28 => ze rfl rfl rfl sizeOf72 rfl rfl rfl) <| .cons rfl (zD rfl) <| .nil) fun a5 w5 m5 hst5 hle5 hk5 => ?_
   have hfr5 := hk5.fr (.o 4 <| .n 5 <| .nil)
   replace hst5 := hst5.fin (L' := [_]) (.cons rfl <| .nil)
   try simp only [List.take_succ_cons, List.take_zero, List.drop_succ_cons, List.drop_zero, List.cons_append, List.nil_append, List.append_nil, List.length_cons, List.length_nil, Nat.zero_add, Nat.reduceAdd] at hst5
   obtain ⟨g9, hc9, hst5⟩ := hst5.unx (k := 0) rfl (fun _ => rfl)
   clear hst4 hfr4 hk5
   have hc8 : CellsAt m5 ⟨g9, 0, none⟩ (S [] :: S c.name :: (cdV x12 ⟨oK12, cK12, oA12, cA12⟩ ++ [.pointer pe])) := hc9
   refine hK11 _ _ ?_
   refine zN ?_
   repeat (with_reducible first | refine zH ?_ | refine zG ?_)
   have zq1 := hle4.trans hle5
   replace he := he.mono zq1
   replace hv12 := hv12.mono hle5
   exact zO hst5 hfr5 rfl (.cell rfl (zi (zf (hst5.loc.at_ (k := 0) rfl)) isAgg72 sizeOf72) <| .tmp rfl <| .nil) (⟨_, rfl, VlR.fun_ hc8 hv12 he⟩)
  ·try simp only [nqs] at hb16
   refine zB fun _ hK15 => ?_
   refine rp0 hst4 hfr4 (.cons rfl (zS rfl rfl) <| .cons rfl (zD rfl) <| .nil) fun a5 w5 m5 hst5 hle5 hk5 => ?_
   have hfr5 := hk5.fr (.o 2 <| .o 4 <| .o 7 <| .n 29 <| .nil)
   clear hst4 hfr4 hk5
   refine hK15 _ _ ?_
   refine zE hfr5 rfl rfl (fun hb29 => ?_) (fun hb29 => ?_)
   ·try simp only [nqs] at hb29
    refine zB fun _ hK16 => ?_
    have zq2 := hle4.trans hle5
    replace hc2 := hc2.mono zq2
    refine ra0 (tch := [(4, 0, (fun _ => .blk _ _))]) hst5 hfr5 (.cons rfl (zA (off := 3) rfl underlying25 rfl rfl sizeOf3 rfl) <| .cons rfl (zJ rfl hc2 isAgg3 rfl) <| .cons rfl (zQ (.cons rfl <| .cons rfl <| .nil) underlying31 zeroValue31 (.cons sizeOf3 <| .cons sizeOf3 <| .cons sizeOf9 <| .cons sizeOf29 <| .nil) rfl) <| .cons rfl (zQ (.cons rfl <| .nil) underlying72 zeroValue72 (.cons sizeOf31 <| .cons sizeOf68 <| .cons sizeOf69 <| .cons sizeOf70 <| .nil) rfl) <| .consT rfl rfl (fun _ => rfl) rfl (ze rfl rfl rfl sizeOf72 rfl rfl rfl) <| .cons rfl (zD rfl) <| .nil) fun a6 w6 m6 hst6 hle6 hk6 => ?_
    have hfr6 := hk6.fr (.o 4 <| .n 5 <| .nil)
    replace hst6 := hst6.fin (L' := [_]) (.cons rfl <| .nil)
    try simp only [List.take_succ_cons, List.take_zero, List.drop_succ_cons, List.drop_zero, List.cons_append, List.nil_append, List.append_nil, List.length_cons, List.length_nil, Nat.zero_add, Nat.reduceAdd] at hst6
    clear hst5 hfr5 hk6
    refine hK16 _ _ ?_
    refine zN ?_
    repeat (with_reducible first | refine zH ?_ | refine zG ?_)
    exact zO hst6 hfr6 rfl (.cell rfl (zi (zf (hst6.loc.at_ (k := 0) rfl)) isAgg72 sizeOf72) <| .tmp rfl <| .nil) (by rw [atom_int hrun hb29]; exact ⟨zDI, rfl, VlR.flat ⟨by decide, by decide⟩ hin_c⟩)
   ·try simp only [nqs] at hb29
    refine zB fun _ hK18 => ?_
    refine rp0 hst5 hfr5 (.cons rfl (zS rfl rfl) <| .cons rfl (zD rfl) <| .nil) fun a6 w6 m6 hst6 hle6 hk6 => ?_
    have hfr6 := hk6.fr (.o 2 <| .o 4 <| .n 35 <| .nil)
    clear hst5 hfr5 hk6
    refine hK18 _ _ ?_
    refine zE hfr6 rfl rfl (fun hb35 => ?_) (fun hb35 => ?_)
    ·try simp only [nqs] at hb35
     refine zB fun _ hK19 => ?_
     have zq3 := hle5.trans hle6
     have zq4 := hle4.trans zq3
     replace hc2 := hc2.mono zq4
     refine ra0 (tch := [(4, 0, (fun _ => .blk _ _))]) hst6 hfr6 (.cons rfl (zA (off := 3) rfl underlying25 rfl rfl sizeOf3 rfl) <| .cons rfl (zJ rfl hc2 isAgg3 rfl) <| .cons rfl (zQ (.cons rfl <| .cons rfl <| .nil) underlying31 zeroValue31 (.cons sizeOf3 <| .cons sizeOf3 <| .cons sizeOf9 <| .cons sizeOf29 <| .nil) rfl) <| .cons rfl (zQ (.cons rfl <| .nil) underlying72 zeroValue72 (.cons sizeOf31 <| .cons sizeOf68 <| .cons sizeOf69 <| .cons sizeOf70 <| .nil) rfl) <| .consT rfl rfl (fun _ => rfl) rfl (ze rfl rfl rfl sizeOf72 rfl rfl rfl) <| .cons rfl (zD rfl) <| .nil) fun a7 w7 m7 hst7 hle7 hk7 => ?_
     have hfr7 := hk7.fr (.o 4 <| .n 5 <| .nil)
     replace hst7 := hst7.fin (L' := [_]) (.cons rfl <| .nil)
     try simp only [List.take_succ_cons, List.take_zero, List.drop_succ_cons, List.drop_zero, List.cons_append, List.nil_append, List.append_nil, List.length_cons, List.length_nil, Nat.zero_add, Nat.reduceAdd] at hst7
     clear hst6 hfr6 hk7
     refine hK19 _ _ ?_
     refine zN ?_
     repeat (with_reducible first | refine zH ?_ | refine zG ?_)
     exact zO hst7 hfr7 rfl (.cell rfl (zi (zf (hst7.loc.at_ (k := 0) rfl)) isAgg72 sizeOf72) <| .tmp rfl <| .nil) (by rw [atom_bool hrun hb35]; exact ⟨zDI, rfl, VlR.flat ⟨by decide, by decide⟩ hin_c⟩)
    ·try simp only [nqs] at hb35
     refine zR ?_
     refine hK4 _ _ ?_
     refine zB fun _ hK21 => ?_
     refine ra0 (tch := [(2, 0, (fun _ => .blk _ _))]) hst6 hfr6 (.cons rfl (zQ (.cons rfl <| .nil) underlying31 zeroValue31 (.cons sizeOf3 <| .cons sizeOf3 <| .cons sizeOf9 <| .cons sizeOf29 <| .nil) rfl) <| .cons rfl (zQ (.cons rfl <| .nil) underlying72 zeroValue72 (.cons sizeOf31 <| .cons sizeOf68 <| .cons sizeOf69 <| .cons sizeOf70 <| .nil) rfl) <| .consT rfl rfl (fun _ => rfl) rfl (ze rfl rfl rfl sizeOf72 rfl rfl rfl) <| .cons rfl (zD rfl) <| .nil) fun a7 w7 m7 hst7 hle7 hk7 => ?_
     have hfr7 := hk7.fr (.o 4 <| .n 5 <| .nil)
     replace hst7 := hst7.fin (L' := [_]) (.cons rfl <| .nil)
     try simp only [List.take_succ_cons, List.take_zero, List.drop_succ_cons, List.drop_zero, List.cons_append, List.nil_append, List.append_nil, List.length_cons, List.length_nil, Nat.zero_add, Nat.reduceAdd] at hst7
     clear hst6 hfr6 hk7
     refine hK21 _ _ ?_
     refine zN ?_
     repeat (with_reducible first | refine zH ?_ | refine zG ?_)
     exact zO hst7 hfr7 rfl (.cell rfl (zi (zf (hst7.loc.at_ (k := 0) rfl)) isAgg72 sizeOf72) <| .tmp rfl <| .nil) (by rw [atom_unit hrun hb8 hb16 hb29 hb35]; exact ⟨zDI, rfl, VlR.flat ⟨by decide, by decide⟩ ⟨by decide, by decide⟩⟩)
set_option maxHeartbeats 400000 in
theorem matoms_c {w : World} {m : Mem} {o_l : Option Addr} {c_l : Nat} {l : List Cd} {e : Env} {pe : Option Addr} {r : Option (List Vl)} (hA : Agree w m) (h_l : Cds m o_l l.length c_l l) (he : EnvR m e pe) (hrun : zAB l e = some r) (hb : l.length ≤ 1000000) : FnV Try.prog 50 #[.slice o_l l.length c_l, .pointer pe] w m (fun _ m v => (MP.vlsb (r.getD []) r.isSome).p m v) := by
 have hb_l := h_l.big; have hc_l := h_l.cap
 refine zZ (vs := [_, _]) func50 rfl rfl rfl fun a0 hfr0 => ?_
 have hst0 := zW hA (zg [] _ w m)
 have hM : MLe m m := MLe.refl m
 refine zB fun _ hK1 => ?_
 refine rp0 hst0 hfr0 (.cons rfl (zD rfl) <| .cons rfl (zD rfl) <| .nil) fun a1 w1 m1 hst1 hle1 hk1 => ?_
 have hfr1 := hk1.fr (.o 0 <| .o 1 <| .nil)
 replace h_l := h_l.mono hle1
 replace he := he.mono hle1
 clear hst0 hfr0 hk1
 refine hK1 _ _ ?_
 refine zB fun _ hK2 => ?_
 refine rp0 hst1 hfr1 (.cons rfl (zD rfl) <| .nil) fun a2 w2 m2 hst2 hle2 hk2 => ?_
 have hfr2 := hk2.fr (.o 0 <| .o 1 <| .n 6 <| .nil)
 replace h_l := h_l.mono hle2
 replace he := he.mono hle2
 clear hst1 hfr1 hk2
 have hst2 := hst2.more (r := .rowx (.slice none 0 0) 0 7 72 (MP.reads (fun m vs v => VlR m v vs) 7 [])) zEK List.nodup_nil (by simp [Res.blocks, ZC])
 have hsl_O : Vls m2 none ([] : List Vl).length 0 ([] : List Vl) := Sl.empty
 refine hK2 _ _ ?_
 refine zB fun _ hK3 => ?_
 refine zB fun _ hK4 => ?_
 refine rp0 hst2 hfr2 (.cons rfl (zC rfl) <| .cons rfl (zl rfl underlying22) <| .cons rfl (zC rfl) <| .nil) fun a3 w3 m3 hst3 hle3 hk3 => ?_
 have hfr3 := hk3.fr (.o 1 <| .o 6 <| .n 11 <| .n 12 <| .n 13 <| .nil)
 replace h_l := h_l.mono hle3
 replace he := he.mono hle3
 replace hsl_O := hsl_O.mono hle3
 clear hst2 hfr2 hk3
 refine hK4 _ _ ?_
 refine zT ?_
 refine zx (T := [(1, _), (11, _), (12, _)]) (fun (y : Nat × Option Addr × Nat × List Vl) => ([(6, .slice y.2.1 y.2.2.2.length y.2.2.1), (13, .int .i64 (y.1 : Int))] : List (Nat × Value))) (fun y => [.rowx (nz (.slice y.2.1 y.2.2.2.length y.2.2.1)) y.2.2.2.length 7 72 (MP.reads (fun m vs v => VlR m v vs) 7 y.2.2.2)]) (fun (y : Nat × Option Addr × Nat × List Vl) m => (fun (y : Nat) (gao : Option Addr) (gap : Nat) (ga : List Vl) => (y ≤ l.length) ∧ (Vls m gao ga.length gap ga) ∧ (some r = zDU ga (zAB (l.drop y) e) ∧ ga.length ≤ y)) y.1 y.2.1 y.2.2.1 y.2.2.2) (fun y => l.length - y.1) ((0, none, 0, ([] : List Vl))) ⟨hst3, MLe.refl _, hfr3.sub (.c <| .c <| .c <| .c <| .c <| .nil), ⟨Nat.zero_le _, hsl_O, ⟨by rw [List.drop_zero, addVs_nil, hrun], Nat.le_refl _⟩⟩⟩ fun y a4 w4 m4 hh4 => ?_
 have hst4 := hh4.st; have hle4 := hh4.le; have hfr4 := hh4.fr; have hrel := hh4.rel; clear hh4
 replace h_l := h_l.mono hle4
 replace he := he.mono hle4
 clear hst3 hfr3
 obtain ⟨y, gao, gap, ga⟩ := y
 dsimp only at hrel hfr4 hst4
 obtain ⟨hyn, hsl_ga, hlen_ga⟩ := hrel
 have hlh4 := hle4
 refine zB fun _ hK6 => ?_
 refine rp0 hst4 hfr4 (.cons rfl (ZA rfl rfl) <| .nil) fun a5 w5 m5 hst5 hle5 hk5 => ?_
 have hfr5 := hk5.fr (.o 6 <| .o 13 <| .o 1 <| .o 11 <| .o 12 <| .n 14 <| .nil)
 replace h_l := h_l.mono hle5
 replace he := he.mono hle5
 replace hsl_ga := hsl_ga.mono hle5
 have hlh5 := hlh4.trans hle5
 clear hst4 hfr4 hk5
 refine hK6 _ _ ?_
 refine zB fun _ hK7 => ?_
 refine zE hfr5 rfl rfl (fun hb14 => ?_) (fun hb14 => ?_)
 ·try simp only [nqs] at hb14
  refine zR ?_
  refine hK7 _ _ ?_
  refine zB fun _ hK8 => ?_
  refine zT ?_
  refine zB fun _ hK9 => ?_
  obtain ⟨p10, vs10, x10, ho10, hd10, hm_x10, ht10, hcv10, hl10, hv10⟩ := h_l.nth (k := y) (by omega)
  cases ho10
  obtain ⟨⟨oK10, cK10, oA10, cA10⟩, rfl, ⟨hik10, hin10⟩, hkk10, haa10⟩ := hv10.open_
  dsimp only at hkk10 haa10
  have hbg10 := hkk10.big; have hcp10 := hkk10.cap; have hbh10 := haa10.big; have hcq10 := haa10.cap
  rw [hd10] at hlen_ga
  obtain ⟨q9, hq9, hqn9, hqs9⟩ := atoms_cons hlen_ga.1
  have hlo9 := hlen_ga.2
  replace hst5 := hst5.more (r := .free) trivial List.nodup_nil (by simp [Res.blocks])
  refine ra0 (tch := [(2, 1, (fun v => .blk v _)), (3, 1, (fun v => .blk v _))]) hst5 hfr5 (.cons rfl (zI (k := y) rfl rfl underlying22 sizeOf25 rfl (by omega)) <| .cons rfl (zY rfl hcv10 isAgg25 sizeOf25 rfl rfl) <| .consT rfl rfl (fun _ => rfl) rfl (zP zeroValue25 rfl) <| .consT rfl rfl (fun _ => rfl) rfl (zb 8 rfl rfl rfl fun y8 => za rfl rfl rfl rfl rfl sizeOf25 rfl rfl rfl) <| .nil) fun a6 w6 m6 hst6 hle6 hk6 => ?_
  have hfr6 := hk6.fr (.o 6 <| .o 13 <| .o 1 <| .o 11 <| .o 12 <| .nil)
  obtain ⟨g8, e11, _⟩ := hk6.ex 8 rfl
  replace hfr6 := hfr6.cons e11
  replace hst6 := hst6.fin (L' := [_, _]) (.cons e11 <| .cons e11 <| .nil)
  try simp only [List.take_succ_cons, List.take_zero, List.drop_succ_cons, List.drop_zero, List.cons_append, List.nil_append, List.append_nil, List.length_cons, List.length_nil, Nat.zero_add, Nat.reduceAdd] at hst6
  clear hst5 hfr5 hk6
  refine hK9 _ _ ?_
  refine zB fun _ hK12 => ?_
  refine z7 3 (by kernel_rfl) ?_
  replace he := he.mono hle6
  replace hv10 := hv10.mono hle6
  refine zq (tch := []) hst6 hfr6 (by kernel_rfl) (by kernel_rfl) (by kernel_rfl) (.cons rfl (zh (j := 1) rfl rfl isAgg25 sizeOf25 rfl) <| .cons rfl (zC rfl) <| .cons rfl (zm (φ := MP.vlb (q9.getD Zt) q9.isSome) rfl (.cons rfl <| .cons rfl <| .nil) call48 (fun w m hK => by have hle_ := KC.le hK; have hA := KC.agree hK; have he := he.mono hle_; have hv10 := hv10.mono hle_; exact FnG.mono (matom_c hA hv10 he hq9) fun _ _ _ _ h => h)) <| .nil) fun a7 w7 m7 hst7 hle7 hk7 => ?_
  have hfr7 := hk7.fr (.o 6 <| .o 13 <| .o 1 <| .o 11 <| .o 12 <| .o 8 <| .nil)
  obtain ⟨y9, e13, hv9⟩ := hk7.ex 20 rfl
  replace hfr7 := hfr7.cons e13
  clear hst6 hfr6 hk7
  replace hst7 := hst7.more (r := .free) trivial List.nodup_nil (by simp [Res.blocks])
  refine zq (tch := [(3, 2, (fun v => .blk v _)), (4, 2, (fun v => .blk v _))]) hst7 hfr7 (by kernel_rfl) (by kernel_rfl) (by kernel_rfl) (.cons rfl (zC rfl) <| .cons rfl (zM rfl rfl) <| .cons rfl (zM rfl rfl) <| .consT rfl rfl (fun _ => rfl) rfl (zP zeroValue72 rfl) <| .consT rfl rfl (fun _ => rfl) rfl (zb 9 rfl rfl rfl fun y9 => za rfl rfl rfl rfl rfl sizeOf72 rfl rfl rfl) <| .cons rfl (zD rfl) <| .nil) fun a8 w8 m8 hst8 hle8 hk8 => ?_
  have hfr8 := hk8.fr (.o 6 <| .o 13 <| .o 1 <| .o 11 <| .o 12 <| .o 8 <| .o 20 <| .n 10 <| .nil)
  obtain ⟨g9, e14, _⟩ := hk8.ex 9 rfl
  replace hfr8 := hfr8.cons e14
  replace hst8 := hst8.fin (L' := [_, _, _]) (.cons e14 <| .cons e14 <| .nil)
  try simp only [List.take_succ_cons, List.take_zero, List.drop_succ_cons, List.drop_zero, List.cons_append, List.nil_append, List.append_nil, List.length_cons, List.length_nil, Nat.zero_add, Nat.reduceAdd] at hst8
  clear hst7 hfr7 hk8
  refine hK12 _ _ ?_
  refine zB fun _ hK15 => ?_
  refine zB fun _ hK16 => ?_
  refine rp0 hst8 hfr8 (.cons rfl (zC rfl) <| .cons rfl (z2 rfl) <| .nil) fun a9 w9 m9 hst9 hle9 hk9 => ?_
  have hfr9 := hk9.fr (.o 6 <| .o 13 <| .o 1 <| .o 11 <| .o 12 <| .o 9 <| .n 24 <| .nil)
  clear hst8 hfr8 hk9
  refine hK16 _ _ ?_
  refine zE hfr9 rfl rfl (fun hb24 => ?_) (fun hb24 => ?_)
  ·try simp only [nqs] at hb24
   have hr0 : r = none := hqn9 (none_of hb24)
   refine zB fun _ hK17 => ?_
   refine rp0 hst9 hfr9 (.cons rfl (zD rfl) <| .cons rfl (zD rfl) <| .nil) fun a10 w10 m10 hst10 hle10 hk10 => ?_
   have hfr10 := hk10.fr (.o 6 <| .o 13 <| .n 4 <| .n 5 <| .nil)
   clear hst9 hfr9 hk10
   refine hK17 _ _ ?_
   refine zN ?_
   repeat (with_reducible first | refine zH ?_ | refine zG ?_)
   exact zO hst10 hfr10 rfl (.tmp rfl <| .tmp rfl <| .nil) (⟨(none, 0), by rw [hr0]; rfl, by rw [hr0]; exact Sl.empty⟩)
  ·try simp only [nqs] at hb24
   refine zR ?_
   refine hK15 _ _ ?_
   have zq1 := hle8.trans hle9
   replace hv9 := hv9.mono zq1
   refine ra0 (tch := [(3, 0, (fun v => .rowx (nz v) _ _ _ _))]) hst9 hfr9 (.cons rfl (zC rfl) <| .cons rfl (zh (j := 2) rfl rfl isAgg72 sizeOf72 rfl) <| .cons rfl (ZV rfl underlying68 sizeOf72 zeroValue72 rfl rfl rfl rfl) <| .consT rfl rfl (fun _ => rfl) rfl (zb 27 rfl rfl rfl fun y27 => zCm (size := 7) (bytes := 112) (l := ga) (l' := [(q9.getD Zt)]) rfl rfl (fun _ => by first | exact .inl rfl | exact .inr (.inl rfl)) underlying68 type72 rfl rfl rfl rfl (fun w m hK => Sl.one (R := fun m vs v => VlR m v vs) hK.2 rfl (hv9.mono (KC.le hK))) rfl (by decide) (by simp only [maxLen]; omega) (by omega)) <| .consA 28 rfl rfl <| .nil) fun a10 w10 m10 hst10 hle10 hk10 => ?_
   have hfr10 := hk10.fr (.o 13 <| .o 1 <| .o 11 <| .o 12 <| .nil)
   obtain ⟨⟨O_19o, O_19p⟩, e20, hsl_O_19⟩ := hk10.ex 28 rfl
   replace hfr10 := hfr10.cons (hk10.same 6 rfl e20)
   replace hst10 := hst10.fin (L' := [_, _, _]) (.cons e20 <| .nil)
   clear hst9 hfr9 hk10
   replace hsl_O_19 : Vls m10 O_19o (ga ++ [(q9.getD Zt)]).length O_19p (ga ++ [(q9.getD Zt)]) := hsl_O_19
   refine hK8 _ _ ?_
   refine rp0 hst10 hfr10 (.cons rfl (z6 rfl rfl ⟨by omega, by omega⟩) <| .cons rfl (zC rfl) <| .nil) fun a11 w11 m11 hst11 hle11 hk11 => ?_
   have hfr11 := hk11.fr (.o 1 <| .o 11 <| .o 12 <| .o 6 <| .n 13 <| .nil)
   clear hst10 hfr10 hk11
   have hst11 := hst11.take 1
   replace hsl_O_19 := hsl_O_19.mono hle11
   have zq2 := hle10.trans hle11
   have zq3 := zq1.trans zq2
   have zq4 := hle7.trans zq3
   have zq5 := hle6.trans zq4
   have hlh11 := hlh5.trans zq5
   exact ⟨(y + 1, O_19o, O_19p, (ga ++ [(q9.getD Zt)])), m11, by show l.length - (y + 1) < l.length - y; omega, ⟨hst11, hlh11, hfr11.sub (.c <| .c <| .c <| .c <| .c <| .nil), ⟨by show y + 1 ≤ l.length; omega, hsl_O_19, ⟨hqs9 _ (some_getD hb24), by show (ga ++ [_]).length ≤ y + 1; simp; omega⟩⟩⟩⟩
 ·try simp only [nqs] at hb14
  have hge : y = l.length := by omega
  rw [List.drop_of_length_le (by omega), zAB, zDU, List.append_nil] at hlen_ga
  have hfin : r = some ga := by have h9 := hlen_ga.1; injection h9
  refine zv ?_
  refine hK3 _ _ ?_
  refine zB fun _ hK21 => ?_
  refine rp0 hst5 hfr5 (.cons rfl (zC rfl) <| .cons rfl (zD rfl) <| .cons rfl (zD rfl) <| .nil) fun a6 w6 m6 hst6 hle6 hk6 => ?_
  have hfr6 := hk6.fr (.o 6 <| .o 13 <| .n 4 <| .n 5 <| .nil)
  clear hst5 hfr5 hk6
  refine hK21 _ _ ?_
  refine zN ?_
  repeat (with_reducible first | refine zH ?_ | refine zG ?_)
  replace hsl_ga := hsl_ga.mono hle6
  exact zO hst6 hfr6 rfl (.tmp rfl <| .tmp rfl <| .nil) (⟨(_, _), by rw [hfin]; rfl, by rw [hfin]; exact hsl_ga⟩)
end Go.Proofs.Ytnppknioifgdfaa
namespace Go.Proofs.Ytnppknioifgdfaa
open Go.Proofs.Try
set_option linter.all false
set_option maxRecDepth 4000
open Go.RowKit
theorem CloR.cases {m : Mem} {f : Clo} {p : Option Addr} (h : CloR m f p) : (f = .none ∧ p = none) ∨ ∃ s q b e a bs pe, f = .mk s q b e ∧ p = some a ∧ CellsAt m a (S s :: S q :: (bs ++ [.pointer pe])) ∧ CdR m b bs ∧ EnvR m e pe := by
 cases f with
 | none => simp only [CloR] at h; exact .inl ⟨rfl, h⟩
 | mk s q b e => simp only [CloR] at h; obtain ⟨a, bs, pe, h1, h2, h3, h4⟩ := h; exact .inr ⟨s, q, b, e, a, bs, pe, rfl, h1, h2, h3, h4⟩
theorem zDK {s s2 : Mc} {f v : Vl} {b : Bool} {self p : Str} {bd : Cd} {e : Env} (h : zBt s f v = some (s2, b)) (hc : f.clo = .mk self p bd e) : s2 = s.goes bd (.cons p v (if self = [] then e else .cons self f e)) ∧ b = true := by
 unfold zBt at h; rw [hc] at h; injection h with h; injection h with h1 h2; exact ⟨h1.symm, h2.symm⟩
theorem zCT {s s2 : Mc} {f v : Vl} {b : Bool} (h : zBt s f v = some (s2, b)) (hc : f.clo = .none) : (f.fs = [] ∧ s2 = s ∧ b = false) ∨ ∃ g r t, f.fs = g :: r ∧ Zr s f.fs = some t ∧ s2 = t.has v ∧ b = true := by
 unfold zBt at h; rw [hc] at h
 simp only at h
 split at h
 ·rename_i hf; injection h with h; injection h with h1 h2; exact .inl ⟨hf, h1.symm, h2.symm⟩
 ·rename_i hf
  split at h
  ·cases h
  ·rename_i t ht
   injection h with h; injection h with h1 h2
   cases hfs : f.fs with
   | nil => exact absurd hfs hf
   | cons g r => exact .inr ⟨g, r, t, rfl, by rw [← hfs]; exact ht, h1.symm, h2.symm⟩
theorem zCX {s t : Mc} {f : Fm} {r : List Fm} (h : Zr s (f :: r) = some t) : ∃ u, zCZ s f = some u ∧ Zr u r = some t := by
 unfold Zr at h
 split at h
 ·cases h
 ·rename_i u hu; exact ⟨u, hu, h⟩
theorem push_b {s u : Mc} {q : Bool} {n : Str} {c : Cd} {e : Env} (h : zCZ s (.bound q n c e) = some u) : s.bnd = true ∧ u = s.push (.bound q n c e) := by
 simp only [zCZ] at h
 split at h
 ·rename_i hb; injection h with h; exact ⟨hb, h.symm⟩
 ·cases h
theorem push_p {s u : Mc} {q : Str} {l : List Ca} {e : Env} {k : Int} (h : zCZ s (.prompt q l e k) = some u) : s.bnd = true ∧ u = s.put q l e := by
 simp only [zCZ] at h
 split at h
 ·rename_i hb; injection h with h; exact ⟨hb, h.symm⟩
 ·cases h
theorem push_r {s u : Mc} {v : Ev} {n : Int} (h : zCZ s (.restore v n) = some u) : s.bnd = true ∧ u = { s.push (.restore s.ev n) with ev := Zg n.toNat s.ev } := by
 simp only [zCZ] at h
 split at h
 ·rename_i hb; injection h with h; exact ⟨hb, h.symm⟩
 ·cases h
set_option maxHeartbeats 3200000 in
theorem call_g {w : World} {m : Mem} {g : Nat} {s : Mc} {y0 : McY} {f : Vl} {vs_f : List Value} {v : Vl} {vs_v : List Value} {s2 : Mc} {b : Bool} (hA : Agree w m) (hr : (MB g s y0).holds w m) (hS : McR m s y0) (h_f : VlR m f vs_f) (h_v : VlR m v vs_v) (hrun : zBt s f v = some (s2, b)) : FnG Try.prog 51 #[.pointer (some ⟨g, 0, none⟩), .agg vs_f.toArray, .agg vs_v.toArray] [g] w m (fun w' m' v => zBs g w.heap.size (s2) y0 w' m' ∧ v = .bool b) := by
 obtain ⟨⟨oa_f, ca_f, pf_f, ob_f, cb_f⟩, rfl, ⟨hi_f, hj_f⟩, hvk_f, hcl_f, hfm_f, hnl_f⟩ := h_f.open_
 have hbk_f := hvk_f.big; have hbf_f := hfm_f.big
 obtain ⟨⟨oa_v, ca_v, pf_v, ob_v, cb_v⟩, rfl, ⟨hi_v, hj_v⟩, hvk_v, hcl_v, hfm_v, hnl_v⟩ := h_v.open_
 have hbk_v := hvk_v.big; have hbf_v := hfm_v.big
 refine zZ (vs := [_, _, _]) func51 rfl rfl rfl fun a0 hfr0 => ?_
 have hst0 := zW hA (zAN hr (by simp [Res.blocks, zn]))
 have hM : MLe m m := MLe.refl m
 refine zB fun _ hK1 => ?_
 refine rp0 hst0 hfr0 (.cons rfl (zr rfl rfl) <| .cons rfl (zr rfl rfl) <| .cons rfl (zD rfl) <| .nil) fun a1 w1 m1 hst1 hle1 hk1 => ?_
 have hfr1 := hk1.fr (.o 0 <| .nil)
 obtain ⟨g2, e2, hc4⟩ := hk1.ex 4 rfl
 replace hfr1 := hfr1.cons e2
 obtain ⟨g3, e3, hc5⟩ := hk1.ex 5 rfl
 replace hfr1 := hfr1.cons e3
 replace hS := hS.mono hle1
 replace h_f := h_f.mono hle1
 replace hvk_f := hvk_f.mono hle1
 replace hcl_f := hcl_f.mono hle1
 replace hfm_f := hfm_f.mono hle1
 replace h_v := h_v.mono hle1
 replace hvk_v := hvk_v.mono hle1
 replace hcl_v := hcl_v.mono hle1
 replace hfm_v := hfm_v.mono hle1
 replace hM := hM.trans hle1
 clear hst0 hfr0 hk1
 refine hK1 _ _ ?_
 refine zB fun _ hK4 => ?_
 refine zT ?_
 refine zB fun _ hK5 => ?_
 rcases hcl_f.cases with ⟨hfc, hfp⟩ | ⟨s9, q9, b9, e9, a9, bs9, pe9, hfc, hfp, hce9, hcb9, hee9⟩
 ·skip
  subst hfp
  refine rp0 hst1 hfr1 (.cons rfl (zA (off := 5) rfl underlying72 rfl rfl sizeOf69 rfl) <| .cons rfl (zJ rfl hc4 isAgg69 rfl) <| .cons rfl (zBU rfl underlying69) <| .cons rfl (zD rfl) <| .nil) fun a2 w2 m2 hst2 hle2 hk2 => ?_
  have hfr2 := hk2.fr (.o 0 <| .o 4 <| .o 5 <| .n 13 <| .nil)
  clear hst1 hfr1 hk2
  refine hK5 _ _ ?_
  refine zE hfr2 rfl rfl (fun hb13 => ?_) (fun hb13 => ?_)
  ·simp at hb13
  ·try simp only [nqs] at hb13
   refine zB fun _ hK6 => ?_
   rcases zCT hrun hfc with ⟨hf0, rfl, rfl⟩ | ⟨f0, fr, t9, hf0, hpa, rfl, rfl⟩
   ·skip
    have hob : ob_f = none := hnl_f hf0
    subst hob
    replace hc4 := hc4.mono hle2
    refine rp0 hst2 hfr2 (.cons rfl (zA (off := 6) rfl underlying72 rfl rfl sizeOf70 rfl) <| .cons rfl (zJ rfl hc4 isAgg70 rfl) <| .cons rfl (ob_slnnil rfl underlying70) <| .cons rfl (zD rfl) <| .nil) fun a3 w3 m3 hst3 hle3 hk3 => ?_
    have hfr3 := hk3.fr (.o 0 <| .o 4 <| .o 5 <| .n 51 <| .nil)
    clear hst2 hfr2 hk3
    refine hK6 _ _ ?_
    refine zE hfr3 rfl rfl (fun hb51 => ?_) (fun hb51 => ?_)
    ·simp at hb51
    ·try simp only [nqs] at hb51
     refine zR ?_
     refine hK4 _ _ ?_
     refine zB fun _ hK7 => ?_
     refine rp0 hst3 hfr3 (.cons rfl (zD rfl) <| .nil) fun a4 w4 m4 hst4 hle4 hk4 => ?_
     have hfr4 := hk4.fr (.n 6 <| .nil)
     clear hst3 hfr3 hk4
     refine hK7 _ _ ?_
     refine zN ?_
     repeat (with_reducible first | refine zH ?_ | refine zG ?_)
     have zq1 := hle3.trans hle4
     have zq2 := hle2.trans zq1
     replace hS := hS.mono zq2
     exact zO hst4 hfr4 rfl (.tmp rfl <| .nil) (⟨⟨y0, (hst4.take 1).loc, hS, McK.refl y0⟩, rfl⟩)
   ·skip
    have hfl9 : f.fs.length = fr.length + 1 := by rw [hf0]; rfl
    replace hfm_f := hfm_f.mono hle2
    obtain ⟨p8, hob⟩ : ∃ p, ob_f = some p := by obtain ⟨p, vs, e1, _⟩ := hfm_f.at_ 0 f0 (by rw [hf0]; rfl); exact ⟨p, e1⟩
    subst hob
    replace hc4 := hc4.mono hle2
    refine rp0 hst2 hfr2 (.cons rfl (zA (off := 6) rfl underlying72 rfl rfl sizeOf70 rfl) <| .cons rfl (zJ rfl hc4 isAgg70 rfl) <| .cons rfl (ob_slnnil rfl underlying70) <| .cons rfl (zD rfl) <| .nil) fun a3 w3 m3 hst3 hle3 hk3 => ?_
    have hfr3 := hk3.fr (.o 0 <| .o 4 <| .o 5 <| .n 51 <| .nil)
    clear hst2 hfr2 hk3
    refine hK6 _ _ ?_
    refine zE hfr3 rfl rfl (fun hb51 => ?_) (fun hb51 => ?_)
    ·try simp only [nqs] at hb51
     refine zB fun _ hK9 => ?_
     refine zB fun _ hK10 => ?_
     replace hc4 := hc4.mono hle3
     refine rp0 hst3 hfr3 (.cons rfl (zA (off := 6) rfl underlying72 rfl rfl sizeOf70 rfl) <| .cons rfl (zJ rfl hc4 isAgg70 rfl) <| .cons rfl (zl rfl underlying70) <| .cons rfl (zC rfl) <| .nil) fun a4 w4 m4 hst4 hle4 hk4 => ?_
     have hfr4 := hk4.fr (.o 0 <| .o 5 <| .n 56 <| .n 57 <| .n 58 <| .nil)
     clear hst3 hfr3 hk4
     refine hK10 _ _ ?_
     refine zT ?_
     have zq3 := hle3.trans hle4
     have zq4 := hle2.trans zq3
     replace hS := hS.mono zq4
     refine zx (T := [(0, _), (5, _), (56, _), (57, _)]) (fun (y : Nat × Mc × McY) => ([(58, .int .i64 (y.1 : Int))] : List (Nat × Value))) (fun y => [MB g y.2.1 y.2.2]) (fun (y : Nat × Mc × McY) m => (fun (y : Nat) (sq : Mc) (yq : McY) => (y ≤ f.fs.length) ∧ (McR m sq yq) ∧ (McK y0 yq) ∧ (Zr sq (f.fs.drop y) = some t9)) y.1 y.2.1 y.2.2) (fun y => f.fs.length - y.1) ((0, s, y0)) ⟨hst4, MLe.refl _, hfr4.sub (.c <| .c <| .c <| .c <| .c <| .nil), ⟨Nat.zero_le _, hS, McK.refl y0, by rw [List.drop_zero]; exact hpa⟩⟩ fun y a5 w5 m5 hh5 => ?_
     have hst5 := hh5.st; have hle5 := hh5.le; have hfr5 := hh5.fr; have hrel := hh5.rel; clear hh5
     clear hst4 hfr4
     obtain ⟨y, sq, yq⟩ := y
     dsimp only at hrel hfr5 hst5
     obtain ⟨hyn, hSq, hKq, hpq⟩ := hrel
     have hlh5 := hle5
     refine zB fun _ hK12 => ?_
     refine rp0 hst5 hfr5 (.cons rfl (ZA rfl rfl) <| .nil) fun a6 w6 m6 hst6 hle6 hk6 => ?_
     have hfr6 := hk6.fr (.o 58 <| .o 0 <| .o 5 <| .o 56 <| .o 57 <| .n 59 <| .nil)
     clear hst5 hfr5 hk6
     refine hK12 _ _ ?_
     refine zB fun _ hK13 => ?_
     refine zE hfr6 rfl rfl (fun hb59 => ?_) (fun hb59 => ?_)
     ·try simp only [nqs] at hb59
      refine zR ?_
      refine hK13 _ _ ?_
      refine zB fun _ hK14 => ?_
      refine zT ?_
      refine zB fun _ hK15 => ?_
      have zq5 := hle5.trans hle6
      have zq6 := zq3.trans zq5
      replace hfm_f := hfm_f.mono zq6
      obtain ⟨p16, vs16, x16, ho16, hd16, hm_x16, ht16, hcv16, hl16, hv16⟩ := hfm_f.nth (k := y) (by omega)
      cases ho16
      obtain ⟨xf16, rfl, hff16⟩ := id hv16
      refine rp0 hst6 hfr6 (.cons rfl (zI (k := y) rfl rfl underlying70 sizeOf124 rfl (by omega)) <| .cons rfl (zk rfl hcv16 isAgg124 rfl) <| .cons rfl (zD rfl) <| .nil) fun a7 w7 m7 hst7 hle7 hk7 => ?_
      have hfr7 := hk7.fr (.o 58 <| .o 0 <| .o 5 <| .o 56 <| .o 57 <| .n 9 <| .nil)
      clear hst6 hfr6 hk7
      rw [hd16] at hpq
      obtain ⟨u9, hu9, hpq2⟩ := zCX hpq
      refine hK15 _ _ ?_
      refine zB fun _ hK17 => ?_
      refine rp0 hst7 hfr7 (.cons rfl (zC rfl) <| .nil) fun a8 w8 m8 hst8 hle8 hk8 => ?_
      have hfr8 := hk8.fr (.o 58 <| .o 0 <| .o 5 <| .o 56 <| .o 57 <| .n 62 <| .nil)
      clear hst7 hfr7 hk8
      refine hK17 _ _ ?_
      refine zT ?_
      refine zB fun _ hK18 => ?_
      obtain ⟨f9, hxf⟩ : ∃ f9, x16 = f9 := ⟨_, rfl⟩
      have zq7 := hle7.trans hle8
      replace hff16 := hff16.mono zq7
      rw [hxf] at hff16 hu9
      rcases f9 with ⟨qq, nn, c9, e9⟩ | ⟨qq, l9, e9, k9⟩ | ⟨v9, n9⟩
      ·skip
       have hq9 := hff16
       simp only [FmR] at hq9
       obtain ⟨cs9, pe9, hxe, hcc9, hee9⟩ := hq9
       subst hxe
       obtain ⟨hbn, rfl⟩ := push_b hu9
       have hbd9 := zBj hbn
       obtain ⟨⟨oK_c9, cK_c9, oA_c9, cA_c9⟩, rfl, ⟨hik_c9, hin_c9⟩, hkk_c9, haa_c9⟩ := hcc9.open_
       dsimp only at hkk_c9 haa_c9
       have hbg_c9 := hkk_c9.big; have hcp_c9 := hkk_c9.cap; have hbh_c9 := haa_c9.big; have hcq_c9 := haa_c9.cap
       refine rp0 hst8 hfr8 (.cons rfl (zBy rfl underlying108 rfl) <| .cons rfl (zM rfl rfl) <| .cons rfl (zM rfl rfl) <| .nil) fun a9 w9 m9 hst9 hle9 hk9 => ?_
       have hfr9 := hk9.fr (.o 58 <| .o 0 <| .o 5 <| .o 56 <| .o 57 <| .o 62 <| .n 64 <| .n 65 <| .nil)
       clear hst8 hfr8 hk9
       refine hK18 _ _ ?_
       refine zE hfr9 rfl rfl (fun hb64 => ?_) (fun hb64 => ?_)
       ·try simp only [nqs] at hb64
        refine zB fun _ hK19 => ?_
        replace hst9 := hst9.more (r := .free) trivial List.nodup_nil (by simp [Res.blocks])
        refine ra0 (tch := [(0, 1, (fun v => .blk v _)), (1, 1, (fun v => .blk v _))]) hst9 hfr9 (.consT rfl rfl (fun _ => rfl) rfl (zP zeroValue108 rfl) <| .consT rfl rfl (fun _ => rfl) rfl (zb 10 rfl rfl rfl fun y10 => za rfl rfl rfl rfl rfl sizeOf108 rfl rfl rfl) <| .nil) fun a10 w10 m10 hst10 hle10 hk10 => ?_
        have hfr10 := hk10.fr (.o 58 <| .o 0 <| .o 5 <| .o 56 <| .o 57 <| .nil)
        obtain ⟨g10, e20, _⟩ := hk10.ex 10 rfl
        replace hfr10 := hfr10.cons e20
        replace hst10 := hst10.fin (L' := [_, _]) (.cons e20 <| .cons e20 <| .nil)
        try simp only [List.take_succ_cons, List.take_zero, List.drop_succ_cons, List.drop_zero, List.cons_append, List.nil_append, List.append_nil, List.length_cons, List.length_nil, Nat.zero_add, Nat.reduceAdd] at hst10
        clear hst9 hfr9 hk10
        refine hK19 _ _ ?_
        have zq8 := hle9.trans hle10
        have zq9 := zq7.trans zq8
        have zq10 := zq5.trans zq9
        have zq11 := zq4.trans zq10
        replace h_f := h_f.mono zq11
        replace hvk_f := hvk_f.mono zq11
        replace hcl_f := hcl_f.mono zq11
        replace h_v := h_v.mono zq11
        replace hvk_v := hvk_v.mono zq11
        replace hcl_v := hcl_v.mono zq11
        replace hfm_v := hfm_v.mono zq11
        replace hc5 := hc5.mono zq11
        replace hM := hM.trans zq11
        have zq12 := hle4.trans zq10
        replace hc4 := hc4.mono zq12
        replace hS := hS.mono zq10
        have zq13 := hle6.trans zq9
        replace hSq := hSq.mono zq13
        replace hfm_f := hfm_f.mono zq9
        replace hcv16 := hcv16.mono zq9
        replace hv16 := hv16.mono zq9
        replace hff16 := hff16.mono zq8
        replace hcc9 := hcc9.mono zq8
        replace hee9 := hee9.mono zq8
        refine ra0 (tch := [(3, 0, (fun _ => MK g (sq.push (.bound qq nn c9 e9)) yq))]) hst10 hfr10 (.cons rfl (zC rfl) <| .cons rfl (zh (j := 1) rfl rfl isAgg108 sizeOf108 rfl) <| .cons rfl (zDj rfl underlying108 rfl) <| .consT rfl rfl (fun _ => rfl) rfl (zj rfl (.cons rfl <| .cons rfl <| .nil) call45 (κ := .ex (MP.anyV)) (fun σ w m hK hr hkn => by have hle_ := KC.le hK; have hA := KC.agree hK; have hM := hM.trans hle_; have hS := hS.mono hle_; have h_f := h_f.mono hle_; have hvk_f := hvk_f.mono hle_; have hcl_f := hcl_f.mono hle_; have hfm_f := hfm_f.mono hle_; have h_v := h_v.mono hle_; have hvk_v := hvk_v.mono hle_; have hcl_v := hcl_v.mono hle_; have hfm_v := hfm_v.mono hle_; have hc4 := hc4.mono hle_; have hc5 := hc5.mono hle_; have hSq := hSq.mono hle_; have hcv16 := hcv16.mono hle_; have hv16 := hv16.mono hle_; have hff16 := hff16.mono hle_; have hcc9 := hcc9.mono hle_; have hee9 := hee9.mono hle_; exact zDo (s := sq) (zDk (s := sq) (y := yq) (f := .bound qq nn c9 e9) hA hr hSq (by simp only [FmR]; exact ⟨_, _, rfl, hcc9, hee9⟩) (by omega)))) <| .nil) fun a11 w11 m11 hst11 hle11 hk11 => ?_
        have hfr11 := hk11.fr (.o 58 <| .o 0 <| .o 5 <| .o 56 <| .o 57 <| .nil)
        obtain ⟨y21, e21, hy21⟩ := hk11.ex 69 rfl
        replace hst11 := hst11.fin (L' := [_, _]) (.cons e21 <| .nil)
        clear hst10 hfr10 hk11
        obtain ⟨y8, hst11, hS8, hK8⟩ := zp (k := 0) hst11 rfl
        simp only [List.set_cons_zero] at hst11
        refine hK14 _ _ ?_
        refine rp0 hst11 hfr11 (.cons rfl (z6 rfl rfl ⟨by omega, by omega⟩) <| .cons rfl (zC rfl) <| .nil) fun a12 w12 m12 hst12 hle12 hk12 => ?_
        have hfr12 := hk12.fr (.o 0 <| .o 5 <| .o 56 <| .o 57 <| .n 58 <| .nil)
        clear hst11 hfr11 hk12
        have hst12 := hst12.take 1
        replace hS8 := hS8.mono hle12
        have zq14 := hle11.trans hle12
        have zq15 := zq13.trans zq14
        have hlh12 := hlh5.trans zq15
        exact ⟨(y + 1, sq.push (.bound qq nn c9 e9), y8), m12, by show f.fs.length - (y + 1) < f.fs.length - y; omega, ⟨hst12, hlh12, hfr12.sub (.c <| .c <| .c <| .c <| .c <| .nil), ⟨by show y + 1 ≤ f.fs.length; omega, hS8, hKq.trans hK8, hpq2⟩⟩⟩
       ·simp at hb64
      ·skip
       have hq9 := hff16
       simp only [FmR] at hq9
       obtain ⟨oa9, ca9, pe9, hxe, hki9, hla9, hee9⟩ := hq9
       subst hxe
       obtain ⟨hbn, rfl⟩ := push_p hu9
       have hbd9 := zBj hbn
       refine rp0 hst8 hfr8 (.cons rfl (zAg rfl underlying108 rfl rfl zeroValue108) <| .cons rfl (zM rfl rfl) <| .cons rfl (zM rfl rfl) <| .nil) fun a9 w9 m9 hst9 hle9 hk9 => ?_
       have hfr9 := hk9.fr (.o 58 <| .o 0 <| .o 5 <| .o 56 <| .o 57 <| .o 62 <| .n 64 <| .n 65 <| .nil)
       clear hst8 hfr8 hk9
       refine hK18 _ _ ?_
       refine zE hfr9 rfl rfl (fun hb64 => ?_) (fun hb64 => ?_)
       ·simp at hb64
       ·try simp only [nqs] at hb64
        refine zB fun _ hK22 => ?_
        refine rp0 hst9 hfr9 (.cons rfl (zBy rfl underlying127 rfl) <| .cons rfl (zM rfl rfl) <| .cons rfl (zM rfl rfl) <| .nil) fun a10 w10 m10 hst10 hle10 hk10 => ?_
        have hfr10 := hk10.fr (.o 58 <| .o 0 <| .o 5 <| .o 56 <| .o 57 <| .o 62 <| .n 71 <| .n 72 <| .nil)
        clear hst9 hfr9 hk10
        refine hK22 _ _ ?_
        refine zE hfr10 rfl rfl (fun hb71 => ?_) (fun hb71 => ?_)
        ·try simp only [nqs] at hb71
         refine zB fun _ hK23 => ?_
         replace hst10 := hst10.more (r := .free) trivial List.nodup_nil (by simp [Res.blocks])
         refine ra0 (tch := [(0, 1, (fun v => .blk v _)), (1, 1, (fun v => .blk v _))]) hst10 hfr10 (.consT rfl rfl (fun _ => rfl) rfl (zP zeroValue127 rfl) <| .consT rfl rfl (fun _ => rfl) rfl (zb 11 rfl rfl rfl fun y11 => za rfl rfl rfl rfl rfl sizeOf127 rfl rfl rfl) <| .nil) fun a11 w11 m11 hst11 hle11 hk11 => ?_
         have hfr11 := hk11.fr (.o 58 <| .o 0 <| .o 5 <| .o 56 <| .o 57 <| .nil)
         obtain ⟨g11, e24, _⟩ := hk11.ex 11 rfl
         replace hfr11 := hfr11.cons e24
         replace hst11 := hst11.fin (L' := [_, _]) (.cons e24 <| .cons e24 <| .nil)
         try simp only [List.take_succ_cons, List.take_zero, List.drop_succ_cons, List.drop_zero, List.cons_append, List.nil_append, List.append_nil, List.length_cons, List.length_nil, Nat.zero_add, Nat.reduceAdd] at hst11
         clear hst10 hfr10 hk11
         refine hK23 _ _ ?_
         have zq16 := hle10.trans hle11
         have zq17 := hle9.trans zq16
         have zq18 := zq7.trans zq17
         have zq19 := zq5.trans zq18
         have zq20 := zq4.trans zq19
         replace h_f := h_f.mono zq20
         replace hvk_f := hvk_f.mono zq20
         replace hcl_f := hcl_f.mono zq20
         replace h_v := h_v.mono zq20
         replace hvk_v := hvk_v.mono zq20
         replace hcl_v := hcl_v.mono zq20
         replace hfm_v := hfm_v.mono zq20
         replace hc5 := hc5.mono zq20
         replace hM := hM.trans zq20
         have zq21 := hle4.trans zq19
         replace hc4 := hc4.mono zq21
         replace hS := hS.mono zq19
         have zq22 := hle6.trans zq18
         replace hSq := hSq.mono zq22
         replace hfm_f := hfm_f.mono zq18
         replace hcv16 := hcv16.mono zq18
         replace hv16 := hv16.mono zq18
         replace hff16 := hff16.mono zq17
         replace hla9 := hla9.mono zq17
         replace hee9 := hee9.mono zq17
         refine ra0 (tch := [(3, 0, (fun _ => MK g (sq.put qq l9 e9) yq))]) hst11 hfr11 (.cons rfl (zC rfl) <| .cons rfl (zA (off := 0) rfl underlying127 rfl rfl sizeOf114 rfl) <| .cons rfl (zz (j := 1) rfl rfl isAgg114 sizeOf114 rfl rfl) <| .consT rfl rfl (fun _ => rfl) rfl (zj rfl (.cons rfl <| .cons rfl <| .nil) call47 (κ := .ex (MP.anyV)) (fun σ w m hK hr hkn => by have hle_ := KC.le hK; have hA := KC.agree hK; have hM := hM.trans hle_; have hS := hS.mono hle_; have h_f := h_f.mono hle_; have hvk_f := hvk_f.mono hle_; have hcl_f := hcl_f.mono hle_; have hfm_f := hfm_f.mono hle_; have h_v := h_v.mono hle_; have hvk_v := hvk_v.mono hle_; have hcl_v := hcl_v.mono hle_; have hfm_v := hfm_v.mono hle_; have hc4 := hc4.mono hle_; have hc5 := hc5.mono hle_; have hSq := hSq.mono hle_; have hcv16 := hcv16.mono hle_; have hv16 := hv16.mono hle_; have hff16 := hff16.mono hle_; have hla9 := hla9.mono hle_; have hee9 := hee9.mono hle_; exact zDo (s := sq) (put_g (s := sq) (y := yq) (q := qq) (l := l9) (e := e9) hA hr hSq hla9 hee9 (by omega) (by omega) (by omega)))) <| .nil) fun a12 w12 m12 hst12 hle12 hk12 => ?_
         have hfr12 := hk12.fr (.o 58 <| .o 0 <| .o 5 <| .o 56 <| .o 57 <| .nil)
         obtain ⟨y25, e25, hy25⟩ := hk12.ex 76 rfl
         replace hst12 := hst12.fin (L' := [_, _]) (.cons e25 <| .nil)
         clear hst11 hfr11 hk12
         obtain ⟨y8, hst12, hS8, hK8⟩ := zp (k := 0) hst12 rfl
         simp only [List.set_cons_zero] at hst12
         refine hK14 _ _ ?_
         refine rp0 hst12 hfr12 (.cons rfl (z6 rfl rfl ⟨by omega, by omega⟩) <| .cons rfl (zC rfl) <| .nil) fun a13 w13 m13 hst13 hle13 hk13 => ?_
         have hfr13 := hk13.fr (.o 0 <| .o 5 <| .o 56 <| .o 57 <| .n 58 <| .nil)
         clear hst12 hfr12 hk13
         have hst13 := hst13.take 1
         replace hS8 := hS8.mono hle13
         have zq23 := hle12.trans hle13
         have zq24 := zq22.trans zq23
         have hlh13 := hlh5.trans zq24
         exact ⟨(y + 1, sq.put qq l9 e9, y8), m13, by show f.fs.length - (y + 1) < f.fs.length - y; omega, ⟨hst13, hlh13, hfr13.sub (.c <| .c <| .c <| .c <| .c <| .nil), ⟨by show y + 1 ≤ f.fs.length; omega, hS8, hKq.trans hK8, hpq2⟩⟩⟩
        ·simp at hb71
      ·skip
       have hq9 := hff16
       simp only [FmR] at hq9
       obtain ⟨p9, hxe, hni9, hev9⟩ := hq9
       subst hxe
       obtain ⟨hbn, rfl⟩ := push_r hu9
       have hbd9 := zBj hbn
       refine rp0 hst8 hfr8 (.cons rfl (zAg rfl underlying108 rfl rfl zeroValue108) <| .cons rfl (zM rfl rfl) <| .cons rfl (zM rfl rfl) <| .nil) fun a9 w9 m9 hst9 hle9 hk9 => ?_
       have hfr9 := hk9.fr (.o 58 <| .o 0 <| .o 5 <| .o 56 <| .o 57 <| .o 62 <| .n 64 <| .n 65 <| .nil)
       clear hst8 hfr8 hk9
       refine hK18 _ _ ?_
       refine zE hfr9 rfl rfl (fun hb64 => ?_) (fun hb64 => ?_)
       ·simp at hb64
       ·try simp only [nqs] at hb64
        refine zB fun _ hK26 => ?_
        refine rp0 hst9 hfr9 (.cons rfl (zAg rfl underlying127 rfl rfl zeroValue127) <| .cons rfl (zM rfl rfl) <| .cons rfl (zM rfl rfl) <| .nil) fun a10 w10 m10 hst10 hle10 hk10 => ?_
        have hfr10 := hk10.fr (.o 58 <| .o 0 <| .o 5 <| .o 56 <| .o 57 <| .o 62 <| .n 71 <| .n 72 <| .nil)
        clear hst9 hfr9 hk10
        refine hK26 _ _ ?_
        refine zE hfr10 rfl rfl (fun hb71 => ?_) (fun hb71 => ?_)
        ·simp at hb71
        ·try simp only [nqs] at hb71
         refine zB fun _ hK27 => ?_
         refine rp0 hst10 hfr10 (.cons rfl (zBy rfl underlying130 rfl) <| .cons rfl (zM rfl rfl) <| .cons rfl (zM rfl rfl) <| .nil) fun a11 w11 m11 hst11 hle11 hk11 => ?_
         have hfr11 := hk11.fr (.o 58 <| .o 0 <| .o 5 <| .o 56 <| .o 57 <| .n 78 <| .n 79 <| .nil)
         clear hst10 hfr10 hk11
         refine hK27 _ _ ?_
         refine zE hfr11 rfl rfl (fun hb78 => ?_) (fun hb78 => ?_)
         ·try simp only [nqs] at hb78
          refine zB fun _ hK28 => ?_
          replace hst11 := hst11.more (r := .free) trivial List.nodup_nil (by simp [Res.blocks])
          refine ra0 (tch := [(0, 1, (fun v => .blk v _)), (1, 1, (fun v => .blk v _))]) hst11 hfr11 (.consT rfl rfl (fun _ => rfl) rfl (zP zeroValue130 rfl) <| .consT rfl rfl (fun _ => rfl) rfl (zb 12 rfl rfl rfl fun y12 => za rfl rfl rfl rfl rfl sizeOf130 rfl rfl rfl) <| .nil) fun a12 w12 m12 hst12 hle12 hk12 => ?_
          have hfr12 := hk12.fr (.o 58 <| .o 0 <| .o 5 <| .o 56 <| .o 57 <| .nil)
          obtain ⟨g12, e29, _⟩ := hk12.ex 12 rfl
          replace hfr12 := hfr12.cons e29
          replace hst12 := hst12.fin (L' := [_, _]) (.cons e29 <| .cons e29 <| .nil)
          try simp only [List.take_succ_cons, List.take_zero, List.drop_succ_cons, List.drop_zero, List.cons_append, List.nil_append, List.append_nil, List.length_cons, List.length_nil, Nat.zero_add, Nat.reduceAdd] at hst12
          clear hst11 hfr11 hk12
          refine hK28 _ _ ?_
          refine zB fun _ hK30 => ?_
          have zq25 := hle11.trans hle12
          have zq26 := hle10.trans zq25
          have zq27 := hle9.trans zq26
          have zq28 := zq7.trans zq27
          have zq29 := zq5.trans zq28
          have zq30 := zq4.trans zq29
          replace h_f := h_f.mono zq30
          replace hvk_f := hvk_f.mono zq30
          replace hcl_f := hcl_f.mono zq30
          replace h_v := h_v.mono zq30
          replace hvk_v := hvk_v.mono zq30
          replace hcl_v := hcl_v.mono zq30
          replace hfm_v := hfm_v.mono zq30
          replace hc5 := hc5.mono zq30
          replace hM := hM.trans zq30
          have zq31 := hle4.trans zq29
          replace hc4 := hc4.mono zq31
          replace hS := hS.mono zq29
          have zq32 := hle6.trans zq28
          replace hSq := hSq.mono zq32
          replace hfm_f := hfm_f.mono zq28
          replace hcv16 := hcv16.mono zq28
          replace hv16 := hv16.mono zq28
          replace hff16 := hff16.mono zq27
          replace hev9 := hev9.mono zq27
          refine zc (tch := [(10, 0, (fun _ => MK g (sq.push (.restore sq.ev n9)) yq))]) (fun _ => zw) hst12 hfr12 (by kernel_rfl) (by kernel_rfl) (by kernel_rfl) (.cons rfl (zC rfl) <| .cons rfl (zC rfl) <| .cons rfl (zL rfl) <| .cons rfl (zA (off := 0) rfl underlying79 rfl rfl sizeOf77 rfl) <| .cons rfl (zA (off := 15) rfl underlying77 rfl rfl sizeOf75 rfl) <| .cons rfl (zz (k := 15) (j := 0) rfl rfl isAgg75 sizeOf75 rfl rfl) <| .cons rfl (zA (off := 1) rfl underlying130 rfl rfl sizeOf3 rfl) <| .cons rfl (zK (j := 1) rfl rfl isAgg3 rfl) <| .cons rfl (zQ (.cons rfl <| .cons rfl <| .nil) underlying130 zeroValue130 (.cons sizeOf75 <| .cons sizeOf3 <| .nil) rfl) <| .cons rfl (zDj rfl underlying130 rfl) <| .consT rfl rfl (fun _ => rfl) rfl (zj rfl (.cons rfl <| .cons rfl <| .nil) call45 (κ := .ex (MP.anyV)) (fun σ w m hK hr hkn => by have hle_ := KC.le hK; have hA := KC.agree hK; have hM := hM.trans hle_; have hS := hS.mono hle_; have h_f := h_f.mono hle_; have hvk_f := hvk_f.mono hle_; have hcl_f := hcl_f.mono hle_; have hfm_f := hfm_f.mono hle_; have h_v := h_v.mono hle_; have hvk_v := hvk_v.mono hle_; have hcl_v := hcl_v.mono hle_; have hfm_v := hfm_v.mono hle_; have hc4 := hc4.mono hle_; have hc5 := hc5.mono hle_; have hSq := hSq.mono hle_; have hcv16 := hcv16.mono hle_; have hv16 := hv16.mono hle_; have hff16 := hff16.mono hle_; have hev9 := hev9.mono hle_; exact zDo (s := sq) (zDk (s := sq) (y := yq) (f := .restore sq.ev n9) hA hr hSq (by simp only [FmR]; exact ⟨_, rfl, hni9, hSq.ev⟩) (by omega)))) <| .nil) fun a13 w13 m13 hst13 hle13 hk13 => ?_
          have hfr13 := hk13.fr (.o 58 <| .o 0 <| .o 5 <| .o 56 <| .o 57 <| .o 12 <| .nil)
          obtain ⟨y31, e31, hy31⟩ := hk13.ex 90 rfl
          replace hst13 := hst13.fin (L' := [_, _]) (.cons e31 <| .nil)
          clear hst12 hfr12 hk13
          obtain ⟨y8, hst13, hS8, hK8⟩ := zp (k := 0) hst13 rfl
          simp only [List.set_cons_zero] at hst13
          refine hK30 _ _ ?_
          refine zc (tch := [(12, 0, (fun _ => .blkx _ _ _))]) (fun _ => zw) hst13 hfr13 (by kernel_rfl) (by kernel_rfl) (by kernel_rfl) (.cons rfl (zC rfl) <| .cons rfl (zC rfl) <| .cons rfl (zL rfl) <| .cons rfl (zA (off := 0) rfl underlying79 rfl rfl sizeOf77 rfl) <| .cons rfl (zA (off := 15) rfl underlying77 rfl rfl sizeOf75 rfl) <| .cons rfl (zz (k := 15) (j := 0) rfl rfl isAgg75 sizeOf75 rfl rfl) <| .cons rfl (zA (off := 1) rfl underlying130 rfl rfl sizeOf3 rfl) <| .cons rfl (zK (j := 1) rfl rfl isAgg3 rfl) <| .cons rfl (zm (φ := MP.ev (Zg n9.toNat sq.ev)) rfl (.cons rfl <| .cons rfl <| .nil) call56 (fun w m hK => by have hle_ := KC.le hK; have hA := KC.agree hK; have hS8 := hS8.mono hle_; exact FnG.mono (vdrop_c (n := n9) hA hS8.ev hni9) fun _ _ _ _ h => h)) <| .cons rfl (zL rfl) <| .cons rfl (zA (off := 0) rfl underlying79 rfl rfl sizeOf77 rfl) <| .cons rfl (zA (off := 15) rfl underlying77 rfl rfl sizeOf75 rfl) <| .consT rfl rfl (fun _ => rfl) rfl (z8 99 rfl rfl rfl fun y99 => z1 (k := 15) rfl rfl rfl sizeOf75 rfl rfl rfl) <| .nil) fun a14 w14 m14 hst14 hle14 hk14 => ?_
          have hfr14 := hk14.fr (.o 58 <| .o 0 <| .o 5 <| .o 56 <| .o 57 <| .nil)
          replace hst14 := hst14.fin (L' := [_, _]) (.cons rfl <| .nil)
          try simp only [List.take_succ_cons, List.take_zero, List.drop_succ_cons, List.drop_zero, List.cons_append, List.nil_append, List.append_nil, List.length_cons, List.length_nil, Nat.zero_add, Nat.reduceAdd] at hst14
          obtain ⟨pv8, hev8, hst14⟩ := hst14.unx (k := 0) rfl (fun _ => rfl)
          clear hst13 hfr13 hk14
          refine hK14 _ _ ?_
          refine rp0 hst14 hfr14 (.cons rfl (z6 rfl rfl ⟨by omega, by omega⟩) <| .cons rfl (zC rfl) <| .nil) fun a15 w15 m15 hst15 hle15 hk15 => ?_
          have hfr15 := hk15.fr (.o 0 <| .o 5 <| .o 56 <| .o 57 <| .n 58 <| .nil)
          clear hst14 hfr14 hk15
          have hst15 := hst15.take 1
          have zq33 := hle14.trans hle15
          replace hS8 := hS8.mono zq33
          replace hev8 := hev8.mono hle15
          have zq34 := hle13.trans zq33
          have zq35 := zq32.trans zq34
          have hlh15 := hlh5.trans zq35
          exact ⟨(y + 1, ({ sq.push (.restore sq.ev n9) with ev := Zg n9.toNat sq.ev } : Mc), { y8 with pv := pv8 }), m15, by show f.fs.length - (y + 1) < f.fs.length - y; omega, ⟨hst15, hlh15, hfr15.sub (.c <| .c <| .c <| .c <| .c <| .nil), ⟨by show y + 1 ≤ f.fs.length; omega, ⟨hS8.c, hS8.e, hS8.v, hev8, hS8.fr, hS8.inp, hS8.next, hS8.kind, hS8.eff, hS8.steps, hS8.konts, hS8.tr⟩, hKq.trans ⟨hK8.co, hK8.cc, hK8.mo, hK8.to, hK8.tc⟩, hpq2⟩⟩⟩
         ·simp at hb78
     ·try simp only [nqs] at hb59
      have hge : y = f.fs.length := by omega
      rw [List.drop_of_length_le (by omega), Zr] at hpq
      injection hpq with hpq
      subst hpq
      refine zv ?_
      refine hK9 _ _ ?_
      refine zB fun _ hK33 => ?_
      have zq36 := hle5.trans hle6
      have zq37 := zq4.trans zq36
      replace h_f := h_f.mono zq37
      replace hvk_f := hvk_f.mono zq37
      replace hcl_f := hcl_f.mono zq37
      replace h_v := h_v.mono zq37
      replace hvk_v := hvk_v.mono zq37
      replace hcl_v := hcl_v.mono zq37
      replace hfm_v := hfm_v.mono zq37
      replace hc5 := hc5.mono zq37
      replace hM := hM.trans zq37
      have zq38 := zq3.trans zq36
      replace hfm_f := hfm_f.mono zq38
      have zq39 := hle4.trans zq36
      replace hc4 := hc4.mono zq39
      replace hS := hS.mono zq36
      replace hSq := hSq.mono hle6
      refine ra0 (tch := [(2, 0, (fun _ => MK g (sq.has v) yq))]) hst6 hfr6 (.cons rfl (zC rfl) <| .cons rfl (zY rfl hc5 isAgg72 sizeOf72 rfl rfl) <| .consT rfl rfl (fun _ => rfl) rfl (zj rfl (.cons rfl <| .cons rfl <| .nil) call49 (κ := .eq (.bool true)) (fun σ w m hK hr hkn => by have hle_ := KC.le hK; have hA := KC.agree hK; have hM := hM.trans hle_; have hS := hS.mono hle_; have h_f := h_f.mono hle_; have hvk_f := hvk_f.mono hle_; have hcl_f := hcl_f.mono hle_; have hfm_f := hfm_f.mono hle_; have h_v := h_v.mono hle_; have hvk_v := hvk_v.mono hle_; have hcl_v := hcl_v.mono hle_; have hfm_v := hfm_v.mono hle_; have hc4 := hc4.mono hle_; have hc5 := hc5.mono hle_; have hSq := hSq.mono hle_; exact Zy (s := sq) (zBu (s := sq) (y := yq) hA hr hSq h_v))) <| .cons rfl (zD rfl) <| .nil) fun a7 w7 m7 hst7 hle7 hk7 => ?_
      have hfr7 := hk7.fr (.o 58 <| .n 6 <| .nil)
      replace hst7 := hst7.fin (L' := [_]) (.cons rfl <| .nil)
      clear hst6 hfr6 hk7
      obtain ⟨y7, hst7, hS7, hK7⟩ := zp (k := 0) hst7 rfl
      simp only [List.set_cons_zero] at hst7
      refine hK33 _ _ ?_
      refine zN ?_
      repeat (with_reducible first | refine zH ?_ | refine zG ?_)
      exact zO hst7 hfr7 rfl (.tmp rfl <| .nil) (⟨⟨y7, (hst7.take 1).loc, hS7, hKq.trans ⟨hK7.co, hK7.cc, hK7.mo, hK7.to, hK7.tc⟩⟩, rfl⟩)
    ·simp at hb51
 ·skip
  subst hfp
  obtain ⟨rfl, rfl⟩ := zDK hrun hfc
  obtain ⟨⟨oK_b9, cK_b9, oA_b9, cA_b9⟩, rfl, ⟨hik_b9, hin_b9⟩, hkk_b9, haa_b9⟩ := hcb9.open_
  dsimp only at hkk_b9 haa_b9
  have hbg_b9 := hkk_b9.big; have hcp_b9 := hkk_b9.cap; have hbh_b9 := haa_b9.big; have hcq_b9 := haa_b9.cap
  refine rp0 hst1 hfr1 (.cons rfl (zA (off := 5) rfl underlying72 rfl rfl sizeOf69 rfl) <| .cons rfl (zJ rfl hc4 isAgg69 rfl) <| .cons rfl (zBU rfl underlying69) <| .cons rfl (zD rfl) <| .nil) fun a2 w2 m2 hst2 hle2 hk2 => ?_
  have hfr2 := hk2.fr (.o 0 <| .o 4 <| .o 5 <| .n 13 <| .nil)
  clear hst1 hfr1 hk2
  refine hK5 _ _ ?_
  refine zE hfr2 rfl rfl (fun hb13 => ?_) (fun hb13 => ?_)
  ·try simp only [nqs] at hb13
   refine zB fun _ hK35 => ?_
   replace hc4 := hc4.mono hle2
   replace hce9 := hce9.mono hle2
   refine rp0 hst2 hfr2 (.cons rfl (zA (off := 5) rfl underlying72 rfl rfl sizeOf69 rfl) <| .cons rfl (zJ rfl hc4 isAgg69 rfl) <| .cons rfl (zL rfl) <| .cons rfl (zA (off := 8) rfl underlying110 rfl rfl sizeOf67 rfl) <| .cons rfl (zJ rfl hce9 isAgg67 rfl) <| .cons rfl (zD rfl) <| .nil) fun a3 w3 m3 hst3 hle3 hk3 => ?_
   have hfr3 := hk3.fr (.o 0 <| .o 4 <| .o 5 <| .n 7 <| .nil)
   clear hst2 hfr2 hk3
   refine hK35 _ _ ?_
   refine zB fun _ hK36 => ?_
   refine zB fun _ hK37 => ?_
   replace hc4 := hc4.mono hle3
   replace hce9 := hce9.mono hle3
   refine rp0 hst3 hfr3 (.cons rfl (zA (off := 5) rfl underlying72 rfl rfl sizeOf69 rfl) <| .cons rfl (zJ rfl hc4 isAgg69 rfl) <| .cons rfl (zL rfl) <| .cons rfl (zA (off := 0) rfl underlying110 rfl rfl sizeOf9 rfl) <| .cons rfl (zJ rfl hce9 isAgg9 rfl) <| .cons rfl (ob_sneq rfl rfl) <| .nil) fun a4 w4 m4 hst4 hle4 hk4 => ?_
   have hfr4 := hk4.fr (.o 0 <| .o 4 <| .o 5 <| .o 7 <| .n 27 <| .nil)
   clear hst3 hfr3 hk4
   refine hK37 _ _ ?_
   refine zE hfr4 rfl rfl (fun hb27 => ?_) (fun hb27 => ?_)
   ·try simp only [nqs] at hb27
    have hif : (if s9 = [] then e9 else Env.cons s9 f e9) = .cons s9 f e9 := if_neg (by simpa using hb27)
    have zq40 := hle3.trans hle4
    have zq41 := hle2.trans zq40
    replace h_f := h_f.mono zq41
    replace hee9 := hee9.mono zq41
    replace hc4 := hc4.mono hle4
    replace hce9 := hce9.mono hle4
    refine zc (tch := []) (fun _ => zw) hst4 hfr4 (by kernel_rfl) (by kernel_rfl) (by kernel_rfl) (.cons rfl (zC rfl) <| .cons rfl (zA (off := 5) rfl underlying72 rfl rfl sizeOf69 rfl) <| .cons rfl (zJ rfl hc4 isAgg69 rfl) <| .cons rfl (zL rfl) <| .cons rfl (zA (off := 0) rfl underlying110 rfl rfl sizeOf9 rfl) <| .cons rfl (zJ rfl hce9 isAgg9 rfl) <| .cons rfl (zY rfl hc4 isAgg72 sizeOf72 rfl rfl) <| .cons rfl (zm (φ := MP.env (.cons s9 f e9)) rfl (.cons rfl <| .cons rfl <| .cons rfl <| .nil) call46 (fun w m hK => by have hle_ := KC.le hK; have hA := KC.agree hK; have h_f := h_f.mono hle_; have hee9 := hee9.mono hle_; exact FnG.mono (zBY (s := s9) hA hee9 h_f) fun _ _ _ _ h => h)) <| .consA 35 rfl rfl <| .nil) fun a5 w5 m5 hst5 hle5 hk5 => ?_
    have hfr5 := hk5.fr (.o 0 <| .o 4 <| .o 5 <| .nil)
    obtain ⟨pe8, e38, hee8⟩ := hk5.ex 35 rfl
    replace hfr5 := hfr5.cons (hk5.same 7 rfl e38)
    clear hst4 hfr4 hk5
    refine hK36 _ _ ?_
    refine zB fun _ hK39 => ?_
    have zq42 := zq41.trans hle5
    replace hS := hS.mono zq42
    replace hvk_f := hvk_f.mono zq42
    replace hcl_f := hcl_f.mono zq42
    replace hfm_f := hfm_f.mono zq42
    replace h_v := h_v.mono zq42
    replace hvk_v := hvk_v.mono zq42
    replace hcl_v := hcl_v.mono zq42
    replace hfm_v := hfm_v.mono zq42
    replace hc5 := hc5.mono zq42
    replace hcb9 := hcb9.mono zq42
    replace hkk_b9 := hkk_b9.mono zq42
    replace haa_b9 := haa_b9.mono zq42
    replace hM := hM.trans zq42
    replace h_f := h_f.mono hle5
    replace hc4 := hc4.mono hle5
    replace hce9 := hce9.mono hle5
    replace hee9 := hee9.mono hle5
    refine zc (tch := [(14, 0, (fun _ => MK g (s.goes b9 (.cons q9 v (.cons s9 f e9))) y0))]) (fun _ => zw) hst5 hfr5 (by kernel_rfl) (by kernel_rfl) (by kernel_rfl) (.cons rfl (zC rfl) <| .cons rfl (zA (off := 5) rfl underlying72 rfl rfl sizeOf69 rfl) <| .cons rfl (zJ rfl hc4 isAgg69 rfl) <| .cons rfl (zL rfl) <| .cons rfl (zA (off := 2) rfl underlying110 rfl rfl sizeOf25 rfl) <| .cons rfl (Zk rfl hce9 isAgg25 sizeOf25 rfl rfl) <| .cons rfl (zC rfl) <| .cons rfl (zA (off := 5) rfl underlying72 rfl rfl sizeOf69 rfl) <| .cons rfl (zJ rfl hc4 isAgg69 rfl) <| .cons rfl (zL rfl) <| .cons rfl (zA (off := 1) rfl underlying110 rfl rfl sizeOf9 rfl) <| .cons rfl (zJ rfl hce9 isAgg9 rfl) <| .cons rfl (zY rfl hc5 isAgg72 sizeOf72 rfl rfl) <| .cons rfl (zm (φ := MP.env (.cons q9 v (.cons s9 f e9))) rfl (.cons rfl <| .cons rfl <| .cons rfl <| .nil) call46 (fun w m hK => by have hle_ := KC.le hK; have hA := KC.agree hK; have h_v := h_v.mono hle_; have hee8 := hee8.mono hle_; exact FnG.mono (zBY (s := q9) hA hee8 h_v) fun _ _ _ _ h => h)) <| .consT rfl rfl (fun _ => rfl) rfl (zb 49 rfl rfl rfl fun y49 => zj rfl (.cons rfl <| .cons rfl <| .cons rfl <| .nil) call31 (κ := .eq (.bool true)) (fun σ w m hK hr hkn => by have hle_ := KC.le hK; have hA := KC.agree hK; have hM := hM.trans hle_; have hr0_ := hK.2; have hS := hS.mono hle_; have h_f := h_f.mono hle_; have hvk_f := hvk_f.mono hle_; have hcl_f := hcl_f.mono hle_; have hfm_f := hfm_f.mono hle_; have h_v := h_v.mono hle_; have hvk_v := hvk_v.mono hle_; have hcl_v := hcl_v.mono hle_; have hfm_v := hfm_v.mono hle_; have hc4 := hc4.mono hle_; have hc5 := hc5.mono hle_; have hce9 := hce9.mono hle_; have hcb9 := hcb9.mono hle_; have hee9 := hee9.mono hle_; have hkk_b9 := hkk_b9.mono hle_; have haa_b9 := haa_b9.mono hle_; have hee8 := hee8.mono hle_; exact Zy (s := s) (zAQ (s := s) (y := y0) hA hr hS hcb9 hr0_))) <| .cons rfl (zD rfl) <| .nil) fun a6 w6 m6 hst6 hle6 hk6 => ?_
    have hfr6 := hk6.fr (.n 6 <| .nil)
    replace hst6 := hst6.fin (L' := [_]) (.cons rfl <| .nil)
    clear hst5 hfr5 hk6
    obtain ⟨y9, hst6, hS3, hK3⟩ := zp (k := 0) hst6 rfl
    simp only [List.set_cons_zero] at hst6
    refine hK39 _ _ ?_
    refine zN ?_
    repeat (with_reducible first | refine zH ?_ | refine zG ?_)
    exact zO hst6 hfr6 rfl (.tmp rfl <| .nil) (by rw [hif]; exact ⟨⟨y9, (hst6.take 1).loc, hS3, ⟨hK3.co, hK3.cc, hK3.mo, hK3.to, hK3.tc⟩⟩, rfl⟩)
   ·try simp only [nqs] at hb27
    have hif : (if s9 = [] then e9 else Env.cons s9 f e9) = e9 := if_pos (by simpa using hb27)
    refine zR ?_
    refine hK36 _ _ ?_
    refine zB fun _ hK41 => ?_
    have zq43 := hle3.trans hle4
    have zq44 := hle2.trans zq43
    replace hS := hS.mono zq44
    replace h_f := h_f.mono zq44
    replace hvk_f := hvk_f.mono zq44
    replace hcl_f := hcl_f.mono zq44
    replace hfm_f := hfm_f.mono zq44
    replace h_v := h_v.mono zq44
    replace hvk_v := hvk_v.mono zq44
    replace hcl_v := hcl_v.mono zq44
    replace hfm_v := hfm_v.mono zq44
    replace hc5 := hc5.mono zq44
    replace hcb9 := hcb9.mono zq44
    replace hee9 := hee9.mono zq44
    replace hkk_b9 := hkk_b9.mono zq44
    replace haa_b9 := haa_b9.mono zq44
    replace hM := hM.trans zq44
    replace hc4 := hc4.mono hle4
    replace hce9 := hce9.mono hle4
    refine zc (tch := [(14, 0, (fun _ => MK g (s.goes b9 (.cons q9 v e9)) y0))]) (fun _ => zw) hst4 hfr4 (by kernel_rfl) (by kernel_rfl) (by kernel_rfl) (.cons rfl (zC rfl) <| .cons rfl (zA (off := 5) rfl underlying72 rfl rfl sizeOf69 rfl) <| .cons rfl (zJ rfl hc4 isAgg69 rfl) <| .cons rfl (zL rfl) <| .cons rfl (zA (off := 2) rfl underlying110 rfl rfl sizeOf25 rfl) <| .cons rfl (Zk rfl hce9 isAgg25 sizeOf25 rfl rfl) <| .cons rfl (zC rfl) <| .cons rfl (zA (off := 5) rfl underlying72 rfl rfl sizeOf69 rfl) <| .cons rfl (zJ rfl hc4 isAgg69 rfl) <| .cons rfl (zL rfl) <| .cons rfl (zA (off := 1) rfl underlying110 rfl rfl sizeOf9 rfl) <| .cons rfl (zJ rfl hce9 isAgg9 rfl) <| .cons rfl (zY rfl hc5 isAgg72 sizeOf72 rfl rfl) <| .cons rfl (zm (φ := MP.env (.cons q9 v e9)) rfl (.cons rfl <| .cons rfl <| .cons rfl <| .nil) call46 (fun w m hK => by have hle_ := KC.le hK; have hA := KC.agree hK; have h_v := h_v.mono hle_; have hee9 := hee9.mono hle_; exact FnG.mono (zBY (s := q9) hA hee9 h_v) fun _ _ _ _ h => h)) <| .consT rfl rfl (fun _ => rfl) rfl (zb 49 rfl rfl rfl fun y49 => zj rfl (.cons rfl <| .cons rfl <| .cons rfl <| .nil) call31 (κ := .eq (.bool true)) (fun σ w m hK hr hkn => by have hle_ := KC.le hK; have hA := KC.agree hK; have hM := hM.trans hle_; have hr0_ := hK.2; have hS := hS.mono hle_; have h_f := h_f.mono hle_; have hvk_f := hvk_f.mono hle_; have hcl_f := hcl_f.mono hle_; have hfm_f := hfm_f.mono hle_; have h_v := h_v.mono hle_; have hvk_v := hvk_v.mono hle_; have hcl_v := hcl_v.mono hle_; have hfm_v := hfm_v.mono hle_; have hc4 := hc4.mono hle_; have hc5 := hc5.mono hle_; have hce9 := hce9.mono hle_; have hcb9 := hcb9.mono hle_; have hee9 := hee9.mono hle_; have hkk_b9 := hkk_b9.mono hle_; have haa_b9 := haa_b9.mono hle_; exact Zy (s := s) (zAQ (s := s) (y := y0) hA hr hS hcb9 hr0_))) <| .cons rfl (zD rfl) <| .nil) fun a5 w5 m5 hst5 hle5 hk5 => ?_
    have hfr5 := hk5.fr (.n 6 <| .nil)
    replace hst5 := hst5.fin (L' := [_]) (.cons rfl <| .nil)
    clear hst4 hfr4 hk5
    obtain ⟨y9, hst5, hS3, hK3⟩ := zp (k := 0) hst5 rfl
    simp only [List.set_cons_zero] at hst5
    refine hK41 _ _ ?_
    refine zN ?_
    repeat (with_reducible first | refine zH ?_ | refine zG ?_)
    exact zO hst5 hfr5 rfl (.tmp rfl <| .nil) (by rw [hif]; exact ⟨⟨y9, (hst5.take 1).loc, hS3, ⟨hK3.co, hK3.cc, hK3.mo, hK3.to, hK3.tc⟩⟩, rfl⟩)
  ·simp at hb13
end Go.Proofs.Ytnppknioifgdfaa
namespace Go.Proofs.Ytnppknioifgdfaa
open Go.Proofs.Try
set_option linter.all false
set_option maxRecDepth 4000
open Go.RowKit
def zEQ (p : Ca → Bool) : List Ca → Int → Int
 | [], _ => -1
 | a :: l, k => if p a then k else zEQ p l (k + 1)
theorem zDX (p : Ca → Bool) : ∀ (l : List Ca) (k : Int), 0 ≤ k → (zEQ p l k = -1 ∧ l.find? p = none) ∨ ∃ (j : Nat) (a : Ca), zEQ p l k = k + (j : Int) ∧ l[j]? = some a ∧ l.find? p = some a ∧ p a = true
 | [], k, _ => .inl ⟨rfl, rfl⟩
 | a :: l, k, h => by
  cases hp : p a with
  | true => exact .inr ⟨0, a, by rw [zEQ, if_pos hp]; simp, rfl, by rw [List.find?_cons_of_pos hp], hp⟩
  | false =>
   rw [zEQ, if_neg (by rw [hp]; decide), List.find?_cons_of_neg (by rw [hp]; decide)]
   rcases zDX p l (k + 1) (by omega) with h1 | ⟨j, b, e1, e2, e3, e4⟩
   ·exact .inl h1
   ·exact .inr ⟨j + 1, b, by rw [e1]; push_cast; omega, by simpa using e2, e3, e4⟩
theorem zCx {s s2 : Mc} {v : Vl} {l : List Ca} {b : Bool} (h : zAa s v l = some (s2, b)) (hf : l.find? (Zo v) = none) : s2 = s ∧ b = false := by
 unfold zAa at h; rw [hf] at h; injection h with h; injection h with h1 h2; exact ⟨h1.symm, h2.symm⟩
theorem zDJ {s s2 : Mc} {v : Vl} {l : List Ca} {a : Ca} {b : Bool} (h : zAa s v l = some (s2, b)) (hf : l.find? (Zo v) = some a) : s2 = s.goes a.body (bindAll a.vars v.kids s.e) ∧ b = true := by
 unfold zAa at h; rw [hf] at h; injection h with h; injection h with h1 h2; exact ⟨h1.symm, h2.symm⟩
theorem fits_len {v : Vl} {a : Ca} (h : Zo v a = true) : a.vars.length = v.kids.length := by
 unfold Zo at h; simp only [Bool.and_eq_true, decide_eq_true_eq] at h; omega
theorem bindAll_nil (vs : List Vl) (e : Env) : bindAll [] vs e = e := by cases vs <;> rfl
set_option maxHeartbeats 400000 in
theorem zEu {w : World} {m : Mem} {o_l : Option Addr} {c_l : Nat} {l : List Ca} {cid : Nat} {cap : List Value} {φ : Ca → Bool} (hA : Agree w m) (h_l : Cas m o_l l.length c_l l) (hc : ∀ args w, (callFunc cid args).run Try.prog w = .ok (.enter cid args) w) (hφ : ∀ w m' (t : Ca) vs, MLe m m' → Agree w m' → CaR m' t vs → t ∈ l → FnV Try.prog cid ([Value.agg vs.toArray] ++ cap).toArray w m' (fun _ _ v => v = .bool (φ t))) : FnV Try.prog 66 #[.slice o_l l.length c_l, .func (.func cid) #[] cap.toArray] w m (fun _ _ v => v = .int .i64 (zEQ φ l 0)) := by
 have hb_l := h_l.big; have hc_l := h_l.cap
 refine zZ (vs := [_, _]) func66 rfl rfl rfl fun a0 hfr0 => ?_
 have hst0 := zW hA (zg [] _ w m)
 have hM : MLe m m := MLe.refl m
 refine zB fun _ hK1 => ?_
 refine rp0 hst0 hfr0 (.cons rfl (zD rfl) <| .nil) fun a1 w1 m1 hst1 hle1 hk1 => ?_
 have hfr1 := hk1.fr (.o 0 <| .o 1 <| .nil)
 replace h_l := h_l.mono hle1
 replace hM := hM.trans hle1
 clear hst0 hfr0 hk1
 refine hK1 _ _ ?_
 refine zB fun _ hK2 => ?_
 refine zB fun _ hK3 => ?_
 refine rp0 hst1 hfr1 (.cons rfl (zC rfl) <| .cons rfl (zl rfl underlying23) <| .cons rfl (zC rfl) <| .nil) fun a2 w2 m2 hst2 hle2 hk2 => ?_
 have hfr2 := hk2.fr (.o 0 <| .o 1 <| .n 7 <| .n 8 <| .nil)
 replace h_l := h_l.mono hle2
 replace hM := hM.trans hle2
 clear hst1 hfr1 hk2
 refine hK3 _ _ ?_
 refine zT ?_
 refine zx (T := [(0, _), (1, _), (7, _)]) (fun (y : Nat) => ([(8, .int .i64 (y : Int))] : List (Nat × Value))) (fun _ => _) (fun (y : Nat) m => (y ≤ l.length) ∧ (zEQ φ l 0 = zEQ φ (l.drop y) (y : Int))) (fun y => l.length - y) (0) ⟨hst2, MLe.refl _, hfr2.sub (.c <| .c <| .c <| .c <| .nil), ⟨Nat.zero_le _, rfl⟩⟩ fun y a3 w3 m3 hh3 => ?_
 have hst3 := hh3.st; have hle3 := hh3.le; have hfr3 := hh3.fr; have hrel := hh3.rel; clear hh3
 replace h_l := h_l.mono hle3
 clear hst2 hfr2
 replace hM := hM.trans hle3
 obtain ⟨hyn, hrem⟩ := hrel
 have hlh3 := hle3
 refine zB fun _ hK5 => ?_
 refine rp0 hst3 hfr3 (.cons rfl (ZA rfl rfl) <| .nil) fun a4 w4 m4 hst4 hle4 hk4 => ?_
 have hfr4 := hk4.fr (.o 8 <| .o 0 <| .o 1 <| .o 7 <| .n 9 <| .nil)
 replace h_l := h_l.mono hle4
 have hlh4 := hlh3.trans hle4
 replace hM := hM.trans hle4
 clear hst3 hfr3 hk4
 refine hK5 _ _ ?_
 refine zB fun _ hK6 => ?_
 refine zE hfr4 rfl rfl (fun hb9 => ?_) (fun hb9 => ?_)
 ·try simp only [nqs] at hb9
  refine zR ?_
  refine hK6 _ _ ?_
  refine zB fun _ hK7 => ?_
  refine zT ?_
  refine zB fun _ hK8 => ?_
  refine rp0 hst4 hfr4 (.cons rfl (zC rfl) <| .cons rfl (zD rfl) <| .nil) fun a5 w5 m5 hst5 hle5 hk5 => ?_
  have hfr5 := hk5.fr (.o 8 <| .o 0 <| .o 1 <| .o 7 <| .n 5 <| .nil)
  clear hst4 hfr4 hk5
  refine hK8 _ _ ?_
  refine zB fun _ hK9 => ?_
  replace h_l := h_l.mono hle5
  obtain ⟨p10, vs10, x10, ho10, hd10, hm_x10, ht10, hcv10, hl10, hv10⟩ := h_l.nth (k := y) (by omega)
  cases ho10
  obtain ⟨oV10, cV10, bs10, rfl, hva10, hbd10⟩ := hv10.open_
  have hbv10 := hva10.big; have hcv10_ := hva10.cap
  obtain ⟨⟨oK10b, cK10b, oA10b, cA10b⟩, rfl, ⟨hik10b, hin10b⟩, hkk10b, haa10b⟩ := hbd10.open_
  dsimp only at hkk10b haa10b
  have hbg10b := hkk10b.big; have hcp10b := hkk10b.cap; have hbh10b := haa10b.big; have hcq10b := haa10b.cap
  try rw [hd10] at hrem
  try simp only [zEQ] at hrem
  replace hM := hM.trans hle5
  refine rp0 hst5 hfr5 (.cons rfl (zC rfl) <| .cons rfl (zC rfl) <| .cons rfl (zC rfl) <| .cons rfl (zI (k := y) rfl rfl underlying23 sizeOf47 rfl (by omega)) <| .cons rfl (zY rfl hcv10 isAgg47 sizeOf47 rfl rfl) <| .cons rfl (zX rfl (.cons rfl <| .nil) hc (fun w m hK => by have hle_ := KC.le hK; have hA := KC.agree hK; have hM := hM.trans hle_; have h_l := h_l.mono hle_; have hcv10 := hcv10.mono hle_; have hv10 := hv10.mono hle_; have hva10 := hva10.mono hle_; have hbd10 := hbd10.mono hle_; have hkk10b := hkk10b.mono hle_; have haa10b := haa10b.mono hle_; exact hφ w m _ _ hM hA (by assumption) hm_x10)) <| .nil) fun a6 w6 m6 hst6 hle6 hk6 => ?_
  have hfr6 := hk6.fr (.o 8 <| .o 0 <| .o 1 <| .o 7 <| .o 5 <| .n 16 <| .nil)
  clear hst5 hfr5 hk6
  refine hK9 _ _ ?_
  refine zE hfr6 rfl rfl (fun hb16 => ?_) (fun hb16 => ?_)
  ·try simp only [nqs] at hb16
   have hres : zEQ φ l 0 = (y : Int) := by rw [hrem, hb16]; simp
   refine zB fun _ hK11 => ?_
   refine rp0 hst6 hfr6 (.cons rfl (zC rfl) <| .cons rfl (zD rfl) <| .nil) fun a7 w7 m7 hst7 hle7 hk7 => ?_
   have hfr7 := hk7.fr (.o 8 <| .n 4 <| .nil)
   clear hst6 hfr6 hk7
   refine hK11 _ _ ?_
   refine zN ?_
   repeat (with_reducible first | refine zH ?_ | refine zG ?_)
   exact zO hst7 hfr7 rfl (.tmp rfl <| .nil) (by first | (rw [hres]; done) | (rw [hres]; rfl) | (rw [hrem]; rfl))
  ·try simp only [nqs] at hb16
   refine zR ?_
   refine hK7 _ _ ?_
   refine rp0 hst6 hfr6 (.cons rfl (z6 rfl rfl ⟨by omega, by omega⟩) <| .cons rfl (zC rfl) <| .nil) fun a7 w7 m7 hst7 hle7 hk7 => ?_
   have hfr7 := hk7.fr (.o 0 <| .o 1 <| .o 7 <| .n 8 <| .nil)
   clear hst6 hfr6 hk7
   have zq1 := hle6.trans hle7
   have zq2 := hle5.trans zq1
   have hlh7 := hlh4.trans zq2
   exact ⟨y + 1, m7, by show l.length - (y + 1) < l.length - y; omega, ⟨hst7, hlh7, hfr7.sub (.c <| .c <| .c <| .c <| .nil), ⟨by show y + 1 ≤ l.length; omega, by rw [hrem, hb16]; simp⟩⟩⟩
 ·try simp only [nqs] at hb9
  have hge : y = l.length := by omega
  rw [List.drop_of_length_le (by omega)] at hrem
  simp only [zEQ] at hrem
  refine zv ?_
  refine hK2 _ _ ?_
  refine zB fun _ hK13 => ?_
  refine rp0 hst4 hfr4 (.cons rfl (zD rfl) <| .nil) fun a5 w5 m5 hst5 hle5 hk5 => ?_
  have hfr5 := hk5.fr (.o 8 <| .n 4 <| .nil)
  clear hst4 hfr4 hk5
  refine hK13 _ _ ?_
  refine zN ?_
  repeat (with_reducible first | refine zH ?_ | refine zG ?_)
  exact zO hst5 hfr5 rfl (.tmp rfl <| .nil) (by first | (rw [hres]; done) | (rw [hres]; rfl) | (rw [hrem]; rfl))
set_option maxHeartbeats 400000 in
theorem mfit_c {w : World} {m : Mem} {a : Ca} {vs_a : List Value} {z : Addr} {v : Vl} {yv : VlY} (hA : Agree w m) (h_a : CaR m a vs_a) (hz : CellsAt m z (vlV v yv)) : FnV Try.prog 67 #[.agg vs_a.toArray, .pointer (some z)] w m (fun _ _ v9 => v9 = .bool (Zo v a)) := by
 obtain ⟨oV_a, cV_a, bs_a, rfl, hva_a, hbd_a⟩ := h_a.open_
 have hbv_a := hva_a.big; have hcv_a_ := hva_a.cap
 obtain ⟨⟨oK_ab, cK_ab, oA_ab, cA_ab⟩, rfl, ⟨hik_ab, hin_ab⟩, hkk_ab, haa_ab⟩ := hbd_a.open_
 dsimp only at hkk_ab haa_ab
 have hbg_ab := hkk_ab.big; have hcp_ab := hkk_ab.cap; have hbh_ab := haa_ab.big; have hcq_ab := haa_ab.cap
 refine zZ (vs := [_, _]) func67 rfl rfl rfl fun a0 hfr0 => ?_
 have hst0 := zW hA (zg [] _ w m)
 have hM : MLe m m := MLe.refl m
 refine zB fun _ hK1 => ?_
 refine rp0 hst0 hfr0 (.cons rfl (zr rfl rfl) <| .cons rfl (zD rfl) <| .nil) fun a1 w1 m1 hst1 hle1 hk1 => ?_
 have hfr1 := hk1.fr (.o 1 <| .nil)
 obtain ⟨g2, e2, hc2⟩ := hk1.ex 2 rfl
 replace hfr1 := hfr1.cons e2
 replace hz := hz.mono hle1
 clear hst0 hfr0 hk1
 refine hK1 _ _ ?_
 refine zB fun _ hK3 => ?_
 refine rp0 hst1 hfr1 (.cons rfl (zA (off := 0) rfl underlying72 rfl rfl sizeOf31 rfl) <| .cons rfl (zA (off := 0) rfl underlying31 rfl rfl sizeOf3 rfl) <| .cons rfl (zJ rfl (hz.drop 0) isAgg3 rfl) <| .cons rfl (zS rfl rfl) <| .cons rfl (zC rfl) <| .cons rfl (zA (off := 0) rfl underlying47 rfl rfl sizeOf9 rfl) <| .cons rfl (zJ rfl hc2 isAgg9 rfl) <| .cons rfl (zA (off := 0) rfl underlying72 rfl rfl sizeOf31 rfl) <| .cons rfl (zA (off := 2) rfl underlying31 rfl rfl sizeOf9 rfl) <| .cons rfl (zJ rfl (hz.drop 0) isAgg9 rfl) <| .cons rfl (zd rfl rfl) <| .cons rfl (zU rfl rfl rfl) <| .cons rfl (zC rfl) <| .cons rfl (zA (off := 1) rfl underlying47 rfl rfl sizeOf45 rfl) <| .cons rfl (zJ rfl hc2 isAgg45 rfl) <| .cons rfl (zl rfl underlying45) <| .cons rfl (zA (off := 4) rfl underlying72 rfl rfl sizeOf68 rfl) <| .cons rfl (zJ rfl hz isAgg68 rfl) <| .cons rfl (zl rfl underlying68) <| .cons rfl (zS rfl rfl) <| .cons rfl (zU rfl rfl rfl) <| .cons rfl (zD rfl) <| .nil) fun a2 w2 m2 hst2 hle2 hk2 => ?_
 have hfr2 := hk2.fr (.n 3 <| .nil)
 clear hst1 hfr1 hk2
 refine hK3 _ _ ?_
 refine zN ?_
 repeat (with_reducible first | refine zH ?_ | refine zG ?_)
 exact zO hst2 hfr2 rfl (.tmp rfl <| .nil) (rfl)
set_option maxHeartbeats 3200000 in
theorem match_g {w : World} {m : Mem} {g : Nat} {s : Mc} {y : McY} {v : Vl} {vs_v : List Value} {o_l : Option Addr} {c_l : Nat} {l : List Ca} {s2 : Mc} {b : Bool} (hA : Agree w m) (hr : (MB g s y).holds w m) (hS : McR m s y) (h_v : VlR m v vs_v) (h_l : Cas m o_l l.length c_l l) (hrun : zAa s v l = some (s2, b)) : FnG Try.prog 53 #[.pointer (some ⟨g, 0, none⟩), .agg vs_v.toArray, .slice o_l l.length c_l] [g] w m (fun w' m' v => zBs g w.heap.size (s2) y w' m' ∧ v = .bool b) := by
 obtain ⟨⟨oa_v, ca_v, pf_v, ob_v, cb_v⟩, rfl, ⟨hi_v, hj_v⟩, hvk_v, hcl_v, hfm_v, hnl_v⟩ := h_v.open_
 have hbk_v := hvk_v.big; have hbf_v := hfm_v.big
 have hb_l := h_l.big; have hc_l := h_l.cap
 refine zZ (vs := [_, _, _]) func53 rfl rfl rfl fun a0 hfr0 => ?_
 have hst0 := zW hA (zAN hr (by simp [Res.blocks, zn]))
 have hM : MLe m m := MLe.refl m
 refine zB fun _ hK1 => ?_
 refine rp0 hst0 hfr0 (.cons rfl (zr rfl rfl) <| .cons rfl (zD rfl) <| .nil) fun a1 w1 m1 hst1 hle1 hk1 => ?_
 have hfr1 := hk1.fr (.o 0 <| .o 2 <| .nil)
 obtain ⟨g2, e2, hc4⟩ := hk1.ex 4 rfl
 replace hfr1 := hfr1.cons e2
 replace hS := hS.mono hle1
 replace h_v := h_v.mono hle1
 replace hvk_v := hvk_v.mono hle1
 replace hcl_v := hcl_v.mono hle1
 replace hfm_v := hfm_v.mono hle1
 replace h_l := h_l.mono hle1
 replace hM := hM.trans hle1
 clear hst0 hfr0 hk1
 refine hK1 _ _ ?_
 refine zB fun _ hK3 => ?_
 refine rp0 hst1 hfr1 (.cons rfl (zC rfl) <| .cons rfl (ZN (.cons rfl <| .nil)) <| .cons rfl (zX rfl (.cons rfl <| .cons rfl <| .nil) call66 (fun w m hK => by have hle_ := KC.le hK; have hA := KC.agree hK; have h_l := h_l.mono hle_; have hc4 := hc4.mono hle_; exact zEu (φ := (Zo v)) (cap := [.pointer (some _)]) hA h_l call67 (fun w m2 a vs hm ha hv hu => mfit_c ha hv (hc4.mono hm)))) <| .cons rfl (zD rfl) <| .nil) fun a2 w2 m2 hst2 hle2 hk2 => ?_
 have hfr2 := hk2.fr (.o 0 <| .o 2 <| .o 4 <| .n 7 <| .nil)
 replace hS := hS.mono hle2
 replace h_v := h_v.mono hle2
 replace hvk_v := hvk_v.mono hle2
 replace hcl_v := hcl_v.mono hle2
 replace hfm_v := hfm_v.mono hle2
 replace h_l := h_l.mono hle2
 replace hc4 := hc4.mono hle2
 replace hM := hM.trans hle2
 clear hst1 hfr1 hk2
 refine hK3 _ _ ?_
 refine zB fun _ hK4 => ?_
 refine zB fun _ hK5 => ?_
 have hif := zDX (Zo v) l 0 (Int.le_refl 0)
 refine rp0 hst2 hfr2 (.cons rfl (zC rfl) <| .cons rfl (ZA rfl rfl) <| .nil) fun a3 w3 m3 hst3 hle3 hk3 => ?_
 have hfr3 := hk3.fr (.o 0 <| .o 2 <| .o 4 <| .o 7 <| .n 15 <| .nil)
 replace hS := hS.mono hle3
 replace h_v := h_v.mono hle3
 replace hvk_v := hvk_v.mono hle3
 replace hcl_v := hcl_v.mono hle3
 replace hfm_v := hfm_v.mono hle3
 replace h_l := h_l.mono hle3
 replace hc4 := hc4.mono hle3
 replace hM := hM.trans hle3
 clear hst2 hfr2 hk3
 refine hK5 _ _ ?_
 refine zE hfr3 rfl rfl (fun hb15 => ?_) (fun hb15 => ?_)
 ·try simp only [nqs] at hb15
  obtain ⟨rfl, rfl⟩ := zCx hrun (by rcases hif with h9 | ⟨j, a, e1, _⟩; exact h9.2; rw [e1] at hb15; omega)
  refine zB fun _ hK6 => ?_
  refine rp0 hst3 hfr3 (.cons rfl (zD rfl) <| .nil) fun a4 w4 m4 hst4 hle4 hk4 => ?_
  have hfr4 := hk4.fr (.n 6 <| .nil)
  clear hst3 hfr3 hk4
  refine hK6 _ _ ?_
  refine zN ?_
  repeat (with_reducible first | refine zH ?_ | refine zG ?_)
  replace hS := hS.mono hle4
  exact zO hst4 hfr4 rfl (.tmp rfl <| .nil) (⟨⟨y, (hst4.take 1).loc, hS, McK.refl y⟩, rfl⟩)
 ·try simp only [nqs] at hb15
  obtain ⟨j9, a9, hj9, ha9, hfi9, hpa9⟩ := hif.resolve_left (fun h => by rw [h.1] at hb15; omega)
  rw [Int.zero_add] at hj9
  obtain ⟨rfl, rfl⟩ := zDJ hrun hfi9
  have hfl9 := fits_len hpa9
  rw [hj9] at hfr3
  have hjl9 : j9 < l.length := (List.getElem?_eq_some_iff.1 ha9).1
  refine zR ?_
  refine hK4 _ _ ?_
  refine zB fun _ hK8 => ?_
  refine rp0 hst3 hfr3 (.cons rfl (zC rfl) <| .cons rfl (zL rfl) <| .cons rfl (zA (off := 0) rfl underlying79 rfl rfl sizeOf77 rfl) <| .cons rfl (zA (off := 6) rfl underlying77 rfl rfl sizeOf67 rfl) <| .cons rfl (zK (k := 6) (j := 0) rfl rfl isAgg67 rfl) <| .cons rfl (zD rfl) <| .nil) fun a4 w4 m4 hst4 hle4 hk4 => ?_
  have hfr4 := hk4.fr (.o 0 <| .o 2 <| .o 4 <| .o 7 <| .n 8 <| .nil)
  clear hst3 hfr3 hk4
  refine hK8 _ _ ?_
  refine zB fun _ hK9 => ?_
  refine zB fun _ hK10 => ?_
  replace h_l := h_l.mono hle4
  obtain ⟨p11, vs11, x11, ho11, hd11, hm_x11, ht11, hcv11, hl11, hv11⟩ := h_l.nth (k := j9) (by omega)
  cases ho11
  obtain ⟨oV11, cV11, bs11, rfl, hva11, hbd11⟩ := hv11.open_
  have hbv11 := hva11.big; have hcv11_ := hva11.cap
  obtain ⟨⟨oK11b, cK11b, oA11b, cA11b⟩, rfl, ⟨hik11b, hin11b⟩, hkk11b, haa11b⟩ := hbd11.open_
  dsimp only at hkk11b haa11b
  have hbg11b := hkk11b.big; have hcp11b := hkk11b.cap; have hbh11b := haa11b.big; have hcq11b := haa11b.cap
  obtain rfl : x11 = a9 := by have h9 := ht11; have h8 := hm_x11; rw [List.getElem?_eq_some_iff] at ha9; obtain ⟨h7, h6⟩ := ha9; rw [← h6]; exact (List.drop_eq_getElem_cons h7 ▸ hd11 : l[j9] :: _ = _ :: _) |> fun e => by injection e with e1; exact e1.symm
  refine rp0 hst4 hfr4 (.cons rfl (zC rfl) <| .cons rfl (zC rfl) <| .cons rfl (zI (k := j9) rfl rfl underlying23 sizeOf47 rfl (by omega)) <| .cons rfl (zA (off := 1) rfl underlying47 rfl rfl sizeOf45 rfl) <| .cons rfl (zJ rfl hcv11 isAgg45 rfl) <| .cons rfl (zl rfl underlying45) <| .cons rfl (zC rfl) <| .nil) fun a5 w5 m5 hst5 hle5 hk5 => ?_
  have hfr5 := hk5.fr (.o 0 <| .o 2 <| .o 4 <| .o 7 <| .o 8 <| .n 25 <| .n 26 <| .n 27 <| .nil)
  clear hst4 hfr4 hk5
  refine hK10 _ _ ?_
  refine zT ?_
  obtain ⟨n9, hn9⟩ : ∃ n, x11.vars.length = n := ⟨_, rfl⟩
  have zq1 := hle4.trans hle5
  replace hS := hS.mono zq1
  refine zx (T := [(0, _), (2, _), (4, _), (7, _), (25, _), (26, _)]) (fun (y : (Nat) × (Env) × (Option Addr)) => ([(8, .pointer y.2.2), (27, .int .i64 (y.1 : Int))] : List (Nat × Value))) (fun y => [_]) (fun (y : (Nat) × (Env) × (Option Addr)) m => (fun (k : Nat) (eq : Env) (pq : Option Addr) => (k ≤ x11.vars.length) ∧ (EnvR m eq pq) ∧ (bindAll x11.vars v.kids s.e = bindAll (x11.vars.drop k) (v.kids.drop k) eq)) y.1 y.2.1 y.2.2) (fun y => n9 - y.1) ((0, s.e, y.pe)) ⟨hst5, MLe.refl _, hfr5.sub (.c <| .c <| .c <| .c <| .c <| .c <| .c <| .c <| .nil), ⟨Nat.zero_le _, hS.e, by rw [List.drop_zero, List.drop_zero]⟩⟩ fun y a6 w6 m6 hh6 => ?_
  have hst6 := hh6.st; have hle6 := hh6.le; have hfr6 := hh6.fr; have hrel := hh6.rel; clear hh6
  clear hst5 hfr5
  obtain ⟨k, eq, pq⟩ := y
  dsimp only at hrel hfr6 hst6
  obtain ⟨hkn, heq, hbq⟩ := hrel
  have hlh6 := hle6
  refine zB fun _ hK13 => ?_
  refine rp0 hst6 hfr6 (.cons rfl (ZA rfl rfl) <| .nil) fun a7 w7 m7 hst7 hle7 hk7 => ?_
  have hfr7 := hk7.fr (.o 8 <| .o 27 <| .o 0 <| .o 2 <| .o 4 <| .o 7 <| .o 25 <| .o 26 <| .n 28 <| .nil)
  clear hst6 hfr6 hk7
  refine hK13 _ _ ?_
  refine zB fun _ hK14 => ?_
  refine zE hfr7 rfl rfl (fun hb28 => ?_) (fun hb28 => ?_)
  ·try simp only [nqs] at hb28
   refine zR ?_
   refine hK14 _ _ ?_
   refine zB fun _ hK15 => ?_
   refine zT ?_
   refine zB fun _ hK16 => ?_
   have zq2 := hle6.trans hle7
   have zq3 := hle5.trans zq2
   replace hva11 := hva11.mono zq3
   obtain ⟨p17, vs17, x17, ho17, hd17, hm_x17, ht17, hcv17, hl17, hv17⟩ := hva11.nth (k := k) (by omega)
   cases ho17
   subst hv17
   refine rp0 hst7 hfr7 (.cons rfl (zC rfl) <| .cons rfl (zI (k := k) rfl rfl underlying45 sizeOf9 rfl (by omega)) <| .cons rfl (zk rfl hcv17 isAgg9 rfl) <| .cons rfl (zD rfl) <| .cons rfl (zD rfl) <| .nil) fun a8 w8 m8 hst8 hle8 hk8 => ?_
   have hfr8 := hk8.fr (.o 8 <| .o 27 <| .o 0 <| .o 2 <| .o 4 <| .o 7 <| .o 25 <| .o 26 <| .n 9 <| .n 10 <| .nil)
   clear hst7 hfr7 hk8
   refine hK16 _ _ ?_
   have zq4 := zq2.trans hle8
   have zq5 := zq1.trans zq4
   replace hvk_v := hvk_v.mono zq5
   obtain ⟨p18, vs18, x18, ho18, hd18, hm_x18, ht18, hcv18, hl18, hv18⟩ := hvk_v.nth (k := k) (by omega)
   cases ho18
   obtain ⟨⟨oa18, ca18, pf18, ob18, cb18⟩, rfl, ⟨hi18, hj18⟩, hvk18, hcl18, hfm18, hnl18⟩ := hv18.open_
   have hbk18 := hvk18.big; have hbf18 := hfm18.big
   replace hc4 := hc4.mono zq5
   have zq6 := hle7.trans hle8
   replace heq := heq.mono zq6
   refine ra0 (tch := []) hst8 hfr8 (.cons rfl (zC rfl) <| .cons rfl (zC rfl) <| .cons rfl (zA (off := 4) rfl underlying72 rfl rfl sizeOf68 rfl) <| .cons rfl (zJ rfl hc4 isAgg68 rfl) <| .cons rfl (zC rfl) <| .cons rfl (zI (k := k) rfl rfl underlying68 sizeOf72 rfl (by omega)) <| .cons rfl (zY rfl hcv18 isAgg72 sizeOf72 rfl rfl) <| .cons rfl (zm (φ := MP.env (.cons x17 x18 eq)) rfl (.cons rfl <| .cons rfl <| .cons rfl <| .nil) call46 (fun w m hK => by have hle_ := KC.le hK; have hA := KC.agree hK; have heq := heq.mono hle_; have hv18 := hv18.mono hle_; exact FnG.mono (zBY (s := x17) hA heq hv18) fun _ _ _ _ h => h)) <| .consA 39 rfl rfl <| .nil) fun a9 w9 m9 hst9 hle9 hk9 => ?_
   have hfr9 := hk9.fr (.o 27 <| .o 0 <| .o 2 <| .o 4 <| .o 7 <| .o 25 <| .o 26 <| .nil)
   obtain ⟨p8, e19, he8⟩ := hk9.ex 39 rfl
   replace hfr9 := hfr9.cons (hk9.same 8 rfl e19)
   clear hst8 hfr8 hk9
   refine hK15 _ _ ?_
   refine rp0 hst9 hfr9 (.cons rfl (z6 rfl rfl ⟨by omega, by omega⟩) <| .cons rfl (zC rfl) <| .nil) fun a10 w10 m10 hst10 hle10 hk10 => ?_
   have hfr10 := hk10.fr (.o 0 <| .o 2 <| .o 4 <| .o 7 <| .o 25 <| .o 26 <| .o 8 <| .n 27 <| .nil)
   clear hst9 hfr9 hk10
   replace he8 := he8.mono hle10
   have zq7 := hle9.trans hle10
   have zq8 := zq6.trans zq7
   have hlh10 := hlh6.trans zq8
   exact ⟨((k + 1), (.cons x17 x18 eq), p8), m10, by show n9 - (k + 1) < n9 - k; omega, ⟨hst10, hlh10, hfr10.sub (.c <| .c <| .c <| .c <| .c <| .c <| .c <| .c <| .nil), ⟨by show k + 1 ≤ x11.vars.length; omega, he8, by rw [hbq, hd17, hd18, bindAll]⟩⟩⟩
  ·try simp only [nqs] at hb28
   have hge : k = x11.vars.length := by omega
   rw [List.drop_of_length_le (by omega), List.drop_of_length_le (by omega), bindAll_nil] at hbq
   refine zv ?_
   refine hK9 _ _ ?_
   refine zB fun _ hK20 => ?_
   have zq9 := hle6.trans hle7
   have zq10 := zq1.trans zq9
   replace h_v := h_v.mono zq10
   replace hvk_v := hvk_v.mono zq10
   replace hcl_v := hcl_v.mono zq10
   replace hfm_v := hfm_v.mono zq10
   replace hc4 := hc4.mono zq10
   replace hM := hM.trans zq10
   have zq11 := hle5.trans zq9
   replace h_l := h_l.mono zq11
   replace hcv11 := hcv11.mono zq11
   replace hv11 := hv11.mono zq11
   replace hva11 := hva11.mono zq11
   replace hbd11 := hbd11.mono zq11
   replace hkk11b := hkk11b.mono zq11
   replace haa11b := haa11b.mono zq11
   replace hS := hS.mono zq9
   replace heq := heq.mono hle7
   refine ra0 (tch := [(7, 0, (fun _ => MK g (s.goes x11.body eq) y))]) hst7 hfr7 (.cons rfl (zC rfl) <| .cons rfl (zC rfl) <| .cons rfl (zC rfl) <| .cons rfl (zI (k := j9) rfl rfl underlying23 sizeOf47 rfl (by omega)) <| .cons rfl (zA (off := 3) rfl underlying47 rfl rfl sizeOf25 rfl) <| .cons rfl (Zk rfl hcv11 isAgg25 sizeOf25 rfl rfl) <| .cons rfl (zC rfl) <| .consT rfl rfl (fun _ => rfl) rfl (zj rfl (.cons rfl <| .cons rfl <| .cons rfl <| .nil) call31 (κ := .eq (.bool true)) (fun σ w m hK hr hkn => by have hle_ := KC.le hK; have hA := KC.agree hK; have hM := hM.trans hle_; have hS := hS.mono hle_; have h_v := h_v.mono hle_; have hvk_v := hvk_v.mono hle_; have hcl_v := hcl_v.mono hle_; have hfm_v := hfm_v.mono hle_; have h_l := h_l.mono hle_; have hc4 := hc4.mono hle_; have hcv11 := hcv11.mono hle_; have hv11 := hv11.mono hle_; have hva11 := hva11.mono hle_; have hbd11 := hbd11.mono hle_; have hkk11b := hkk11b.mono hle_; have haa11b := haa11b.mono hle_; have heq := heq.mono hle_; exact Zy (s := s) (zAQ (s := s) (y := y) hA hr hS hbd11 heq))) <| .cons rfl (zD rfl) <| .nil) fun a8 w8 m8 hst8 hle8 hk8 => ?_
   have hfr8 := hk8.fr (.o 8 <| .o 27 <| .n 6 <| .nil)
   replace hst8 := hst8.fin (L' := [_]) (.cons rfl <| .nil)
   clear hst7 hfr7 hk8
   obtain ⟨y9, hst8, hS3, hK3⟩ := zp (k := 0) hst8 rfl
   simp only [List.set_cons_zero] at hst8
   refine hK20 _ _ ?_
   refine zN ?_
   repeat (with_reducible first | refine zH ?_ | refine zG ?_)
   exact zO hst8 hfr8 rfl (.tmp rfl <| .nil) (by rw [hbq]; exact ⟨⟨y9, (hst8.take 1).loc, hS3, ⟨hK3.co, hK3.cc, hK3.mo, hK3.to, hK3.tc⟩⟩, rfl⟩)
end Go.Proofs.Ytnppknioifgdfaa
namespace Go.Proofs.Ytnppknioifgdfaa
open Go.Proofs.Try
set_option linter.all false
set_option maxRecDepth 4000
open Go.RowKit
theorem effLook (op : Str) (l : List (Str × Str)) : (match z5 op (zFB S l) with | some u => (u, true) | none => (S [], false)) = (S ((z5 op l).getD []), (z5 op l).isSome) := by
 rw [encW_look]; cases z5 op l <;> rfl
theorem zER {q : Str} : ∀ {v : Ev} {s : Str} {k : Int} {l : List Ca} {e : Env} {o : Ev}, Zf q v = .cons s k l e o → o.len + 1 ≤ v.len
 | .nil, _, _, _, _, _, h => by cases h
 | .cons s' k' l' e' o', _, _, _, _, _, h => by
  rw [Zf] at h
  split at h
  ·injection h with h1 h2 h3 h4 h5; subst h5; exact Nat.le_refl _
  ·have := zER h; simp only [Ev.len]; omega
theorem zCQ {s s2 : Mc} {op : Str} {v : Vl} {b : Bool} (h : zAq s op v = some (s2, b)) (h1 : z5 op s.eff = none) : s2 = s ∧ b = false := by
 unfold zAq at h; rw [h1] at h; injection h with h; injection h with h1 h2; exact ⟨h1.symm, h2.symm⟩
theorem zCW {s s2 : Mc} {op q : Str} {v : Vl} {b : Bool} (h : zAq s op v = some (s2, b)) (h1 : z5 op s.eff = some q) (h2 : Zf q s.ev = .nil) : s2 = s ∧ b = false := by
 unfold zAq at h; rw [h1] at h; simp only [h2] at h; injection h with h; injection h with h1 h2; exact ⟨h1.symm, h2.symm⟩
theorem zBn {s s2 : Mc} {op q q8 : Str} {k : Int} {l : List Ca} {e : Env} {o : Ev} {v : Vl} {b : Bool} (h : zAq s op v = some (s2, b)) (h1 : z5 op s.eff = some q) (h2 : Zf q s.ev = .cons q8 k l e o) :
  ∃ a0 r, l = a0 :: r ∧ ((r.find? (fun a => decide (a.name = op)) = none ∧ s2 = s ∧ b = false) ∨ ∃ a x xs, r.find? (fun a => decide (a.name = op)) = some a ∧ a.vars = x :: xs ∧ s.bnd = true ∧
   ((a.tail = true ∧ s2 = ({ s.push (.restore s.ev ((s.ev.len : Int) - (o.len : Int))) with ev := o } : Mc).goes a.body (.cons x v e) ∧ b = true) ∨ (a.tail = false ∧
    ((atF k s.frames s.frames.length = none ∧ s2 = s ∧ b = false) ∨ ∃ n y ys, atF k s.frames s.frames.length = some n ∧ xs = y :: ys ∧ s2 = ({ s with frames := s.frames.take n, ev := o, konts := s.konts + 1 } : Mc).goes a.body (.cons y (zCn (s.frames.drop n)) (.cons x v e)) ∧ b = true)))) := by
 unfold zAq at h; rw [h1] at h; simp only [h2] at h
 cases l with
 | nil => cases h
 | cons a0 r =>
  refine ⟨a0, r, rfl, ?_⟩
  simp only at h
  cases hf : r.find? (fun a => decide (a.name = op)) with
  | none => rw [hf] at h; injection h with h; injection h with h3 h4; exact .inl ⟨rfl, h3.symm, h4.symm⟩
  | some a =>
   rw [hf] at h; simp only at h
   cases hv : a.vars with
   | nil => rw [hv] at h; cases h
   | cons x xs =>
    rw [hv] at h; simp only at h
    cases hb : s.bnd with
    | false => rw [hb] at h; cases h
    | true =>
     rw [hb, if_pos rfl] at h
     refine .inr ⟨a, x, xs, rfl, hv, rfl, ?_⟩
     cases ht : a.tail with
     | true => rw [ht, if_pos rfl] at h; injection h with h; injection h with h3 h4; exact .inl ⟨rfl, h3.symm, h4.symm⟩
     | false =>
      rw [ht, if_neg (by decide)] at h
      refine .inr ⟨rfl, ?_⟩
      cases ha : atF k s.frames s.frames.length with
      | none => rw [ha] at h; injection h with h; injection h with h3 h4; exact .inl ⟨rfl, h3.symm, h4.symm⟩
      | some n =>
       rw [ha] at h; simp only at h
       cases xs with
       | nil => cases h
       | cons y ys => injection h with h; injection h with h3 h4; exact .inr ⟨n, y, ys, rfl, rfl, h3.symm, h4.symm⟩
theorem atF_b {k : Int} {fs : List Fm} {n : Nat} {q : Bool} {s : Str} {c : Cd} {e : Env} (h : fs[n]? = some (.bound q s c e)) : atF k fs (n + 1) = if q then none else atF k fs n := by rw [atF, h]
theorem atF_p {k k' : Int} {fs : List Fm} {n : Nat} {s : Str} {l : List Ca} {e : Env} (h : fs[n]? = some (.prompt s l e k')) : atF k fs (n + 1) = if k' = k then some n else atF k fs n := by rw [atF, h]
theorem atF_r {k : Int} {fs : List Fm} {n : Nat} {v : Ev} {m : Int} (h : fs[n]? = some (.restore v m)) : atF k fs (n + 1) = atF k fs n := by rw [atF, h]
def MP.fms (l : List Fm) : MP := MP.mem (fun y : Option Addr × Nat => .slice y.1 l.length y.2) (fun y m => Fms m y.1 l.length y.2 l) fun hm h => h.mono hm
set_option maxHeartbeats 400000 in
theorem yfit_c {w : World} {m : Mem} {a : Ca} {vs_a : List Value} {z : Addr} {op : Str} (hA : Agree w m) (h_a : CaR m a vs_a) (hz : CellsAt m z [S op]) : FnV Try.prog 69 #[.agg vs_a.toArray, .pointer (some z)] w m (fun _ _ v9 => v9 = .bool (decide (a.name = op))) := by
 obtain ⟨oV_a, cV_a, bs_a, rfl, hva_a, hbd_a⟩ := h_a.open_
 have hbv_a := hva_a.big; have hcv_a_ := hva_a.cap
 obtain ⟨⟨oK_ab, cK_ab, oA_ab, cA_ab⟩, rfl, ⟨hik_ab, hin_ab⟩, hkk_ab, haa_ab⟩ := hbd_a.open_
 dsimp only at hkk_ab haa_ab
 have hbg_ab := hkk_ab.big; have hcp_ab := hkk_ab.cap; have hbh_ab := haa_ab.big; have hcq_ab := haa_ab.cap
 refine zZ (vs := [_, _]) func69 rfl rfl rfl fun a0 hfr0 => ?_
 have hst0 := zW hA (zg [] _ w m)
 have hM : MLe m m := MLe.refl m
 refine zB fun _ hK1 => ?_
 refine rp0 hst0 hfr0 (.cons rfl (zr rfl rfl) <| .cons rfl (zD rfl) <| .nil) fun a1 w1 m1 hst1 hle1 hk1 => ?_
 have hfr1 := hk1.fr (.o 1 <| .nil)
 obtain ⟨g2, e2, hc2⟩ := hk1.ex 2 rfl
 replace hfr1 := hfr1.cons e2
 replace hz := hz.mono hle1
 clear hst0 hfr0 hk1
 refine hK1 _ _ ?_
 refine zB fun _ hK3 => ?_
 refine rp0 hst1 hfr1 (.cons rfl (zA (off := 0) rfl underlying47 rfl rfl sizeOf9 rfl) <| .cons rfl (zJ rfl hc2 isAgg9 rfl) <| .cons rfl (zk rfl hz isAgg9 rfl) <| .cons rfl (zd rfl rfl) <| .cons rfl (zD rfl) <| .nil) fun a2 w2 m2 hst2 hle2 hk2 => ?_
 have hfr2 := hk2.fr (.n 3 <| .nil)
 clear hst1 hfr1 hk2
 refine hK3 _ _ ?_
 refine zN ?_
 repeat (with_reducible first | refine zH ?_ | refine zG ?_)
 exact zO hst2 hfr2 rfl (.tmp rfl <| .nil) (rfl)
set_option maxHeartbeats 400000 in
theorem cloneFm_c {w : World} {m : Mem} {o_l : Option Addr} {c_l : Nat} {l : List Fm} (hA : Agree w m) (h_l : Fms m o_l l.length c_l l) (hb : l.length ≤ 1000000) : FnV Try.prog 71 #[.slice o_l l.length c_l] w m (fun _ m v => (MP.fms l).p m v) := by
 have hb_l := h_l.big; have hc_l := h_l.cap
 refine zZ (vs := [_]) func71 rfl rfl rfl fun a0 hfr0 => ?_
 have hst0 := zW hA (zg [] _ w m)
 have hM : MLe m m := MLe.refl m
 refine zB fun _ hK1 => ?_
 refine rp0 hst0 hfr0 (.cons rfl (zD rfl) <| .nil) fun a1 w1 m1 hst1 hle1 hk1 => ?_
 have hfr1 := hk1.fr (.o 0 <| .nil)
 replace h_l := h_l.mono hle1
 clear hst0 hfr0 hk1
 refine hK1 _ _ ?_
 refine zB fun _ hK2 => ?_
 refine zB fun _ hK3 => ?_
 refine rp0 hst1 hfr1 (.cons rfl (zC rfl) <| .cons rfl (ob_slnil rfl underlying70) <| .nil) fun a2 w2 m2 hst2 hle2 hk2 => ?_
 have hfr2 := hk2.fr (.o 0 <| .n 4 <| .nil)
 replace h_l := h_l.mono hle2
 clear hst1 hfr1 hk2
 refine hK3 _ _ ?_
 refine zE hfr2 rfl rfl (fun hb4 => ?_) (fun hb4 => ?_)
 ·try simp only [nqs] at hb4
  have hn9 : o_l = none := by cases o_l with | none => rfl | some p => simp at hb4
  subst hn9
  have hl9 : l = [] := h_l.none_nil
  refine zB fun _ hK4 => ?_
  refine rp0 hst2 hfr2 (.cons rfl (zD rfl) <| .nil) fun a3 w3 m3 hst3 hle3 hk3 => ?_
  have hfr3 := hk3.fr (.n 2 <| .nil)
  clear hst2 hfr2 hk3
  refine hK4 _ _ ?_
  refine zN ?_
  repeat (with_reducible first | refine zH ?_ | refine zG ?_)
  exact zO hst3 hfr3 rfl (.tmp rfl <| .nil) (by rw [hl9]; exact ⟨(none, 0), rfl, Sl.empty⟩)
 ·try simp only [nqs] at hb4
  refine zR ?_
  refine hK2 _ _ ?_
  refine zB fun _ hK6 => ?_
  obtain ⟨cs_7, hrw_7, hrd_7, hcl_7⟩ := h_l.reads
  replace hst2 := hst2.more (r := .free) trivial List.nodup_nil (by simp [Res.blocks])
  refine ra0 (tch := [(2, 0, (fun v => .row (nz v) _ _ _ _))]) hst2 hfr2 (.cons rfl (Zx underlying70 sizeOf124) <| .cons rfl (zC rfl) <| .consT rfl rfl (fun _ => rfl) rfl (zb 5 rfl rfl rfl fun y5 => zCk (size := 1) (bytes := 16) rfl rfl (fun _ => .inr ⟨rfl, rfl, rfl, rfl⟩) underlying70 type124 rfl rfl rfl rfl (fun w m hK => hrw_7.mono (KC.le hK)) hcl_7 (by decide) hrd_7.one (by simp only [maxLen]; omega) (by omega)) <| .consA 7 rfl rfl <| .nil) fun a3 w3 m3 hst3 hle3 hk3 => ?_
  have hfr3 := hk3.fr (.nil)
  obtain ⟨⟨oz7, cz7⟩, e8, hrz7, hcz7⟩ := hk3.ex 7 rfl
  replace e8 : zV a3 7 = .slice oz7 (l).length cz7 := by rw [e8]; refine congrArg (fun q => Value.slice _ q _) ?_; first | omega | (simp only [List.length_append, List.length_cons, List.length_nil, List.nil_append, List.length_take, List.length_drop]; try omega)
  replace hfr3 := hfr3.cons (hk3.same 2 rfl e8)
  replace hst3 := hst3.fin (L' := [_]) (.cons e8 <| .nil)
  clear hst2 hfr2 hk3
  replace hrd_7 := hrd_7.mono hle3
  have hsz7 : Fms m3 oz7 (l).length cz7 l := Reads.sl (Reads.nil.app hrd_7) hrz7 (by decide) rfl (by have h := hcz7; first | omega | (simp only [List.length_append, List.length_cons, List.length_nil, List.nil_append, List.length_take, List.length_drop] at h ⊢; omega)) (by first | omega | (simp only [List.length_append, List.length_cons, List.length_nil, List.nil_append, List.length_take, List.length_drop]; omega))
  refine hK6 _ _ ?_
  refine zN ?_
  repeat (with_reducible first | refine zH ?_ | refine zG ?_)
  exact zO hst3 hfr3 rfl (.tmp rfl <| .nil) (⟨(oz7, cz7), rfl, (show Fms _ _ _ _ _ from hsz7)⟩)
set_option maxHeartbeats 6400000 in
theorem yield_g {w : World} {m : Mem} {g : Nat} {s : Mc} {y : McY} {op : Str} {v : Vl} {vs_v : List Value} {s2 : Mc} {b : Bool} (hA : Agree w m) (hr : (MB g s y).holds w m) (hS : McR m s y) (h_v : VlR m v vs_v) (hrun : zAq s op v = some (s2, b)) : FnG Try.prog 54 #[.pointer (some ⟨g, 0, none⟩), S op, .agg vs_v.toArray] [g] w m (fun w' m' v => zBs g w.heap.size (s2) y w' m' ∧ v = .bool b) := by
 obtain ⟨⟨oa_v, ca_v, pf_v, ob_v, cb_v⟩, rfl, ⟨hi_v, hj_v⟩, hvk_v, hcl_v, hfm_v, hnl_v⟩ := h_v.open_
 have hbk_v := hvk_v.big; have hbf_v := hfm_v.big
 refine zZ (vs := [_, _, _]) func54 rfl rfl rfl fun a0 hfr0 => ?_
 have hst0 := zW hA (zAN hr (by simp [Res.blocks, zn]))
 have hM : MLe m m := MLe.refl m
 obtain ⟨yc, pe, yv, pv, fo, fc, co, cc, io, ic, mo, to, tc⟩ := y
 have hef := hS.eff
 have hfq := hS.fr
 have hbg9 := hfq.big; have hcp9 := hfq.cap
 refine zB fun _ hK1 => ?_
 refine rp0 hst0 hfr0 (.cons rfl (zr rfl rfl) <| .cons rfl (zr rfl rfl) <| .cons rfl (zD rfl) <| .nil) fun a1 w1 m1 hst1 hle1 hk1 => ?_
 have hfr1 := hk1.fr (.o 0 <| .nil)
 obtain ⟨g4, e2, hc4⟩ := hk1.ex 4 rfl
 replace hfr1 := hfr1.cons e2
 obtain ⟨g5, e3, hc5⟩ := hk1.ex 5 rfl
 replace hfr1 := hfr1.cons e3
 replace hS := hS.mono hle1
 replace h_v := h_v.mono hle1
 replace hvk_v := hvk_v.mono hle1
 replace hcl_v := hcl_v.mono hle1
 replace hfm_v := hfm_v.mono hle1
 replace hef := hef.mono hle1
 replace hfq := hfq.mono hle1
 replace hM := hM.trans hle1
 clear hst0 hfr0 hk1
 refine hK1 _ _ ?_
 refine zB fun _ hK4 => ?_
 refine zAJ (fun _ => zw) hst1 hfr1 (by kernel_rfl) (by kernel_rfl) (.cons rfl (zC rfl) <| .cons rfl (zL rfl) <| .cons rfl (zA (off := 20) rfl underlying79 rfl rfl sizeOf66 rfl) <| .cons rfl (zK (j := 0) rfl rfl isAgg66 rfl) <| .cons rfl (zk rfl hc4 isAgg9 rfl) <| .cons rfl (ob_lookupM zAD rfl rfl (fun w m hK => hef.mono (KC.le hK)) underlying66 underlying9 zeroValue9 (effLook _ _)) <| .cons rfl (zC rfl) <| .cons rfl (zM rfl rfl) <| .cons rfl (zM rfl rfl) <| .cons rfl (zD rfl) <| .cons rfl (zD rfl) <| .nil) fun a2 w2 m2 hst2 hle2 hk2 => ?_
 have hfr2 := hk2.fr (.o 0 <| .o 4 <| .o 5 <| .n 7 <| .n 8 <| .nil)
 replace hS := hS.mono hle2
 replace h_v := h_v.mono hle2
 replace hvk_v := hvk_v.mono hle2
 replace hcl_v := hcl_v.mono hle2
 replace hfm_v := hfm_v.mono hle2
 replace hef := hef.mono hle2
 replace hfq := hfq.mono hle2
 replace hc4 := hc4.mono hle2
 replace hc5 := hc5.mono hle2
 replace hM := hM.trans hle2
 clear hst1 hfr1 hk2
 refine hK4 _ _ ?_
 refine zB fun _ hK5 => ?_
 refine zB fun _ hK6 => ?_
 refine rp0 hst2 hfr2 (.cons rfl (zC rfl) <| .cons rfl (z2 rfl) <| .nil) fun a3 w3 m3 hst3 hle3 hk3 => ?_
 have hfr3 := hk3.fr (.o 0 <| .o 4 <| .o 5 <| .o 7 <| .n 30 <| .nil)
 replace hS := hS.mono hle3
 replace h_v := h_v.mono hle3
 replace hvk_v := hvk_v.mono hle3
 replace hcl_v := hcl_v.mono hle3
 replace hfm_v := hfm_v.mono hle3
 replace hef := hef.mono hle3
 replace hfq := hfq.mono hle3
 replace hc4 := hc4.mono hle3
 replace hc5 := hc5.mono hle3
 replace hM := hM.trans hle3
 clear hst2 hfr2 hk3
 refine hK6 _ _ ?_
 refine zE hfr3 rfl rfl (fun hb30 => ?_) (fun hb30 => ?_)
 ·try simp only [nqs] at hb30
  obtain ⟨rfl, rfl⟩ := zCQ hrun (none_of hb30)
  refine zB fun _ hK7 => ?_
  refine rp0 hst3 hfr3 (.cons rfl (zD rfl) <| .nil) fun a4 w4 m4 hst4 hle4 hk4 => ?_
  have hfr4 := hk4.fr (.n 6 <| .nil)
  clear hst3 hfr3 hk4
  refine hK7 _ _ ?_
  refine zN ?_
  repeat (with_reducible first | refine zH ?_ | refine zG ?_)
  replace hS := hS.mono hle4
  exact zO hst4 hfr4 rfl (.tmp rfl <| .nil) (⟨⟨(⟨yc, pe, yv, pv, _, fc, co, cc, io, ic, mo, to, tc⟩ : McY), (hst4.take 1).loc, hS, McK.refl _⟩, rfl⟩)
 ·try simp only [nqs] at hb30
  obtain ⟨q9, hq9⟩ : ∃ q, z5 op s.eff = some q := by cases h : z5 op s.eff with | none => rw [h] at hb30; cases hb30 | some q => exact ⟨q, rfl⟩
  rw [hq9] at hfr3
  simp only [Option.getD_some, Option.isSome_some] at hfr3
  refine zR ?_
  refine hK5 _ _ ?_
  refine zB fun _ hK9 => ?_
  refine z7 7 (by kernel_rfl) ?_
  refine zq (tch := []) hst3 hfr3 (by kernel_rfl) (by kernel_rfl) (by kernel_rfl) (.cons rfl (zC rfl) <| .cons rfl (zL rfl) <| .cons rfl (zA (off := 0) rfl underlying79 rfl rfl sizeOf77 rfl) <| .cons rfl (zA (off := 15) rfl underlying77 rfl rfl sizeOf75 rfl) <| .cons rfl (zz (k := 15) (j := 0) rfl rfl isAgg75 sizeOf75 rfl rfl) <| .cons rfl (zC rfl) <| .cons rfl (zm (φ := MP.fnd (Zf q9 s.ev)) rfl (.cons rfl <| .cons rfl <| .nil) call68 (fun w m hK => by have hle_ := KC.le hK; have hA := KC.agree hK; have hS := hS.mono hle_; exact FnG.mono (vfind_c (s := q9) hA hS.ev) fun _ _ _ _ h => h)) <| .nil) fun a4 w4 m4 hst4 hle4 hk4 => ?_
  have hfr4 := hk4.fr (.o 0 <| .o 4 <| .o 5 <| .o 7 <| .nil)
  obtain ⟨⟨⟨oa9, ca9⟩, pe9, po9⟩, e10, hfd9⟩ := hk4.ex 38 rfl
  replace hfr4 := hfr4.cons e10
  clear hst3 hfr3 hk4
  obtain ⟨v9, hv9⟩ : ∃ v9, Zf q9 s.ev = v9 := ⟨_, rfl⟩
  rw [hv9] at hfd9 hfr4
  rcases v9 with _ | ⟨q8, k9, l9, e9, o9⟩
  ·skip
   obtain ⟨rfl, rfl⟩ := zCW hrun hq9 hv9
   replace hst4 := hst4.more (r := .free) trivial List.nodup_nil (by simp [Res.blocks])
   replace hst4 := hst4.more (r := .free) trivial List.nodup_nil (by simp [Res.blocks])
   refine zq (tch := [(5, 1, (fun v => .blk v _)), (6, 2, (fun v => .blk v _)), (7, 1, (fun v => .blk v _)), (9, 2, (fun v => .blk v _))]) hst4 hfr4 (by kernel_rfl) (by kernel_rfl) (by kernel_rfl) (.cons rfl (zC rfl) <| .cons rfl (zM rfl rfl) <| .cons rfl (zM rfl rfl) <| .cons rfl (zM rfl rfl) <| .cons rfl (zM rfl rfl) <| .consT rfl rfl (fun _ => rfl) rfl (zP zeroValue114 rfl) <| .consT rfl rfl (fun _ => rfl) rfl (zP zeroValue75 rfl) <| .consT rfl rfl (fun _ => rfl) rfl (zb 9 rfl rfl rfl fun y9 => za rfl rfl rfl rfl rfl sizeOf114 rfl rfl rfl) <| .cons rfl (zD rfl) <| .consT rfl rfl (fun _ => rfl) rfl (zb 11 rfl rfl rfl fun y11 => za rfl rfl rfl rfl rfl sizeOf75 rfl rfl rfl) <| .cons rfl (zD rfl) <| .nil) fun a5 w5 m5 hst5 hle5 hk5 => ?_
   have hfr5 := hk5.fr (.o 0 <| .o 4 <| .o 5 <| .o 7 <| .o 38 <| .n 10 <| .n 8 <| .nil)
   obtain ⟨g9, e11, _⟩ := hk5.ex 9 rfl
   replace hfr5 := hfr5.cons e11
   obtain ⟨g11, e12, _⟩ := hk5.ex 11 rfl
   replace hfr5 := hfr5.cons e12
   replace hst5 := hst5.fin (L' := [_, _, _]) (.cons e11 <| .cons e12 <| .cons e11 <| .cons e12 <| .nil)
   try simp only [List.take_succ_cons, List.take_zero, List.drop_succ_cons, List.drop_zero, List.cons_append, List.nil_append, List.append_nil, List.length_cons, List.length_nil, Nat.zero_add, Nat.reduceAdd] at hst5
   clear hst4 hfr4 hk5
   refine hK9 _ _ ?_
   refine zB fun _ hK13 => ?_
   refine zB fun _ hK14 => ?_
   refine rp0 hst5 hfr5 (.cons rfl (zC rfl) <| .cons rfl (z2 rfl) <| .nil) fun a6 w6 m6 hst6 hle6 hk6 => ?_
   have hfr6 := hk6.fr (.o 0 <| .o 4 <| .o 5 <| .o 10 <| .o 9 <| .o 11 <| .n 44 <| .nil)
   clear hst5 hfr5 hk6
   refine hK14 _ _ ?_
   refine zE hfr6 rfl rfl (fun hb44 => ?_) (fun hb44 => ?_)
   ·try simp only [nqs] at hb44
    refine zB fun _ hK15 => ?_
    refine rp0 hst6 hfr6 (.cons rfl (zD rfl) <| .nil) fun a7 w7 m7 hst7 hle7 hk7 => ?_
    have hfr7 := hk7.fr (.n 6 <| .nil)
    clear hst6 hfr6 hk7
    refine hK15 _ _ ?_
    refine zN ?_
    repeat (with_reducible first | refine zH ?_ | refine zG ?_)
    have zq1 := hle6.trans hle7
    have zq2 := hle5.trans zq1
    have zq3 := hle4.trans zq2
    replace hS := hS.mono zq3
    exact zO hst7 hfr7 rfl (.tmp rfl <| .nil) (⟨⟨(⟨yc, pe, yv, pv, _, fc, co, cc, io, ic, mo, to, tc⟩ : McY), (hst7.take 1).loc, hS, McK.refl _⟩, rfl⟩)
   ·simp [Ev.any] at hb44
  ·skip
   obtain ⟨a0, r9, rfl, hrun2⟩ := zBn hrun hq9 hv9
   have hln9 := zER hv9
   have hla9 : Cas m4 oa9 (a0 :: r9).length ca9 (a0 :: r9) := hfd9.1
   have hee9 : EnvR m4 e9 pe9 := hfd9.2.1
   have hoo9 : EvR m4 o9 po9 := hfd9.2.2.1
   have hki9 : zo k9 := hfd9.2.2.2
   have hlc9 : (a0 :: r9).length = r9.length + 1 := rfl
   dsimp only [MP.fnd, MP.mem, Ev.eff, Ev.arms, Ev.mrk, Ev.any] at hfr4
   have hbl9 := hla9.big
   have hcl9_ := hla9.cap
   have hr9 : ((a0 :: r9).take (a0 :: r9).length).drop 1 = r9 := by rw [List.take_length]; rfl
   replace hst4 := hst4.more (r := .free) trivial List.nodup_nil (by simp [Res.blocks])
   replace hst4 := hst4.more (r := .free) trivial List.nodup_nil (by simp [Res.blocks])
   refine zq (tch := [(5, 1, (fun v => .blk v _)), (6, 2, (fun v => .blk v _)), (7, 1, (fun v => .blk v _)), (9, 2, (fun v => .blk v _))]) hst4 hfr4 (by kernel_rfl) (by kernel_rfl) (by kernel_rfl) (.cons rfl (zC rfl) <| .cons rfl (zM rfl rfl) <| .cons rfl (zM rfl rfl) <| .cons rfl (zM rfl rfl) <| .cons rfl (zM rfl rfl) <| .consT rfl rfl (fun _ => rfl) rfl (zP zeroValue114 rfl) <| .consT rfl rfl (fun _ => rfl) rfl (zP zeroValue75 rfl) <| .consT rfl rfl (fun _ => rfl) rfl (zb 9 rfl rfl rfl fun y9 => za rfl rfl rfl rfl rfl sizeOf114 rfl rfl rfl) <| .cons rfl (zD rfl) <| .consT rfl rfl (fun _ => rfl) rfl (zb 11 rfl rfl rfl fun y11 => za rfl rfl rfl rfl rfl sizeOf75 rfl rfl rfl) <| .cons rfl (zD rfl) <| .nil) fun a5 w5 m5 hst5 hle5 hk5 => ?_
   have hfr5 := hk5.fr (.o 0 <| .o 4 <| .o 5 <| .o 7 <| .o 38 <| .n 10 <| .n 8 <| .nil)
   obtain ⟨g9, e17, _⟩ := hk5.ex 9 rfl
   replace hfr5 := hfr5.cons e17
   obtain ⟨g11, e18, _⟩ := hk5.ex 11 rfl
   replace hfr5 := hfr5.cons e18
   replace hst5 := hst5.fin (L' := [_, _, _]) (.cons e17 <| .cons e18 <| .cons e17 <| .cons e18 <| .nil)
   try simp only [List.take_succ_cons, List.take_zero, List.drop_succ_cons, List.drop_zero, List.cons_append, List.nil_append, List.append_nil, List.length_cons, List.length_nil, Nat.zero_add, Nat.reduceAdd] at hst5
   clear hst4 hfr4 hk5
   refine hK9 _ _ ?_
   refine zB fun _ hK19 => ?_
   refine zB fun _ hK20 => ?_
   refine rp0 hst5 hfr5 (.cons rfl (zC rfl) <| .cons rfl (z2 rfl) <| .nil) fun a6 w6 m6 hst6 hle6 hk6 => ?_
   have hfr6 := hk6.fr (.o 0 <| .o 4 <| .o 5 <| .o 10 <| .o 9 <| .o 11 <| .n 44 <| .nil)
   clear hst5 hfr5 hk6
   refine hK20 _ _ ?_
   refine zE hfr6 rfl rfl (fun hb44 => ?_) (fun hb44 => ?_)
   ·simp [Ev.any] at hb44
   ·try simp only [nqs] at hb44
    refine zR ?_
    refine hK19 _ _ ?_
    refine zB fun _ hK21 => ?_
    have zq4 := hle5.trans hle6
    replace hla9 := hla9.mono zq4
    have hct22 : Cas _ _ _ _ (((a0 :: r9).take ((a0 :: r9).length)).drop (1)) := hla9.cut (l := 1) (k := (a0 :: r9).length) (by omega) (by omega)
    have hcl22 : ((a0 :: r9).length) - (1) = ((((a0 :: r9).take ((a0 :: r9).length)).drop (1))).length := hct22.len.symm
    have hcu22 : Cas _ _ _ _ (((a0 :: r9).take ((a0 :: r9).length)).drop (1)) := hct22.lenL
    have zq5 := hle4.trans zq4
    replace hc4 := hc4.mono zq5
    refine rp0 hst6 hfr6 (.cons rfl (zA (off := 1) rfl underlying114 rfl rfl sizeOf23 rfl) <| .cons rfl (zK (j := 1) rfl rfl isAgg23 rfl) <| .cons rfl (zAW (l := 1) (h := (a0 :: r9).length) rfl (.some rfl (by omega)) .none underlying23 sizeOf47 (by first | omega | (dsimp only; omega)) (by first | omega | (dsimp only; omega))) <| .cons rfl (ZN (.cons rfl <| .nil)) <| .cons rfl (zX rfl (.cons rfl <| .cons rfl <| .nil) call66 (fun w m hK => by have hle_ := KC.le hK; have hA := KC.agree hK; have hc4 := hc4.mono hle_; have hcu22 := hcu22.mono hle_; exact (by rw [hcl22]; exact zEu (φ := (fun a => decide (a.name = op))) (cap := [.pointer (some _)]) hA hcu22 call69 (fun w m2 a vs hm ha hv hu => yfit_c ha hv (hc4.mono hm))))) <| .cons rfl (zD rfl) <| .nil) fun a7 w7 m7 hst7 hle7 hk7 => ?_
    have hfr7 := hk7.fr (.o 0 <| .o 5 <| .o 10 <| .o 9 <| .o 11 <| .n 12 <| .nil)
    clear hst6 hfr6 hk7
    rw [hr9] at hfr7
    refine hK21 _ _ ?_
    refine zB fun _ hK23 => ?_
    refine zB fun _ hK24 => ?_
    have hif := zDX (fun a => decide (a.name = op)) r9 0 (Int.le_refl 0)
    refine rp0 hst7 hfr7 (.cons rfl (zC rfl) <| .cons rfl (ZA rfl rfl) <| .nil) fun a8 w8 m8 hst8 hle8 hk8 => ?_
    have hfr8 := hk8.fr (.o 0 <| .o 5 <| .o 10 <| .o 9 <| .o 11 <| .o 12 <| .n 51 <| .nil)
    clear hst7 hfr7 hk8
    refine hK24 _ _ ?_
    refine zE hfr8 rfl rfl (fun hb51 => ?_) (fun hb51 => ?_)
    ·try simp only [nqs] at hb51
     obtain ⟨-, rfl, rfl⟩ := hrun2.resolve_right (fun ⟨a, x, xs, h1, _⟩ => by rcases hif with h9 | ⟨j, a, e1, _⟩; (rw [h9.2] at h1; cases h1); (rw [e1] at hb51; omega))
     refine zB fun _ hK25 => ?_
     refine rp0 hst8 hfr8 (.cons rfl (zD rfl) <| .nil) fun a9 w9 m9 hst9 hle9 hk9 => ?_
     have hfr9 := hk9.fr (.n 6 <| .nil)
     clear hst8 hfr8 hk9
     refine hK25 _ _ ?_
     refine zN ?_
     repeat (with_reducible first | refine zH ?_ | refine zG ?_)
     have zq6 := hle8.trans hle9
     have zq7 := hle7.trans zq6
     have zq8 := zq5.trans zq7
     replace hS := hS.mono zq8
     exact zO hst9 hfr9 rfl (.tmp rfl <| .nil) (⟨⟨(⟨yc, pe, yv, pv, _, fc, co, cc, io, ic, mo, to, tc⟩ : McY), (hst9.take 1).loc, hS, McK.refl _⟩, rfl⟩)
    ·try simp only [nqs] at hb51
     obtain ⟨j9, a9, hj9, ha9, hfi9, hpa9⟩ := hif.resolve_left (fun h => by rw [h.1] at hb51; omega)
     rw [Int.zero_add] at hj9
     rw [hj9] at hfr8
     have hjl9 : j9 < r9.length := (List.getElem?_eq_some_iff.1 ha9).1
     obtain ⟨a8, x8, xs8, ha8, hvs8, hbn, hrun3⟩ := hrun2.resolve_left (fun h => by rw [hfi9] at h; cases h.1)
     obtain rfl : a9 = a8 := by rw [hfi9] at ha8; injection ha8
     have hbd9 := zBj hbn
     refine zR ?_
     refine hK23 _ _ ?_
     refine zB fun _ hK27 => ?_
     have zq9 := hle7.trans hle8
     replace hla9 := hla9.mono zq9
     obtain ⟨p28, vs28, x28, ho28, hd28, hm_x28, ht28, hcv28, hl28, hv28⟩ := hla9.nth (k := (j9+1)) (by omega)
     cases ho28
     obtain ⟨oV28, cV28, bs28, rfl, hva28, hbd28⟩ := hv28.open_
     have hbv28 := hva28.big; have hcv28_ := hva28.cap
     obtain ⟨⟨oK28b, cK28b, oA28b, cA28b⟩, rfl, ⟨hik28b, hin28b⟩, hkk28b, haa28b⟩ := hbd28.open_
     dsimp only at hkk28b haa28b
     have hbg28b := hkk28b.big; have hcp28b := hkk28b.cap; have hbh28b := haa28b.big; have hcq28b := haa28b.cap
     obtain rfl : x28 = a9 := by have h8 := hd28; rw [List.drop_succ_cons, List.drop_eq_getElem_cons hjl9] at h8; have h7 := (List.getElem?_eq_some_iff.1 ha9).2; injection h8 with h6 _; rw [← h6, h7]
     replace hst8 := hst8.more (r := .free) trivial List.nodup_nil (by simp [Res.blocks])
     refine ra0 (tch := [(6, 3, (fun v => .blk v _)), (7, 3, (fun v => .blk v _))]) hst8 hfr8 (.cons rfl (zA (off := 1) rfl underlying114 rfl rfl sizeOf23 rfl) <| .cons rfl (zK (j := 1) rfl rfl isAgg23 rfl) <| .cons rfl (zC rfl) <| .cons rfl (z6 rfl rfl ⟨by omega, by omega⟩) <| .cons rfl (zI (k := (j9+1)) rfl rfl underlying23 sizeOf47 (by omega) (by omega)) <| .cons rfl (zY rfl hcv28 isAgg47 sizeOf47 rfl rfl) <| .consT rfl rfl (fun _ => rfl) rfl (zP zeroValue47 rfl) <| .consT rfl rfl (fun _ => rfl) rfl (zb 13 rfl rfl rfl fun y13 => za rfl rfl rfl rfl rfl sizeOf47 rfl rfl rfl) <| .nil) fun a9 w9 m9 hst9 hle9 hk9 => ?_
     have hfr9 := hk9.fr (.o 0 <| .o 5 <| .o 10 <| .o 9 <| .o 11 <| .nil)
     obtain ⟨g13, e29, _⟩ := hk9.ex 13 rfl
     replace hfr9 := hfr9.cons e29
     replace hst9 := hst9.fin (L' := [_, _, _, _]) (.cons e29 <| .cons e29 <| .nil)
     try simp only [List.take_succ_cons, List.take_zero, List.drop_succ_cons, List.drop_zero, List.cons_append, List.nil_append, List.append_nil, List.length_cons, List.length_nil, Nat.zero_add, Nat.reduceAdd] at hst9
     clear hst8 hfr8 hk9
     refine hK27 _ _ ?_
     refine zB fun _ hK30 => ?_
     have hvl9 : x28.vars.length = xs8.length + 1 := by rw [hvs8]; rfl
     replace hva28 := hva28.mono hle9
     obtain ⟨p31, vs31, x31, ho31, hd31, hm_x31, ht31, hcv31, hl31, hv31⟩ := hva28.nth (k := 0) (by omega)
     cases ho31
     subst hv31
     obtain rfl : x31 = x8 := by have h9 := hd31; rw [hvs8] at h9; simp at h9; exact h9.symm
     have zq10 := zq9.trans hle9
     have zq11 := zq5.trans zq10
     replace h_v := h_v.mono zq11
     replace hc5 := hc5.mono zq11
     have zq12 := zq4.trans zq10
     replace hee9 := hee9.mono zq12
     refine zc (tch := []) (fun _ => zw) hst9 hfr9 (by kernel_rfl) (by kernel_rfl) (by kernel_rfl) (.cons rfl (zA (off := 2) rfl underlying114 rfl rfl sizeOf67 rfl) <| .cons rfl (zK (j := 1) rfl rfl isAgg67 rfl) <| .cons rfl (zA (off := 1) rfl underlying47 rfl rfl sizeOf45 rfl) <| .cons rfl (zK (j := 3) rfl rfl isAgg45 rfl) <| .cons rfl (zI (k := 0) rfl rfl underlying45 sizeOf9 rfl (by omega)) <| .cons rfl (zk rfl hcv31 isAgg9 rfl) <| .cons rfl (zY rfl hc5 isAgg72 sizeOf72 rfl rfl) <| .cons rfl (zm (φ := MP.env (.cons x31 v e9)) rfl (.cons rfl <| .cons rfl <| .cons rfl <| .nil) call46 (fun w m hK => by have hle_ := KC.le hK; have hA := KC.agree hK; have h_v := h_v.mono hle_; have hee9 := hee9.mono hle_; exact FnG.mono (zBY (s := x31) hA hee9 h_v) fun _ _ _ _ h => h)) <| .consA 65 rfl rfl <| .nil) fun a10 w10 m10 hst10 hle10 hk10 => ?_
     have hfr10 := hk10.fr (.o 0 <| .o 10 <| .o 11 <| .o 13 <| .nil)
     obtain ⟨p8, e32, he8⟩ := hk10.ex 65 rfl
     replace hfr10 := hfr10.cons (hk10.same 14 rfl e32)
     clear hst9 hfr9 hk10
     refine hK30 _ _ ?_
     refine zB fun _ hK33 => ?_
     refine zB fun _ hK34 => ?_
     refine rp0 hst10 hfr10 (.cons rfl (zA (off := 2) rfl underlying47 rfl rfl sizeOf4 rfl) <| .cons rfl (zK (j := 3) rfl rfl isAgg4 rfl) <| .nil) fun a11 w11 m11 hst11 hle11 hk11 => ?_
     have hfr11 := hk11.fr (.o 0 <| .o 10 <| .o 11 <| .o 13 <| .o 14 <| .n 67 <| .nil)
     clear hst10 hfr10 hk11
     refine hK34 _ _ ?_
     refine zE hfr11 rfl rfl (fun hb67 => ?_) (fun hb67 => ?_)
     ·try simp only [nqs] at hb67
      obtain ⟨-, rfl, rfl⟩ := hrun3.resolve_right (fun h => by rw [h.1] at hb67; cases hb67)
      refine zB fun _ hK35 => ?_
      have hni9 : zo ((s.ev.len : Int) - (o9.len : Int)) := ⟨by omega, by omega⟩
      have zq13 := hle10.trans hle11
      have zq14 := zq11.trans zq13
      replace hS := hS.mono zq14
      replace hvk_v := hvk_v.mono zq14
      replace hcl_v := hcl_v.mono zq14
      replace hfm_v := hfm_v.mono zq14
      replace hef := hef.mono zq14
      replace hfq := hfq.mono zq14
      replace hM := hM.trans zq14
      have zq15 := zq12.trans zq13
      replace hoo9 := hoo9.mono zq15
      have zq16 := zq10.trans zq13
      replace hc4 := hc4.mono zq16
      replace hct22 := hct22.mono zq16
      replace hcu22 := hcu22.mono zq16
      have zq17 := hle9.trans zq13
      replace hla9 := hla9.mono zq17
      replace hcv28 := hcv28.mono zq17
      replace hv28 := hv28.mono zq17
      replace hbd28 := hbd28.mono zq17
      replace hkk28b := hkk28b.mono zq17
      replace haa28b := haa28b.mono zq17
      replace h_v := h_v.mono zq13
      replace hc5 := hc5.mono zq13
      replace hee9 := hee9.mono zq13
      replace hva28 := hva28.mono zq13
      replace hcv31 := hcv31.mono zq13
      replace he8 := he8.mono hle11
      refine zc (tch := [(17, 0, (fun _ => MK g (s.push (.restore s.ev ((s.ev.len : Int) - (o9.len : Int)))) (⟨yc, pe, yv, pv, _, fc, co, cc, io, ic, mo, to, tc⟩ : McY)))]) (fun _ => zw) hst11 hfr11 (by kernel_rfl) (by kernel_rfl) (by kernel_rfl) (.cons rfl (zC rfl) <| .cons rfl (zC rfl) <| .cons rfl (zL rfl) <| .cons rfl (zA (off := 0) rfl underlying79 rfl rfl sizeOf77 rfl) <| .cons rfl (zA (off := 15) rfl underlying77 rfl rfl sizeOf75 rfl) <| .cons rfl (zz (k := 15) (j := 0) rfl rfl isAgg75 sizeOf75 rfl rfl) <| .cons rfl (zC rfl) <| .cons rfl (zL rfl) <| .cons rfl (zA (off := 0) rfl underlying79 rfl rfl sizeOf77 rfl) <| .cons rfl (zA (off := 15) rfl underlying77 rfl rfl sizeOf75 rfl) <| .cons rfl (zz (k := 15) (j := 0) rfl rfl isAgg75 sizeOf75 rfl rfl) <| .cons rfl (zX rfl (.cons rfl <| .nil) call70 (fun w m hK => by have hle_ := KC.le hK; have hA := KC.agree hK; have hS := hS.mono hle_; exact vlen_c hA hS.ev)) <| .cons rfl (zh (j := 2) rfl rfl isAgg75 sizeOf75 rfl) <| .cons rfl (zX rfl (.cons rfl <| .nil) call70 (fun w m hK => by have hle_ := KC.le hK; have hA := KC.agree hK; have hoo9 := hoo9.mono hle_; exact vlen_c hA hoo9)) <| .cons rfl (zAZ rfl rfl ⟨by omega, by omega⟩) <| .cons rfl (zQ (.cons rfl <| .cons rfl <| .nil) underlying130 zeroValue130 (.cons sizeOf75 <| .cons sizeOf3 <| .nil) rfl) <| .cons rfl (zDj rfl underlying130 rfl) <| .consT rfl rfl (fun _ => rfl) rfl (zj rfl (.cons rfl <| .cons rfl <| .nil) call45 (κ := .ex (MP.anyV)) (fun σ w m hK hr hkn => by have hle_ := KC.le hK; have hA := KC.agree hK; have hM := hM.trans hle_; have hS := hS.mono hle_; have h_v := h_v.mono hle_; have hvk_v := hvk_v.mono hle_; have hcl_v := hcl_v.mono hle_; have hfm_v := hfm_v.mono hle_; have hef := hef.mono hle_; have hfq := hfq.mono hle_; have hc4 := hc4.mono hle_; have hc5 := hc5.mono hle_; have hla9 := hla9.mono hle_; have hee9 := hee9.mono hle_; have hoo9 := hoo9.mono hle_; have hct22 := hct22.mono hle_; have hcu22 := hcu22.mono hle_; have hcv28 := hcv28.mono hle_; have hv28 := hv28.mono hle_; have hva28 := hva28.mono hle_; have hbd28 := hbd28.mono hle_; have hkk28b := hkk28b.mono hle_; have haa28b := haa28b.mono hle_; have hcv31 := hcv31.mono hle_; have he8 := he8.mono hle_; exact zDo (s := s) (zDk (s := s) (y := (⟨yc, pe, yv, pv, _, fc, co, cc, io, ic, mo, to, tc⟩ : McY)) (f := .restore s.ev ((s.ev.len : Int) - (o9.len : Int))) hA hr hS (by simp only [FmR]; exact ⟨_, rfl, hni9, hS.ev⟩) (by omega)))) <| .nil) fun a12 w12 m12 hst12 hle12 hk12 => ?_
      have hfr12 := hk12.fr (.o 0 <| .o 11 <| .o 13 <| .o 14 <| .nil)
      obtain ⟨y36, e36, hy36⟩ := hk12.ex 85 rfl
      replace hst12 := hst12.fin (L' := [_, _, _, _]) (.cons e36 <| .nil)
      clear hst11 hfr11 hk12
      obtain ⟨y8, hst12, hS8, hK8⟩ := zp (k := 0) hst12 rfl
      simp only [List.set_cons_zero] at hst12
      refine hK35 _ _ ?_
      refine zB fun _ hK37 => ?_
      refine ra0 (tch := [(5, 0, (fun _ => .blk _ _))]) hst12 hfr12 (.cons rfl (zC rfl) <| .cons rfl (zh (j := 2) rfl rfl isAgg75 sizeOf75 rfl) <| .cons rfl (zL rfl) <| .cons rfl (zA (off := 0) rfl underlying79 rfl rfl sizeOf77 rfl) <| .cons rfl (zA (off := 15) rfl underlying77 rfl rfl sizeOf75 rfl) <| .consT rfl rfl (fun _ => rfl) rfl (z1 (k := 15) rfl rfl rfl sizeOf75 rfl rfl rfl) <| .nil) fun a13 w13 m13 hst13 hle13 hk13 => ?_
      have hfr13 := hk13.fr (.o 0 <| .o 13 <| .o 14 <| .nil)
      replace hst13 := hst13.fin (L' := [_, _, _, _]) (.cons rfl <| .nil)
      try simp only [List.take_succ_cons, List.take_zero, List.drop_succ_cons, List.drop_zero, List.cons_append, List.nil_append, List.append_nil, List.length_cons, List.length_nil, Nat.zero_add, Nat.reduceAdd] at hst13
      clear hst12 hfr12 hk13
      have zq18 := hle12.trans hle13
      replace hoo9 := hoo9.mono zq18
      replace hS8 := hS8.mono hle13
      have hS9 : McR m13 ({ s.push (.restore s.ev ((s.ev.len : Int) - (o9.len : Int))) with ev := o9 } : Mc) { y8 with pv := po9 } := ⟨hS8.c, hS8.e, hS8.v, hoo9, hS8.fr, hS8.inp, hS8.next, hS8.kind, hS8.eff, hS8.steps, hS8.konts, hS8.tr⟩
      refine hK37 _ _ ?_
      refine zB fun _ hK38 => ?_
      replace hS := hS.mono zq18
      replace h_v := h_v.mono zq18
      replace hvk_v := hvk_v.mono zq18
      replace hcl_v := hcl_v.mono zq18
      replace hfm_v := hfm_v.mono zq18
      replace hef := hef.mono zq18
      replace hfq := hfq.mono zq18
      replace hc4 := hc4.mono zq18
      replace hc5 := hc5.mono zq18
      replace hla9 := hla9.mono zq18
      replace hee9 := hee9.mono zq18
      replace hct22 := hct22.mono zq18
      replace hcu22 := hcu22.mono zq18
      replace hcv28 := hcv28.mono zq18
      replace hv28 := hv28.mono zq18
      replace hva28 := hva28.mono zq18
      replace hbd28 := hbd28.mono zq18
      replace hkk28b := hkk28b.mono zq18
      replace haa28b := haa28b.mono zq18
      replace hcv31 := hcv31.mono zq18
      replace he8 := he8.mono zq18
      replace hM := hM.trans zq18
      refine ra0 (tch := [(4, 0, (fun _ => MK g (({ s.push (.restore s.ev ((s.ev.len : Int) - (o9.len : Int))) with ev := o9 } : Mc).goes x28.body (.cons x31 v e9)) { y8 with pv := po9 }))]) hst13 hfr13 (.cons rfl (zC rfl) <| .cons rfl (zA (off := 3) rfl underlying47 rfl rfl sizeOf25 rfl) <| .cons rfl (zz (j := 3) rfl rfl isAgg25 sizeOf25 rfl rfl) <| .cons rfl (zC rfl) <| .consT rfl rfl (fun _ => rfl) rfl (zj rfl (.cons rfl <| .cons rfl <| .cons rfl <| .nil) call31 (κ := .eq (.bool true)) (fun σ w m hK hr hkn => by have hle_ := KC.le hK; have hA := KC.agree hK; have hM := hM.trans hle_; have hS := hS.mono hle_; have h_v := h_v.mono hle_; have hvk_v := hvk_v.mono hle_; have hcl_v := hcl_v.mono hle_; have hfm_v := hfm_v.mono hle_; have hef := hef.mono hle_; have hfq := hfq.mono hle_; have hc4 := hc4.mono hle_; have hc5 := hc5.mono hle_; have hla9 := hla9.mono hle_; have hee9 := hee9.mono hle_; have hoo9 := hoo9.mono hle_; have hct22 := hct22.mono hle_; have hcu22 := hcu22.mono hle_; have hcv28 := hcv28.mono hle_; have hv28 := hv28.mono hle_; have hva28 := hva28.mono hle_; have hbd28 := hbd28.mono hle_; have hkk28b := hkk28b.mono hle_; have haa28b := haa28b.mono hle_; have hcv31 := hcv31.mono hle_; have he8 := he8.mono hle_; have hS8 := hS8.mono hle_; have hS9 := hS9.mono hle_; exact Zy (s := ({ s.push (.restore s.ev ((s.ev.len : Int) - (o9.len : Int))) with ev := o9 } : Mc)) (zAQ (s := ({ s.push (.restore s.ev ((s.ev.len : Int) - (o9.len : Int))) with ev := o9 } : Mc)) (y := { y8 with pv := po9 }) hA hr hS9 hbd28 he8))) <| .cons rfl (zD rfl) <| .nil) fun a14 w14 m14 hst14 hle14 hk14 => ?_
      have hfr14 := hk14.fr (.n 6 <| .nil)
      replace hst14 := hst14.fin (L' := [_, _, _, _]) (.cons rfl <| .nil)
      clear hst13 hfr13 hk14
      obtain ⟨y7, hst14, hS7, hK7⟩ := zp (k := 0) hst14 rfl
      simp only [List.set_cons_zero] at hst14
      refine hK38 _ _ ?_
      refine zN ?_
      repeat (with_reducible first | refine zH ?_ | refine zG ?_)
      exact zO hst14 hfr14 rfl (.tmp rfl <| .nil) (⟨⟨y7, (hst14.take 1).loc, hS7, hK8.trans (McK.trans (y := ({ y8 with pv := po9 } : McY)) ⟨rfl, rfl, rfl, rfl, rfl⟩ hK7)⟩, rfl⟩)
     ·try simp only [nqs] at hb67
      have hrun4 := (hrun3.resolve_left (fun h => by rw [h.1] at hb67; cases hb67)).2
      refine zR ?_
      refine hK33 _ _ ?_
      refine zB fun _ hK40 => ?_
      refine rp0 hst11 hfr11 (.cons rfl (zC rfl) <| .cons rfl (zL rfl) <| .cons rfl (zA (off := 17) rfl underlying79 rfl rfl sizeOf70 rfl) <| .cons rfl (zK (j := 0) rfl rfl isAgg70 rfl) <| .cons rfl (zl rfl underlying70) <| .cons rfl (zAZ rfl rfl ⟨by omega, by omega⟩) <| .cons rfl (zD rfl) <| .nil) fun a12 w12 m12 hst12 hle12 hk12 => ?_
      have hfr12 := hk12.fr (.o 0 <| .o 10 <| .o 11 <| .o 13 <| .o 14 <| .n 15 <| .nil)
      clear hst11 hfr11 hk12
      refine hK40 _ _ ?_
      refine zB fun _ hK41 => ?_
      refine zT ?_
      refine zx (T := [(0, _), (10, _), (11, _), (13, _), (14, _)]) (fun (y : (Nat) × (Unit)) => ([(15, .int .i64 ((y.1 : Int) - 1))] : List (Nat × Value))) (fun y => [_, _, _, _]) (fun (y : (Nat) × (Unit)) m => (fun (n : Nat) (du : Unit) => (n ≤ s.frames.length) ∧ (atF k9 s.frames s.frames.length = atF k9 s.frames n)) y.1 y.2) (fun y => y.1) ((s.frames.length, ())) ⟨hst12, MLe.refl _, hfr12.sub (.c <| .c <| .c <| .c <| .c <| .c <| .nil), ⟨Nat.le_refl _, rfl⟩⟩ fun y a13 w13 m13 hh13 => ?_
      have hst13 := hh13.st; have hle13 := hh13.le; have hfr13 := hh13.fr; have hrel := hh13.rel; clear hh13
      clear hst12 hfr12
      obtain ⟨n, du⟩ := y
      dsimp only at hrel hfr13 hst13
      obtain ⟨hnl, hat⟩ := hrel
      have hlh13 := hle13
      refine zB fun _ hK43 => ?_
      refine zB fun _ hK44 => ?_
      refine rp0 hst13 hfr13 (.cons rfl (zC rfl) <| .cons rfl (zDi rfl rfl) <| .nil) fun a14 w14 m14 hst14 hle14 hk14 => ?_
      have hfr14 := hk14.fr (.o 15 <| .o 0 <| .o 10 <| .o 11 <| .o 13 <| .o 14 <| .n 103 <| .nil)
      clear hst13 hfr13 hk14
      refine hK44 _ _ ?_
      refine zE hfr14 rfl rfl (fun hb103 => ?_) (fun hb103 => ?_)
      ·try simp only [nqs] at hb103
       refine zR ?_
       refine hK43 _ _ ?_
       refine zB fun _ hK45 => ?_
       refine zT ?_
       refine zB fun _ hK46 => ?_
       refine zB fun _ hK47 => ?_
       have zq19 := hle13.trans hle14
       have zq20 := hle12.trans zq19
       have zq21 := hle11.trans zq20
       have zq22 := hle10.trans zq21
       have zq23 := zq11.trans zq22
       replace hfq := hfq.mono zq23
       obtain ⟨p48, vs48, x48, ho48, hd48, hm_x48, ht48, hcv48, hl48, hv48⟩ := hfq.nth (k := (n - 1)) (by omega)
       cases ho48
       obtain ⟨xf48, rfl, hff48⟩ := id hv48
       refine rp0 hst14 hfr14 (.cons rfl (zC rfl) <| .cons rfl (zL rfl) <| .cons rfl (zA (off := 17) rfl underlying79 rfl rfl sizeOf70 rfl) <| .cons rfl (zK (j := 0) rfl rfl isAgg70 rfl) <| .cons rfl (zC rfl) <| .cons rfl (zI (k := (n - 1)) rfl rfl underlying70 sizeOf124 (by omega) (by omega)) <| .cons rfl (zk rfl hcv48 isAgg124 rfl) <| .nil) fun a15 w15 m15 hst15 hle15 hk15 => ?_
       have hfr15 := hk15.fr (.o 15 <| .o 0 <| .o 10 <| .o 11 <| .o 13 <| .o 14 <| .n 112 <| .nil)
       clear hst14 hfr14 hk15
       refine hK47 _ _ ?_
       refine zT ?_
       refine zB fun _ hK49 => ?_
       obtain ⟨f9, hxf⟩ : ∃ f9, x48 = f9 := ⟨_, rfl⟩
       have hfn9 : s.frames[n - 1]? = some f9 := by rw [← hxf]; exact zAl hd48
       replace hff48 := hff48.mono hle15
       rw [hxf] at hff48
       have hn1 : n - 1 + 1 = n := by omega
       rcases f9 with ⟨qq, nn, c9, e7⟩ | ⟨qq, l9, e7, k8⟩ | ⟨v9, n9⟩
       ·skip
        have hq7 := hff48
        simp only [FmR] at hq7
        obtain ⟨cs9, pe7, hxe, hcc9, hee7⟩ := hq7
        subst hxe
        have hat9 := atF_b (k := k9) hfn9
        rw [hn1] at hat9
        obtain ⟨⟨oK_c9, cK_c9, oA_c9, cA_c9⟩, rfl, ⟨hik_c9, hin_c9⟩, hkk_c9, haa_c9⟩ := hcc9.open_
        dsimp only at hkk_c9 haa_c9
        have hbg_c9 := hkk_c9.big; have hcp_c9 := hkk_c9.cap; have hbh_c9 := haa_c9.big; have hcq_c9 := haa_c9.cap
        refine rp0 hst15 hfr15 (.cons rfl (zBy rfl underlying108 rfl) <| .cons rfl (zM rfl rfl) <| .cons rfl (zM rfl rfl) <| .nil) fun a16 w16 m16 hst16 hle16 hk16 => ?_
        have hfr16 := hk16.fr (.o 15 <| .o 0 <| .o 10 <| .o 11 <| .o 13 <| .o 14 <| .o 112 <| .n 114 <| .n 115 <| .nil)
        clear hst15 hfr15 hk16
        refine hK49 _ _ ?_
        refine zE hfr16 rfl rfl (fun hb114 => ?_) (fun hb114 => ?_)
        ·try simp only [nqs] at hb114
         refine zB fun _ hK50 => ?_
         replace hst16 := hst16.more (r := .free) trivial List.nodup_nil (by simp [Res.blocks])
         refine ra0 (tch := [(0, 4, (fun v => .blk v _)), (1, 4, (fun v => .blk v _))]) hst16 hfr16 (.consT rfl rfl (fun _ => rfl) rfl (zP zeroValue108 rfl) <| .consT rfl rfl (fun _ => rfl) rfl (zb 16 rfl rfl rfl fun y16 => za rfl rfl rfl rfl rfl sizeOf108 rfl rfl rfl) <| .nil) fun a17 w17 m17 hst17 hle17 hk17 => ?_
         have hfr17 := hk17.fr (.o 15 <| .o 0 <| .o 10 <| .o 11 <| .o 13 <| .o 14 <| .nil)
         obtain ⟨g16, e51, _⟩ := hk17.ex 16 rfl
         replace hfr17 := hfr17.cons e51
         replace hst17 := hst17.fin (L' := [_, _, _, _, _]) (.cons e51 <| .cons e51 <| .nil)
         try simp only [List.take_succ_cons, List.take_zero, List.drop_succ_cons, List.drop_zero, List.cons_append, List.nil_append, List.append_nil, List.length_cons, List.length_nil, Nat.zero_add, Nat.reduceAdd] at hst17
         clear hst16 hfr16 hk17
         refine hK50 _ _ ?_
         refine zB fun _ hK52 => ?_
         refine zB fun _ hK53 => ?_
         refine rp0 hst17 hfr17 (.cons rfl (zA (off := 0) rfl underlying108 rfl rfl sizeOf4 rfl) <| .cons rfl (zK (j := 4) rfl rfl isAgg4 rfl) <| .nil) fun a18 w18 m18 hst18 hle18 hk18 => ?_
         have hfr18 := hk18.fr (.o 15 <| .o 0 <| .o 10 <| .o 11 <| .o 13 <| .o 14 <| .n 117 <| .nil)
         clear hst17 hfr17 hk18
         refine hK53 _ _ ?_
         refine zE hfr18 rfl rfl (fun hb117 => ?_) (fun hb117 => ?_)
         ·try simp only [nqs] at hb117
          subst hb117
          obtain ⟨-, rfl, rfl⟩ := hrun4.resolve_right (fun ⟨n, y, ys, h1, _⟩ => by rw [hat, hat9] at h1; cases h1)
          refine zB fun _ hK54 => ?_
          refine rp0 hst18 hfr18 (.cons rfl (zD rfl) <| .nil) fun a19 w19 m19 hst19 hle19 hk19 => ?_
          have hfr19 := hk19.fr (.o 15 <| .n 6 <| .nil)
          clear hst18 hfr18 hk19
          refine hK54 _ _ ?_
          refine zN ?_
          repeat (with_reducible first | refine zH ?_ | refine zG ?_)
          have zq24 := hle18.trans hle19
          have zq25 := hle17.trans zq24
          have zq26 := hle16.trans zq25
          have zq27 := hle15.trans zq26
          have zq28 := zq23.trans zq27
          replace hS := hS.mono zq28
          exact zO hst19 hfr19 rfl (.tmp rfl <| .nil) (⟨⟨(⟨yc, pe, yv, pv, _, fc, co, cc, io, ic, mo, to, tc⟩ : McY), (hst19.take 1).loc, hS, McK.refl _⟩, rfl⟩)
         ·try simp only [nqs] at hb117
          subst hb117
          have hst9 := hat9
          simp only [Bool.false_eq_true, if_false] at hst9
          refine zR ?_
          refine hK52 _ _ ?_
          refine zv ?_
          refine hK45 _ _ ?_
          refine rp0 hst18 hfr18 (.cons rfl (zC rfl) <| .cons rfl (zAZ rfl rfl ⟨by omega, by omega⟩) <| .cons rfl (zD rfl) <| .nil) fun a19 w19 m19 hst19 hle19 hk19 => ?_
          have hfr19 := hk19.fr (.o 0 <| .o 10 <| .o 11 <| .o 13 <| .o 14 <| .n 15 <| .nil)
          clear hst18 hfr18 hk19
          rw [show (n : Int) - 1 - 1 = ((n - 1 : Nat) : Int) - 1 by omega] at hfr19
          have hst19 := hst19.take 4
          have zq29 := hle18.trans hle19
          have zq30 := hle17.trans zq29
          have zq31 := hle16.trans zq30
          have zq32 := hle15.trans zq31
          have zq33 := hle14.trans zq32
          have hlh19 := hlh13.trans zq33
          exact ⟨((n - 1), du), m19, by show n - 1 < n; omega, ⟨hst19, hlh19, hfr19.sub (.c <| .c <| .c <| .c <| .c <| .c <| .nil), ⟨by show n - 1 ≤ s.frames.length; omega, by rw [hat]; exact hst9⟩⟩⟩
        ·simp at hb114
       ·skip
        have hq7 := hff48
        simp only [FmR] at hq7
        obtain ⟨oa7, ca7, pe7, hxe, hki7, hla7, hee7⟩ := hq7
        subst hxe
        have hat9 := atF_p (k := k9) hfn9
        rw [hn1] at hat9
        refine rp0 hst15 hfr15 (.cons rfl (zAg rfl underlying108 rfl rfl zeroValue108) <| .cons rfl (zM rfl rfl) <| .cons rfl (zM rfl rfl) <| .nil) fun a16 w16 m16 hst16 hle16 hk16 => ?_
        have hfr16 := hk16.fr (.o 15 <| .o 0 <| .o 10 <| .o 11 <| .o 13 <| .o 14 <| .o 112 <| .n 114 <| .n 115 <| .nil)
        clear hst15 hfr15 hk16
        refine hK49 _ _ ?_
        refine zE hfr16 rfl rfl (fun hb114 => ?_) (fun hb114 => ?_)
        ·simp at hb114
        ·try simp only [nqs] at hb114
         refine zB fun _ hK56 => ?_
         refine rp0 hst16 hfr16 (.cons rfl (zBy rfl underlying127 rfl) <| .cons rfl (zM rfl rfl) <| .cons rfl (zM rfl rfl) <| .nil) fun a17 w17 m17 hst17 hle17 hk17 => ?_
         have hfr17 := hk17.fr (.o 15 <| .o 0 <| .o 10 <| .o 11 <| .o 13 <| .o 14 <| .o 112 <| .n 119 <| .n 120 <| .nil)
         clear hst16 hfr16 hk17
         refine hK56 _ _ ?_
         refine zE hfr17 rfl rfl (fun hb119 => ?_) (fun hb119 => ?_)
         ·try simp only [nqs] at hb119
          refine zB fun _ hK57 => ?_
          replace hst17 := hst17.more (r := .free) trivial List.nodup_nil (by simp [Res.blocks])
          refine ra0 (tch := [(0, 4, (fun v => .blk v _)), (1, 4, (fun v => .blk v _))]) hst17 hfr17 (.consT rfl rfl (fun _ => rfl) rfl (zP zeroValue127 rfl) <| .consT rfl rfl (fun _ => rfl) rfl (zb 17 rfl rfl rfl fun y17 => za rfl rfl rfl rfl rfl sizeOf127 rfl rfl rfl) <| .nil) fun a18 w18 m18 hst18 hle18 hk18 => ?_
          have hfr18 := hk18.fr (.o 15 <| .o 0 <| .o 10 <| .o 11 <| .o 13 <| .o 14 <| .nil)
          obtain ⟨g17, e58, _⟩ := hk18.ex 17 rfl
          replace hfr18 := hfr18.cons e58
          replace hst18 := hst18.fin (L' := [_, _, _, _, _]) (.cons e58 <| .cons e58 <| .nil)
          try simp only [List.take_succ_cons, List.take_zero, List.drop_succ_cons, List.drop_zero, List.cons_append, List.nil_append, List.append_nil, List.length_cons, List.length_nil, Nat.zero_add, Nat.reduceAdd] at hst18
          clear hst17 hfr17 hk18
          refine hK57 _ _ ?_
          refine zB fun _ hK59 => ?_
          refine rp0 hst18 hfr18 (.cons rfl (zA (off := 3) rfl underlying127 rfl rfl sizeOf3 rfl) <| .cons rfl (zK (j := 4) rfl rfl isAgg3 rfl) <| .cons rfl (zC rfl) <| .cons rfl (Zs rfl rfl) <| .nil) fun a19 w19 m19 hst19 hle19 hk19 => ?_
          have hfr19 := hk19.fr (.o 15 <| .o 0 <| .o 10 <| .o 11 <| .o 13 <| .o 14 <| .n 124 <| .nil)
          clear hst18 hfr18 hk19
          refine hK59 _ _ ?_
          refine zE hfr19 rfl rfl (fun hb124 => ?_) (fun hb124 => ?_)
          ·try simp only [nqs] at hb124
           have hst9 := hat9
           rw [if_neg hb124] at hst9
           refine zv ?_
           refine hK45 _ _ ?_
           refine rp0 hst19 hfr19 (.cons rfl (zC rfl) <| .cons rfl (zAZ rfl rfl ⟨by omega, by omega⟩) <| .cons rfl (zD rfl) <| .nil) fun a20 w20 m20 hst20 hle20 hk20 => ?_
           have hfr20 := hk20.fr (.o 0 <| .o 10 <| .o 11 <| .o 13 <| .o 14 <| .n 15 <| .nil)
           clear hst19 hfr19 hk20
           rw [show (n : Int) - 1 - 1 = ((n - 1 : Nat) : Int) - 1 by omega] at hfr20
           have hst20 := hst20.take 4
           have zq34 := hle19.trans hle20
           have zq35 := hle18.trans zq34
           have zq36 := hle17.trans zq35
           have zq37 := hle16.trans zq36
           have zq38 := hle15.trans zq37
           have zq39 := hle14.trans zq38
           have hlh20 := hlh13.trans zq39
           exact ⟨((n - 1), du), m20, by show n - 1 < n; omega, ⟨hst20, hlh20, hfr20.sub (.c <| .c <| .c <| .c <| .c <| .c <| .nil), ⟨by show n - 1 ≤ s.frames.length; omega, by rw [hat]; exact hst9⟩⟩⟩
          ·try simp only [nqs] at hb124
           have hk78 : k8 = k9 := by simpa using hb124
           rw [if_pos hk78] at hat9
           obtain ⟨n7, y8z, ys7, hn7, hxs7, rfl, rfl⟩ := hrun4.resolve_left (fun h => by rw [hat, hat9] at h; cases h.1)
           obtain rfl : n - 1 = n7 := by rw [hat, hat9] at hn7; injection hn7
           subst hxs7
           have hnl1 : n - 1 < s.frames.length := by omega
           have hvl8 : x28.vars.length = ys7.length + 2 := by rw [hvs8]; rfl
           refine zR ?_
           refine hK46 _ _ ?_
           refine zv ?_
           refine hK41 _ _ ?_
           refine zB fun _ hK60 => ?_
           refine zB fun _ hK61 => ?_
           refine rp0 hst19 hfr19 (.cons rfl (zC rfl) <| .cons rfl (ZA rfl rfl) <| .nil) fun a20 w20 m20 hst20 hle20 hk20 => ?_
           have hfr20 := hk20.fr (.o 15 <| .o 0 <| .o 11 <| .o 13 <| .o 14 <| .n 126 <| .nil)
           clear hst19 hfr19 hk20
           refine hK61 _ _ ?_
           refine zE hfr20 rfl rfl (fun hb126 => ?_) (fun hb126 => ?_)
           ·simp only [nq3] at hb126; omega
           ·try simp only [nqs] at hb126
            refine zR ?_
            refine hK60 _ _ ?_
            refine zB fun _ hK62 => ?_
            have zq40 := hle19.trans hle20
            have zq41 := hle18.trans zq40
            have zq42 := hle17.trans zq41
            have zq43 := hle16.trans zq42
            have zq44 := hle15.trans zq43
            replace hfq := hfq.mono zq44
            have hct63 : Fms _ _ _ _ ((s.frames.take (s.frames.length)).drop ((n - 1))) := hfq.cut (l := (n - 1)) (k := s.frames.length) (by omega) (by omega)
            have hcl63 : (s.frames.length) - ((n - 1)) = (((s.frames.take (s.frames.length)).drop ((n - 1)))).length := hct63.len.symm
            have hcu63 : Fms _ _ _ _ ((s.frames.take (s.frames.length)).drop ((n - 1))) := hct63.lenL
            refine ra0 (tch := []) hst20 hfr20 (.cons rfl (zC rfl) <| .cons rfl (zL rfl) <| .cons rfl (zA (off := 17) rfl underlying79 rfl rfl sizeOf70 rfl) <| .cons rfl (zK (j := 0) rfl rfl isAgg70 rfl) <| .cons rfl (zC rfl) <| .cons rfl (zAW (l := (n - 1)) (h := s.frames.length) rfl (.some rfl (by omega)) .none underlying70 sizeOf124 (by first | omega | (dsimp only; omega)) (by first | omega | (dsimp only; omega))) <| .cons rfl (zm (φ := MP.fms ((s.frames.take s.frames.length).drop (n - 1))) rfl (.cons rfl <| .nil) call71 (fun w m hK => by have hle_ := KC.le hK; have hA := KC.agree hK; have hcu63 := hcu63.mono hle_; exact FnG.mono ((by rw [hcl63]; exact cloneFm_c hA hcu63 (by simp; omega))) fun _ _ _ _ h => h)) <| .consA 133 rfl rfl <| .nil) fun a21 w21 m21 hst21 hle21 hk21 => ?_
            have hfr21 := hk21.fr (.o 15 <| .o 0 <| .o 11 <| .o 13 <| .o 14 <| .nil)
            obtain ⟨⟨ok9, ck9⟩, e64, hkf9⟩ := hk21.ex 133 rfl
            replace hfr21 := hfr21.cons (hk21.same 19 rfl e64)
            clear hst20 hfr20 hk21
            have htk9 : (s.frames.take s.frames.length).drop (n - 1) = s.frames.drop (n - 1) := by rw [List.take_length]
            dsimp only [MP.fms, MP.mem] at hfr21 hkf9
            rw [htk9] at hfr21 hkf9
            have hkn8 : s.frames.drop (n - 1) ≠ [] := fun h => by have h9 := congrArg List.length h; simp at h9; omega
            refine hK62 _ _ ?_
            refine zB fun _ hK65 => ?_
            replace hfq := hfq.mono hle21
            have hct66 : Fms _ _ _ _ ((s.frames.take ((n - 1))).drop (0)) := hfq.cut (l := 0) (k := (n - 1)) (by omega) (by omega)
            have hcl66 : ((n - 1)) - (0) = (((s.frames.take ((n - 1))).drop (0))).length := hct66.len.symm
            have hcu66 : Fms _ _ _ _ ((s.frames.take ((n - 1))).drop (0)) := hct66.lenL
            refine ra0 (tch := [(10, 0, (fun _ => .blk _ _))]) hst21 hfr21 (.cons rfl (zC rfl) <| .cons rfl (zC rfl) <| .cons rfl (zL rfl) <| .cons rfl (zA (off := 17) rfl underlying79 rfl rfl sizeOf70 rfl) <| .cons rfl (zK (j := 0) rfl rfl isAgg70 rfl) <| .cons rfl (zC rfl) <| .cons rfl (zAW (l := 0) (h := (n - 1)) rfl .none (.some rfl (by omega)) underlying70 sizeOf124 (by first | omega | (dsimp only; omega)) (by first | omega | (dsimp only; omega))) <| .cons rfl (zX rfl (.cons rfl <| .nil) call55 (fun w m hK => by have hle_ := KC.le hK; have hA := KC.agree hK; exact clip_c (n := n - 1) hA (by omega) (by omega))) <| .cons rfl (zL rfl) <| .cons rfl (zA (off := 17) rfl underlying79 rfl rfl sizeOf70 rfl) <| .consT rfl rfl (fun _ => rfl) rfl (z1 rfl rfl rfl sizeOf70 rfl rfl rfl) <| .nil) fun a22 w22 m22 hst22 hle22 hk22 => ?_
            have hfr22 := hk22.fr (.o 15 <| .o 0 <| .o 11 <| .o 13 <| .o 14 <| .o 19 <| .nil)
            replace hst22 := hst22.fin (L' := [_, _, _, _, _]) (.cons rfl <| .nil)
            try simp only [List.take_succ_cons, List.take_zero, List.drop_succ_cons, List.drop_zero, List.cons_append, List.nil_append, List.append_nil, List.length_cons, List.length_nil, Nat.zero_add, Nat.reduceAdd] at hst22
            clear hst21 hfr21 hk22
            obtain ⟨fr, hfr9⟩ : ∃ fr, s.frames.take (n - 1) = fr := ⟨_, rfl⟩
            have hfrl : n - 1 = fr.length := by rw [← hfr9]; simp; omega
            replace hcu66 := hcu66.mono hle22
            have hF0 : Fms m22 (if fc = 0 then (some p48 : Option Addr) else (some p48).map (fun x : Addr => x.add (0 * 1))) ((s.frames.take (n - 1)).drop 0).length _ ((s.frames.take (n - 1)).drop 0) := hcu66
            have hF2 : Fms m22 (if fc = 0 then (some p48 : Option Addr) else (some p48).map (fun x : Addr => x.add (0 * 1))) fr.length fr.length fr := by rw [List.drop_zero, hfr9] at hF0; exact ⟨rfl, Nat.le_refl _, hF0.big, hF0.at_⟩
            rw [hfrl] at hst22
            refine hK65 _ _ ?_
            refine zB fun _ hK67 => ?_
            refine ra0 (tch := [(5, 0, (fun _ => .blk _ _))]) hst22 hfr22 (.cons rfl (zC rfl) <| .cons rfl (zh (j := 2) rfl rfl isAgg75 sizeOf75 rfl) <| .cons rfl (zL rfl) <| .cons rfl (zA (off := 0) rfl underlying79 rfl rfl sizeOf77 rfl) <| .cons rfl (zA (off := 15) rfl underlying77 rfl rfl sizeOf75 rfl) <| .consT rfl rfl (fun _ => rfl) rfl (z1 (k := 15) rfl rfl rfl sizeOf75 rfl rfl rfl) <| .nil) fun a23 w23 m23 hst23 hle23 hk23 => ?_
            have hfr23 := hk23.fr (.o 15 <| .o 0 <| .o 13 <| .o 14 <| .o 19 <| .nil)
            replace hst23 := hst23.fin (L' := [_, _, _, _, _]) (.cons rfl <| .nil)
            try simp only [List.take_succ_cons, List.take_zero, List.drop_succ_cons, List.drop_zero, List.cons_append, List.nil_append, List.append_nil, List.length_cons, List.length_nil, Nat.zero_add, Nat.reduceAdd] at hst23
            clear hst22 hfr22 hk23
            refine hK67 _ _ ?_
            refine zB fun _ hK68 => ?_
            refine ra0 (tch := [(9, 0, (fun _ => .blk _ _))]) hst23 hfr23 (.cons rfl (zC rfl) <| .cons rfl (zL rfl) <| .cons rfl (zA (off := 21) rfl underlying79 rfl rfl sizeOf35 rfl) <| .cons rfl (zA (off := 7) rfl underlying35 rfl rfl sizeOf3 rfl) <| .cons rfl (zK (k := 28) (j := 0) rfl rfl isAgg3 rfl) <| .cons rfl (z6 rfl rfl ⟨by omega, by omega⟩) <| .cons rfl (zL rfl) <| .cons rfl (zA (off := 21) rfl underlying79 rfl rfl sizeOf35 rfl) <| .cons rfl (zA (off := 7) rfl underlying35 rfl rfl sizeOf3 rfl) <| .consT rfl rfl (fun _ => rfl) rfl (z1 (k := 28) rfl rfl rfl sizeOf3 rfl rfl rfl) <| .nil) fun a24 w24 m24 hst24 hle24 hk24 => ?_
            have hfr24 := hk24.fr (.o 15 <| .o 0 <| .o 13 <| .o 14 <| .o 19 <| .nil)
            replace hst24 := hst24.fin (L' := [_, _, _, _, _]) (.cons rfl <| .nil)
            try simp only [List.take_succ_cons, List.take_zero, List.drop_succ_cons, List.drop_zero, List.cons_append, List.nil_append, List.append_nil, List.length_cons, List.length_nil, Nat.zero_add, Nat.reduceAdd] at hst24
            clear hst23 hfr23 hk24
            have zq45 := hle23.trans hle24
            have zq46 := hle22.trans zq45
            have zq47 := hle21.trans zq46
            have zq48 := zq44.trans zq47
            have zq49 := zq23.trans zq48
            replace hS := hS.mono zq49
            have zq50 := zq22.trans zq48
            have zq51 := zq12.trans zq50
            replace hoo9 := hoo9.mono zq51
            replace hF2 := hF2.mono zq45
            have hS9 : McR m24 ({ s with frames := fr, ev := o9, konts := s.konts + 1 } : Mc) ⟨yc, pe, yv, po9, (if fc = 0 then (some p48 : Option Addr) else (some p48).map (fun x : Addr => x.add (0 * 1))), fr.length, co, cc, io, ic, mo, to, tc⟩ := ⟨hS.c, hS.e, hS.v, hoo9, hF2, hS.inp, hS.next, hS.kind, hS.eff, hS.steps, ⟨by show (-9223372036854775808 : Int) ≤ s.konts + 1; omega, by show s.konts + 1 ≤ (9223372036854775807 : Int); omega⟩, hS.tr⟩
            refine hK68 _ _ ?_
            refine zB fun _ hK69 => ?_
            replace hva28 := hva28.mono zq50
            obtain ⟨p70, vs70, x70, ho70, hd70, hm_x70, ht70, hcv70, hl70, hv70⟩ := hva28.nth (k := 1) (by omega)
            cases ho70
            subst hv70
            have hxy7 : x70 = y8z := by have h9 := hd70; rw [hvs8] at h9; simp at h9; exact h9.symm
            subst hxy7
            replace hvk_v := hvk_v.mono zq49
            replace hcl_v := hcl_v.mono zq49
            replace hfm_v := hfm_v.mono zq49
            replace hef := hef.mono zq49
            replace hM := hM.trans zq49
            have zq52 := zq10.trans zq50
            replace hc4 := hc4.mono zq52
            replace hct22 := hct22.mono zq52
            replace hcu22 := hcu22.mono zq52
            have zq53 := hle9.trans zq50
            replace hla9 := hla9.mono zq53
            replace hcv28 := hcv28.mono zq53
            replace hv28 := hv28.mono zq53
            replace hbd28 := hbd28.mono zq53
            replace hkk28b := hkk28b.mono zq53
            replace haa28b := haa28b.mono zq53
            replace h_v := h_v.mono zq50
            replace hc5 := hc5.mono zq50
            replace hee9 := hee9.mono zq50
            replace hcv31 := hcv31.mono zq50
            have zq54 := zq21.trans zq48
            replace he8 := he8.mono zq54
            replace hcv48 := hcv48.mono zq48
            replace hv48 := hv48.mono zq48
            have zq55 := zq43.trans zq47
            replace hff48 := hff48.mono zq55
            replace hla7 := hla7.mono zq55
            replace hee7 := hee7.mono zq55
            replace hct63 := hct63.mono zq47
            replace hcu63 := hcu63.mono zq47
            replace hfq := hfq.mono zq46
            replace hkf9 := hkf9.mono zq46
            replace hct66 := hct66.mono zq46
            replace hcu66 := hcu66.mono zq45
            refine zc (tch := [(12, 0, (fun _ => MK g (({ s with frames := fr, ev := o9, konts := s.konts + 1 } : Mc).goes x28.body (.cons x70 (zCn (s.frames.drop (n - 1))) (.cons x31 v e9))) ⟨yc, pe, yv, po9, (if fc = 0 then (some p48 : Option Addr) else (some p48).map (fun x : Addr => x.add (0 * 1))), fr.length, co, cc, io, ic, mo, to, tc⟩))]) (fun _ => zw) hst24 hfr24 (by kernel_rfl) (by kernel_rfl) (by kernel_rfl) (.cons rfl (zC rfl) <| .cons rfl (zA (off := 3) rfl underlying47 rfl rfl sizeOf25 rfl) <| .cons rfl (zz (j := 3) rfl rfl isAgg25 sizeOf25 rfl rfl) <| .cons rfl (zC rfl) <| .cons rfl (zA (off := 1) rfl underlying47 rfl rfl sizeOf45 rfl) <| .cons rfl (zK (j := 3) rfl rfl isAgg45 rfl) <| .cons rfl (zI (k := 1) rfl rfl underlying45 sizeOf9 rfl (by omega)) <| .cons rfl (zk rfl hcv70 isAgg9 rfl) <| .cons rfl (zQ (.cons rfl <| .nil) underlying31 zeroValue31 (.cons sizeOf3 <| .cons sizeOf3 <| .cons sizeOf9 <| .cons sizeOf29 <| .nil) rfl) <| .cons rfl (zC rfl) <| .cons rfl (zQ (.cons rfl <| .cons rfl <| .nil) underlying72 zeroValue72 (.cons sizeOf31 <| .cons sizeOf68 <| .cons sizeOf69 <| .cons sizeOf70 <| .nil) rfl) <| .cons rfl (zm (φ := MP.env (.cons x70 (zCn (s.frames.drop (n - 1))) (.cons x31 v e9))) rfl (.cons rfl <| .cons rfl <| .cons rfl <| .nil) call46 (fun w m hK => by have hle_ := KC.le hK; have hA := KC.agree hK; have he8 := he8.mono hle_; have hkf9 := hkf9.mono hle_; exact FnG.mono (zBY (s := x70) (x := (zCn (s.frames.drop (n - 1)))) hA he8 (VlR.kont hkf9 hkn8)) fun _ _ _ _ h => h)) <| .consT rfl rfl (fun _ => rfl) rfl (zb 169 rfl rfl rfl fun y169 => zj rfl (.cons rfl <| .cons rfl <| .cons rfl <| .nil) call31 (κ := .eq (.bool true)) (fun σ w m hK hr hkn => by have hle_ := KC.le hK; have hA := KC.agree hK; have hM := hM.trans hle_; have hr0_ := hK.2; have hS := hS.mono hle_; have h_v := h_v.mono hle_; have hvk_v := hvk_v.mono hle_; have hcl_v := hcl_v.mono hle_; have hfm_v := hfm_v.mono hle_; have hef := hef.mono hle_; have hfq := hfq.mono hle_; have hc4 := hc4.mono hle_; have hc5 := hc5.mono hle_; have hla9 := hla9.mono hle_; have hee9 := hee9.mono hle_; have hoo9 := hoo9.mono hle_; have hct22 := hct22.mono hle_; have hcu22 := hcu22.mono hle_; have hcv28 := hcv28.mono hle_; have hv28 := hv28.mono hle_; have hva28 := hva28.mono hle_; have hbd28 := hbd28.mono hle_; have hkk28b := hkk28b.mono hle_; have haa28b := haa28b.mono hle_; have hcv31 := hcv31.mono hle_; have he8 := he8.mono hle_; have hcv48 := hcv48.mono hle_; have hv48 := hv48.mono hle_; have hff48 := hff48.mono hle_; have hla7 := hla7.mono hle_; have hee7 := hee7.mono hle_; have hct63 := hct63.mono hle_; have hcu63 := hcu63.mono hle_; have hkf9 := hkf9.mono hle_; have hct66 := hct66.mono hle_; have hcu66 := hcu66.mono hle_; have hF2 := hF2.mono hle_; have hS9 := hS9.mono hle_; have hcv70 := hcv70.mono hle_; exact Zy (s := ({ s with frames := fr, ev := o9, konts := s.konts + 1 } : Mc)) (zAQ (s := ({ s with frames := fr, ev := o9, konts := s.konts + 1 } : Mc)) (y := ⟨yc, pe, yv, po9, (if fc = 0 then (some p48 : Option Addr) else (some p48).map (fun x : Addr => x.add (0 * 1))), fr.length, co, cc, io, ic, mo, to, tc⟩) hA hr hS9 hbd28 hr0_))) <| .cons rfl (zD rfl) <| .nil) fun a25 w25 m25 hst25 hle25 hk25 => ?_
            have hfr25 := hk25.fr (.o 15 <| .n 6 <| .nil)
            replace hst25 := hst25.fin (L' := [_, _, _, _, _]) (.cons rfl <| .nil)
            clear hst24 hfr24 hk25
            obtain ⟨y7, hst25, hS7, hK7⟩ := zp (k := 0) hst25 rfl
            simp only [List.set_cons_zero] at hst25
            refine hK69 _ _ ?_
            refine zN ?_
            repeat (with_reducible first | refine zH ?_ | refine zG ?_)
            exact zO hst25 hfr25 rfl (.tmp rfl <| .nil) (by rw [hfr9]; exact ⟨⟨y7, (hst25.take 1).loc, hS7, ⟨hK7.co, hK7.cc, hK7.mo, hK7.to, hK7.tc⟩⟩, rfl⟩)
         ·simp at hb119
       ·skip
        have hq7 := hff48
        simp only [FmR] at hq7
        obtain ⟨p9, hxe, hni9, hev9⟩ := hq7
        subst hxe
        have hat9 := atF_r (k := k9) hfn9
        rw [hn1] at hat9
        have hst9 := hat9
        refine rp0 hst15 hfr15 (.cons rfl (zAg rfl underlying108 rfl rfl zeroValue108) <| .cons rfl (zM rfl rfl) <| .cons rfl (zM rfl rfl) <| .nil) fun a16 w16 m16 hst16 hle16 hk16 => ?_
        have hfr16 := hk16.fr (.o 15 <| .o 0 <| .o 10 <| .o 11 <| .o 13 <| .o 14 <| .o 112 <| .n 114 <| .n 115 <| .nil)
        clear hst15 hfr15 hk16
        refine hK49 _ _ ?_
        refine zE hfr16 rfl rfl (fun hb114 => ?_) (fun hb114 => ?_)
        ·simp at hb114
        ·try simp only [nqs] at hb114
         refine zB fun _ hK72 => ?_
         refine rp0 hst16 hfr16 (.cons rfl (zAg rfl underlying127 rfl rfl zeroValue127) <| .cons rfl (zM rfl rfl) <| .cons rfl (zM rfl rfl) <| .nil) fun a17 w17 m17 hst17 hle17 hk17 => ?_
         have hfr17 := hk17.fr (.o 15 <| .o 0 <| .o 10 <| .o 11 <| .o 13 <| .o 14 <| .o 112 <| .n 119 <| .n 120 <| .nil)
         clear hst16 hfr16 hk17
         refine hK72 _ _ ?_
         refine zE hfr17 rfl rfl (fun hb119 => ?_) (fun hb119 => ?_)
         ·simp at hb119
         ·try simp only [nqs] at hb119
          refine zB fun _ hK73 => ?_
          refine rp0 hst17 hfr17 (.cons rfl (zD rfl) <| .nil) fun a18 w18 m18 hst18 hle18 hk18 => ?_
          have hfr18 := hk18.fr (.o 15 <| .o 0 <| .o 10 <| .o 11 <| .o 13 <| .o 14 <| .nil)
          clear hst17 hfr17 hk18
          refine hK73 _ _ ?_
          refine zv ?_
          refine hK45 _ _ ?_
          refine rp0 hst18 hfr18 (.cons rfl (zC rfl) <| .cons rfl (zAZ rfl rfl ⟨by omega, by omega⟩) <| .cons rfl (zD rfl) <| .nil) fun a19 w19 m19 hst19 hle19 hk19 => ?_
          have hfr19 := hk19.fr (.o 0 <| .o 10 <| .o 11 <| .o 13 <| .o 14 <| .n 15 <| .nil)
          clear hst18 hfr18 hk19
          rw [show (n : Int) - 1 - 1 = ((n - 1 : Nat) : Int) - 1 by omega] at hfr19
          have zq56 := hle18.trans hle19
          have zq57 := hle17.trans zq56
          have zq58 := hle16.trans zq57
          have zq59 := hle15.trans zq58
          have zq60 := hle14.trans zq59
          have hlh19 := hlh13.trans zq60
          exact ⟨((n - 1), du), m19, by show n - 1 < n; omega, ⟨hst19, hlh19, hfr19.sub (.c <| .c <| .c <| .c <| .c <| .c <| .nil), ⟨by show n - 1 ≤ s.frames.length; omega, by rw [hat]; exact hst9⟩⟩⟩
      ·try simp only [nqs] at hb103
       obtain rfl : n = 0 := by omega
       obtain ⟨-, rfl, rfl⟩ := hrun4.resolve_right (fun ⟨n, y, ys, h1, _⟩ => by rw [hat] at h1; cases h1)
       refine zv ?_
       refine hK41 _ _ ?_
       refine zB fun _ hK74 => ?_
       refine zB fun _ hK75 => ?_
       refine rp0 hst14 hfr14 (.cons rfl (zC rfl) <| .cons rfl (ZA rfl rfl) <| .nil) fun a15 w15 m15 hst15 hle15 hk15 => ?_
       have hfr15 := hk15.fr (.o 15 <| .o 0 <| .o 11 <| .o 13 <| .o 14 <| .n 126 <| .nil)
       clear hst14 hfr14 hk15
       refine hK75 _ _ ?_
       refine zE hfr15 rfl rfl (fun hb126 => ?_) (fun hb126 => ?_)
       ·try simp only [nqs] at hb126
        refine zB fun _ hK76 => ?_
        refine rp0 hst15 hfr15 (.cons rfl (zD rfl) <| .nil) fun a16 w16 m16 hst16 hle16 hk16 => ?_
        have hfr16 := hk16.fr (.o 15 <| .n 6 <| .nil)
        clear hst15 hfr15 hk16
        refine hK76 _ _ ?_
        refine zN ?_
        repeat (with_reducible first | refine zH ?_ | refine zG ?_)
        have zq61 := hle15.trans hle16
        have zq62 := hle14.trans zq61
        have zq63 := hle13.trans zq62
        have zq64 := hle12.trans zq63
        have zq65 := hle11.trans zq64
        have zq66 := hle10.trans zq65
        have zq67 := zq11.trans zq66
        replace hS := hS.mono zq67
        exact zO hst16 hfr16 rfl (.tmp rfl <| .nil) (⟨⟨(⟨yc, pe, yv, pv, _, fc, co, cc, io, ic, mo, to, tc⟩ : McY), (hst16.take 1).loc, hS, McK.refl _⟩, rfl⟩)
       ·first | omega | (simp at hb126; done) | (exact absurd hb126 (by decide)) | (exact absurd (by decide) hb126)
end Go.Proofs.Ytnppknioifgdfaa
namespace Go.Proofs.Ytnppknioifgdfaa
set_option linter.all false
open Go.RowKit
def MP.rowN (n : Nat) : MP := MP.mem (fun y : Nat × Nat => .slice (some ⟨y.1, 0, none⟩) n y.2) (fun y _ => n ≤ y.2 ∧ y.2 ≤ maxLen) fun _ h => h
def rowAdr (k : Nat) : Value → Value
 | .slice (some p) _ _ => .pointer (some (p.add k))
 | _ => undef
section
variable {P : Program} {K : World → Mem → Prop} {m0 : Mem} {L : List Res} {us : List Nat} {ch : List (Nat × Bool)} {pre : List Ent} {T : List (Nat × Value)}
variable {dst : Option Nat} {ty : TypeId} {pos : String} {af : Array Edge} {gd : Option (Nat × Bool)}
variable {α : Type} {R : Mem → List Value → α → Prop} [hR : RepR R]
theorem mrowx_new {w : World} {m : Mem} {e : TypeId} {sz : Nat} : (Res.mrowx (.slice none 0 0) 0 sz e (MP.reads R sz [])).holds w m := ⟨[], ⟨by simp, none, 0, rfl, Nat.le_refl _, Nat.zero_le _, .inl rfl⟩, MP.reads_p.2 Reads.nil⟩
theorem Reads.one_ {m : Mem} {vs : List Value} {x : α} {sz : Nat} (h : R m vs x) (hl : vs.length = sz) : Reads R sz m vs [x] := ⟨by simp [hl], fun i y hy => by
 cases i with
 | zero => simp only [List.getElem?_cons_zero, Option.some.injEq] at hy; subst hy; rw [Nat.zero_mul, List.drop_zero, List.take_of_length_le (by omega)]; exact h
 | succ i => simp at hy, hR.one h⟩
theorem zFG {ws vs : List Value} (h : ws.length = vs.length) : splice 0 ws vs = ws := by unfold splice; rw [List.take_zero, Nat.zero_add, List.drop_of_length_le (by omega)]; simp
theorem ob_appendMX [hK : KC K m0 L] {d : Nat} {t e : TypeId} {i : TypeInfo} {z v : Value} {size bytes n k c : Nat} {A : Option Addr} {l l' : List α} {news : List Value} {x y : Operand} (hv : ev us ch pre T x = some v) (hy : ev us ch pre T y = some (.slice A k c))
  (ht : P.underlying t = some (.slice e)) (hi : P.info? e = some i) (hz : i.zero = some z) (hsize : i.size = size) (hby : i.bytes = bytes) (hzs : z.cells.size = size)
  (hx : ∀ w m, K w m → RowAt m A news ∧ Reads R size m news l') (hl : news.length = k * size) (hsz : 0 < size) (hk : 0 < k) (h63 : n + k ≤ maxLen) (hbytes : (n + k) * bytes ≤ 140737488355328) :
  ObT P K us ch pre T (fun _ => .mrowx v n size e (MP.reads R size l)) (fun v' => .mrowx v' (n + k) size e (MP.reads R size (l ++ l'))) ⟨some d, .call { callee := .builtin .append, args := #[x, y], argTypes := #[t, t] }, ty, pos, af, gd⟩ (.ex (MP.rowN (n + k))) := fun σ w m hk' hr hn => by
 obtain ⟨olds, hr, hp⟩ := hr
 obtain ⟨hra, hrd⟩ := hx w m hk'
 obtain ⟨o, cap, w', hrun, ht', hle⟩ := append_touchW (P := P) (ty := ty) (c := c) ht hi hz hsize hby hzs (hK.agree hk') (v := v) (n := n) (olds := olds) hr hra hl hsz hk (fun u hu => List.all_eq_true.1 hrd.one u hu) h63 hbytes
 have hr2 : (execOp (zy σ) ⟨some d, .call { callee := .builtin .append, args := #[x, y], argTypes := #[t, t] }, ty, pos, af, gd⟩).run P w = .ok (.value (.slice o (n + k) cap)) w' := by
  simp only [execOp, resolve, List.map_toArray, List.map_cons, List.map_nil, hn.ev hv, hn.ev hy, Sem.run_bind, Sem.run_pure, Result.andThen_ok, invoke, builtin]
  rw [hrun]; rfl
 unfold Does; rw [hr2]
 have hnow := ht'.now
 obtain ⟨h1, o', cap', he, h2, h3, h4⟩ := hnow
 injection he with e1 _ e2; subst e1; subst e2
 refine ⟨m, ⟨ht'.ext, ⟨_, ht'.now, MP.reads_p.2 ((MP.reads_p.1 hp).app hrd)⟩, ht'.nodup, ht'.where_⟩, ?_⟩
 rcases h4 with h4 | ⟨g, cur, e3, _⟩
 ·omega
 ·subst e3; exact ⟨(g, cap), rfl, h2, h3⟩
theorem makes_index {l : List Oper} {d b : Nat} {t e : TypeId} {y : Operand} {n k sz : Nat} {ik : IntKind} {i : Int} (hf : find pre b = some (none, .val (.ex (MP.rowN n)))) (hu : has (Zc l ⟨some d, .indexAddr t (.tmp b) y, ty, pos, af, none⟩) b = true)
  (hy : ev (Zc l ⟨some d, .indexAddr t (.tmp b) y, ty, pos, af, none⟩) (ZI l 12 none) pre T y = some (.int ik i)) (ht : P.underlying t = some (.slice e)) (hz : ∀ w, (sizeOf e).run P w = .ok sz w) (hi : i = (k : Int)) (hk : k < n) :
  zCy P l pre T ⟨some d, .indexAddr t (.tmp b) y, ty, pos, af, none⟩ b (rowAdr (k * sz)) := fun σ w m hn => by
 obtain ⟨q, e1, h1, h2⟩ : (MP.rowN n).p m (σ b) := hn.ent b none _ (Z8 hu) hf (fun gd e => by cases e)
 have e2 : σ b = .slice (some ⟨q.1, 0, none⟩) n q.2 := e1
 have e3 := hn.ev hy
 subst hi
 have h3 : (0 : Int) ≤ (k : Int) ∧ (k : Int) < (n : Int) := ⟨by omega, by omega⟩
 have hrun : (execOp (zy σ) ⟨some d, .indexAddr t (.tmp b) y, ty, pos, af, none⟩).run P w = .ok (.value (.pointer (some ((⟨q.1, 0, none⟩ : Addr).add (k * sz))))) w := by
  have e4 : zy σ (.tmp b) = .slice (some ⟨q.1, 0, none⟩) n q.2 := e2
  simp [execOp, e4, e3, Instr.indexAt, asIntOf, run_underlying ht, hz, hk]
 unfold Does; rw [hrun]
 exact ⟨by rw [e2]; rfl, rfl⟩
theorem ob_storeNew [hK : KC K m0 L] {t e : TypeId} {p b n k size : Nat} {y : Operand} {l : List α} {z a : α} {v : Value} {ws : List Value} (hp : find pre p = some (none, .same b (rowAdr k))) (hup : has us p = true) (hy : ∀ q, ev us ch ((some p, none, .val (.eq q)) :: pre) T y = some v)
  (hv : v.cells = ws.toArray) (hz : ∀ w, (sizeOf t).run P w = .ok ws.length w) (hws : ws.length = size) (hsz : 0 < size) (hn : n = l.length + 1) (hk : k = l.length * size) (hb : ∀ w m, K w m → R m ws a) (h1 : ∀ w m, K w m → ws.all (·.oneCell') = true) :
  ObT2 P K us ch pre T b (fun σ => .mrowx (σ b) n size e (MP.reads R size (l ++ [z]))) (fun u => .mrowx (pv2 u) n size e (MP.reads R size (l ++ [a]))) ⟨none, .store t (.tmp p) y, ty, pos, af, gd⟩ (.ex MP.any) := fun σ w m hk' hr hkn => by
 subst hk
 have hsp : σ p = rowAdr (l.length * size) (σ b) := hkn.ent p none _ (Z8 hup) hp (fun gd e => by cases e)
 obtain ⟨g, cap, hsb⟩ : ∃ g cap, σ b = .slice (some ⟨g, 0, none⟩) n cap := by
  obtain ⟨xs, ⟨hlen, o, cap, e1, h2, h3, h4⟩, _⟩ := hr
  rcases h4 with h4 | ⟨g, cur, e4, _⟩
  ·omega
  ·subst e4; exact ⟨g, cap, e1⟩
 have hr : (Res.mrowx (σ b) n size e (MP.reads R size (l ++ [z]))).holds w m := hr
 rw [hsb] at hr hsp
 have hsp : σ p = .pointer (some ((⟨g, 0, none⟩ : Addr).add (l.length * size + 0))) := hsp
 have h := zBe (P := P) (K := K) (m0 := m0) (L := L) (us := us) (ch := ch) (pre := (some p, none, .val (.eq (.pointer (some ((⟨g, 0, none⟩ : Addr).add (l.length * size + 0)))))) :: pre) (T := T) (ty := ty) (pos := pos) (af := af) (gd := gd) (R := R) (t := t) (e := e) (x := .tmp p) (y := y) (i := l.length) (off := 0) (g := g) (n := n) (cap := cap) (size := size) (l := l ++ [z]) (a := z) (b := a) (v := v) (ws := ws)
  (by simp [ev, evT, hup, find, gok]) (hy _) hv hz (by simp) hsz (by omega) (fun w m hK vs hvs _ => by rw [show splice 0 ws vs = ws by unfold splice; rw [List.take_zero, Nat.zero_add, List.drop_of_length_le (by omega)]; simp]; exact hb w m hK) h1 σ w m hk' hr (zAi hkn hsp)
 refine Does.mono h fun v' w' ⟨m', hT, hv'⟩ => ⟨m', ?_, hv'⟩
 rw [show (l ++ [z]).set l.length a = l ++ [a] by simp] at hT
 show ZR (.mrowx (σ b) n size e _) (.mrowx (pv2 (.tuple #[_, σ b])) n size e _) w m w' m'
 rw [show pv2 (.tuple #[Z1 pre ⟨none, .store t (.tmp p) y, ty, pos, af, gd⟩ σ v', σ b]) = σ b from rfl, hsb]
 exact hT
end
end Go.Proofs.Ytnppknioifgdfaa
