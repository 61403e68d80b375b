/-
  unify's state: what a type variable, or a row variable, is to be. Conditions: those of each theorem.
-/
import Derived.Test.YtlidonjpgigocaaGreatDel7
namespace Go.Proofs.YtlidonjpgigocaaGreat
set_option linter.all false
set_option maxRecDepth 4000
open Go.RowKit
/-- unify's state: what is said, and the number that comes next. -/
structure USt where
  s : Sub
  nx : Int
def oneT (n : Int) (t : Ty) : Sub := ⟨[(n, t)], []⟩
def oneR (n : Int) (r : Rw) : Sub := ⟨[], [(n, r)]⟩
/-- What the walks ask of a state: nothing is too wide for a machine. -/
structure OkS (U : USt) : Prop where
  ts : ∀ p ∈ U.s.ts, wdT p.2 ≤ 50000000 ∧ cntT p.2 ≤ 1000000 ∧ InI64 p.1
  rs : ∀ p ∈ U.s.rs, p.2.labels.length ≤ 50000000 ∧ InI64 p.1
  len : U.s.ts.length ≤ 1000000 ∧ U.s.rs.length ≤ 1000000
  nx : 0 ≤ U.nx ∧ U.nx ≤ 1000000000
theorem OkS.w {U : USt} (h : OkS U) : SubW 50000000 U.s := ⟨fun n t e => (h.ts _ (alook_mem e)).1, fun n r e => (h.rs _ (alook_mem e)).1⟩
theorem SubW.up {s : Sub} {A B : Nat} (h : SubW A s) (hb : A ≤ B) : SubW B s := ⟨fun n t e => Nat.le_trans (h.1 n t e) hb, fun n t e => Nat.le_trans (h.2 n t e) hb⟩
theorem oneT_w {n : Int} {t : Ty} {B : Nat} (h : wdT t ≤ B) : SubW B (oneT n t) := by
  refine ⟨fun k u e => ?_, fun k u e => (by cases e)⟩
  simp only [oneT, alook] at e; split at e
  · injection e with e; subst e; exact h
  · cases e
theorem oneR_w {n : Int} {r : Rw} {B : Nat} (h : r.labels.length ≤ B) : SubW B (oneR n r) := by
  refine ⟨fun k u e => (by cases e), fun k u e => ?_⟩
  simp only [oneR, alook] at e; split at e
  · injection e with e; subst e; exact h
  · cases e
theorem thenR_w {a b : Sub} {A B : Nat} (h : Apart a) (ha : SubW A a) (hb : SubW B b) : SubW (A + B) (thenR a b) := (thenR_over h).w ha hb
/-- A row variable is to be something; a type variable is. -/
def rowU (n : Int) (ls : List Str) (rest : Int) (U : Sub) : Sub := thenR U (oneR n ⟨ls, rest⟩)
def bigU (n : Int) (t u : Ty) : Bool := decide (1000 < (cntT u : Int) + (usesT n u : Int) * ((cntT t : Int) - 1)) || largeT (applyT (oneT n t) u)
def isU (n : Int) (t : Ty) (U : USt) : Int × USt :=
  if n ∈ (walkT t ([], [])).1 then (5, U)
  else if (largeT t || U.s.ts.any fun p => bigU n t p.2) = true then (6, U)
  else (0, ⟨thenR U.s (oneT n t), U.nx⟩)
/-- Two rows are made the same. -/
def rowsV (a b : Rw) (p q : List Str) (U : USt) : Int × USt :=
  if p = [] ∧ q = [] then (if a.var = b.var then (0, U) else if a.var = 0 then (0, ⟨rowU b.var [] 0 U.s, U.nx⟩) else (0, ⟨rowU a.var [] b.var U.s, U.nx⟩))
  else if (p ≠ [] ∧ b.var = 0) ∨ (q ≠ [] ∧ a.var = 0) ∨ a.var = b.var then (5, U)
  else if q = [] then (0, ⟨rowU b.var p a.var U.s, U.nx⟩)
  else if p = [] then (0, ⟨rowU a.var q b.var U.s, U.nx⟩)
  else (0, ⟨rowU b.var p U.nx (rowU a.var q U.nx U.s), U.nx + 1⟩)
def rowsU (a b : Rw) (U : USt) : Int × USt := rowsV (applyR U.s a) (applyR U.s b) (moreS (applyR U.s a).labels (applyR U.s b).labels) (moreS (applyR U.s b).labels (applyR U.s a).labels) U
theorem cnt_pos (t : Ty) : 1 ≤ cntT t := by rw [cntT_eq]; omega
theorem cnt_one (n : Int) (t : Ty) (u : Ty) : cntT (applyT (oneT n t) u) ≤ cntT u * cntT t := by
  induction u using Ty.rec_ with
  | h u ih =>
    have hp := cnt_pos t; have hu := cnt_pos u
    by_cases h7 : u.kind = 7
    · rw [applyT_var h7]
      have e : alook u.var (oneT n t).ts = if u.var = n then some t else none := by simp [oneT, alook]
      rw [e]; split
      · exact Nat.le_mul_of_pos_left _ hu
      · exact Nat.le_mul_of_pos_right _ hp
    · rw [applyT_not h7, cntT_eq, cntT_eq u]
      have key : ∀ l : List Ty, (∀ x ∈ l, x ∈ u.args) → cntTs (applyTs (oneT n t) l) ≤ cntTs l * cntT t := by
        intro l
        induction l with
        | nil => intro _; simp [applyTs, cntTs]
        | cons x l ihl =>
          intro hl
          have h1 := ih x (hl x (.head _)); have h2 := ihl fun z hz => hl z (.tail _ hz)
          rw [applyTs]; simp only [cntTs]; rw [Nat.add_mul]; omega
      have hk := key u.args fun x h => h
      show cntTs (applyTs (oneT n t) u.args) + 1 ≤ (cntTs u.args + 1) * cntT t
      rw [Nat.add_mul]; omega
/-- The state's block. -/
abbrev UB (g : Nat) (q : QQ) (n : Int) : Res := .blk (.pointer (some ⟨g, 0, none⟩)) (.cells (subV q ++ [.int .i64 n] : List Value).toArray 74)
abbrev UPost (g : Nat) (n : Nat) (r : Int × USt) (w' : World) (m' : Mem) (v : Value) : Prop := ∃ q', Loc [g] n [UB g q' r.2.nx] w' m' ∧ SubQ m' r.2.s (subV q') ∧ v = .int .i64 r.1
theorem up_R {f : Nat} {args : Array Value} {g : Nat} {q : QQ} {n : Int} {w : World} {m : Mem} {r : Int × USt} (h : FnG Tryz.prog f args [g] w m (UPost g w.heap.size r)) :
    FnR Tryz.prog f args [UB g q n] w m fun rs' m' v => ∃ q', rs' = [UB g q' r.2.nx] ∧ SubQ m' r.2.s (subV q') ∧ v = .int .i64 r.1 :=
  FnG.mono h fun _ _ _ _ ⟨q', hL, hU, hv⟩ => ⟨_, hL, q', rfl, hU, hv⟩
/-- The state's block, of which no more is known than what it says. -/
def UK (g : Nat) (U : USt) : Res := .pack [g] fun w m => ∃ q : QQ, [UB g q U.nx].flatMap Res.blocks = [g] ∧ (∀ r ∈ [UB g q U.nx], r.holds w m) ∧ SubQ m U.s (subV q)
theorem up_T {f : Nat} {args : Array Value} {g : Nat} {q : QQ} {n : Int} {w : World} {m : Mem} {r : Int × USt} (h : FnG Tryz.prog f args [g] w m (UPost g w.heap.size r)) :
    Calls Tryz.prog f args w fun e w' => ∃ v m', e = .returned v ∧ Touch (UB g q n) (UK g r.2) w m w' m' ∧ (Kn.eq (.int .i64 r.1)).holds m' v :=
  Calls.mono h fun e w' ⟨v, m', e1, hE, q', hL, hU, hv⟩ => ⟨v, m', e1, ⟨hE, pack_of (Ly := fun q => [UB g q r.2.nx]) (J := fun q m => SubQ m r.2.s (subV q)) (fun q m m' hm h => h.mono hm) rfl hL.all hU, by simp [UK, Res.blocks], fun b hb => hL.own b (by simp only [UK, Res.blocks, List.mem_singleton] at hb; subst hb; simp [Res.blocks, ptrBlock])⟩, hv⟩
theorem up_open {G0 : List Nat} {W : World} {mE : Mem} {L : List Res} {k g : Nat} {U : USt} {w : World} {m : Mem} (h : St G0 W mE L w m) (hk : L[k]? = some (UK g U)) : ∃ q, St G0 W mE (L.set k (UB g q U.nx)) w m ∧ SubQ m U.s (subV q) := by
  obtain ⟨q, _, hh, hU⟩ := pack_at (h.loc.at_ hk) h.agree
  exact ⟨q, h.weaken hk rfl fun _ => hh _ (.head _), hU⟩

set_option maxHeartbeats 1600000 in
theorem row_g {w : World} {m : Mem} {g : Nat} {q : QQ} {U : USt} {n : Int} {o_l : Option Addr} {c_l : Nat} {l : List Str} {rv : Int} (hA : Agree w m) (hr : (UB g q U.nx).holds w m) (hU : SubQ m U.s (subV q)) (h_l : Strs m o_l l.length c_l l) (hw : SubW 300000000 U.s) (hl : l.length ≤ 300000000) (hv : InI64 rv) : FnG Tryz.prog 74 #[.pointer (some ⟨g, 0, none⟩), .int .i64 n, .slice o_l l.length c_l, .int .i64 rv] [g] w m (fun w' m' v => ∃ q', Loc [g] w.heap.size [UB g q' U.nx] w' m' ∧ SubQ m' (rowU n l rv U.s) (subV q')) := by
  have hb_l := h_l.big; have hc_l := h_l.cap
  refine fn_enter (vs := [_, _, _, _]) Tryz.func74 rfl rfl rfl fun a0 hfr0 => ?_
  have hst0 := st_enter hA (loc_one hr (by simp [Res.blocks, ptrBlock]))
  have hM : MLe m m := MLe.refl m
  refine region_any (tch := [(14, 0, (fun _ => .blkx _ _ _))]) (fun _ => mixed) hst0 hfr0 (by kernel_rfl) (by kernel_rfl) (by kernel_rfl) (.cons rfl (ob_move rfl) <| .cons rfl (ob_move rfl) <| .cons rfl (ob_nilCheck rfl) <| .cons rfl (ob_fieldAddrO (off := 0) rfl Tryz.underlying74 rfl rfl Tryz.sizeOf29 rfl) <| .cons rfl (ob_loadLS (j := 0) rfl rfl Tryz.isAgg29 Tryz.sizeOf29 rfl rfl) <| .cons rfl (ob_call (φ := MP.subQ noneS) rfl (.nil) Tryz.call10 (fun w m hK => by have hle_ := KC.le hK; have hA := KC.agree hK; exact FnG.mono (noneU_c hA) fun _ _ _ _ h => h)) <| .cons rfl (ob_move rfl) <| .cons rfl (ob_move rfl) <| .cons rfl (ob_move rfl) <| .cons rfl (ob_buildS (.cons rfl <| .cons rfl <| .nil) Tryz.underlying43 Tryz.zeroValue43 (.cons Tryz.sizeOf41 <| .cons Tryz.sizeOf3 <| .nil) rfl) <| .cons rfl (ob_imgE 13 rfl rfl rfl fun y13 => ob_call (φ := MP.subQ (oneR n ⟨l, rv⟩)) rfl (.cons rfl <| .cons rfl <| .cons rfl <| .nil) Tryz.call24 (fun w m hK => by have hle_ := KC.le hK; have hA := KC.agree hK; have hr0_ := hK.2; have h_l := h_l.mono hle_; exact FnG.mono (setRowU_c (n := n) (r := ⟨l, rv⟩) hA hr0_ ⟨_, _, rfl, h_l, hv⟩ (by show l.length ≤ _; omega)) fun _ _ _ _ h => h)) <| .cons rfl (ob_imgE 18 rfl rfl rfl fun y18 => ob_call (φ := MP.subQ (rowU n l rv U.s)) rfl (.cons rfl <| .cons rfl <| .nil) Tryz.call85 (fun w m hK => by have hle_ := KC.le hK; have hA := KC.agree hK; have hr0_ := hK.2; have hU := hU.mono hle_; exact FnG.mono (thenU_c hA hU hr0_ hw (oneR_w (by show l.length ≤ _; omega))) fun _ _ _ _ h => h)) <| .cons rfl (ob_nilCheck rfl) <| .cons rfl (ob_fieldAddrO (off := 0) rfl Tryz.underlying74 rfl rfl Tryz.sizeOf29 rfl) <| .consT rfl rfl (fun _ => rfl) rfl (ob_imgTX 19 rfl rfl rfl fun y19 => ob_store rfl rfl rfl Tryz.sizeOf29 rfl rfl rfl) <| .nil) ?_
  intro a1 w1 m1 hst1 hle1 hk1
  have hfr1 := hk1.fr (T' := []) (.nil)
  replace hst1 := hst1.fin (L' := [_]) (.cons rfl <| .nil)
  try simp only [List.take_succ_cons, List.take_zero, List.drop_succ_cons, List.drop_zero, List.cons_append, List.nil_append, List.append_nil, List.length_cons, List.length_nil, Nat.zero_add, Nat.reduceAdd] at hst1
  obtain ⟨⟨q3, q4⟩, hS, hst1⟩ := hst1.unx (k := 0) rfl (fun _ => rfl)
  clear hst0 hfr0 hk1
  repeat (with_reducible first | refine then_exit ?_ | refine block_exit ?_ | refine block_normal ?_)
  exact fn_end hst1 hfr1 rfl (.nil) (⟨(q3, q4), hst1.loc, hS⟩)

theorem row_r {w : World} {m : Mem} {g : Nat} {q : QQ} {U : USt} {n rv : Int} {l : List Str} {o : Option Addr} {c : Nat} (hA : Agree w m) (hr : (UB g q U.nx).holds w m) (hU : SubQ m U.s (subV q)) (hL : Strs m o l.length c l) (hw : SubW 300000000 U.s) (hl : l.length ≤ 300000000) (hv : InI64 rv) :
    FnR Tryz.prog 74 #[.pointer (some ⟨g, 0, none⟩), .int .i64 n, .slice o l.length c, .int .i64 rv] [UB g q U.nx] w m fun rs' m' v => ∃ q', rs' = [UB g q' U.nx] ∧ SubQ m' (rowU n l rv U.s) (subV q') :=
  FnG.mono (row_g hA hr hU hL hw hl hv) fun _ _ _ _ ⟨q', h1, h2⟩ => ⟨_, h1, q', rfl, h2⟩

set_option maxHeartbeats 1600000 in
theorem is1_c {w : World} {m : Mem} {k : Int} {px : Addr} {pn : Addr} {pt : Addr} {po : Addr} {g : Nat} {q q1 : QQ} {U : USt} {n : Int} {t : Ty} {yt : (Option Addr × Nat) × (Option Addr × Nat)} (hA : Agree w m) (hpx : CellsAt m px [.pointer (some ⟨g, 0, none⟩)]) (hpn : CellsAt m pn [.int .i64 n]) (hpt : CellsAt m pt (tyV t yt)) (hpo : CellsAt m po (subV q1)) (hg : CellsAt m ⟨g, 0, none⟩ (subV q ++ [.int .i64 U.nx] : List Value)) (hT : TyR m t (tyV t yt)) (hO : SubQ m (oneT n t) (subV q1)) (hU : SubQ m U.s (subV q)) (hok : OkS U) (hw : wdT t ≤ 200000000) (hc : cntT t ≤ 100000000) : FnV Tryz.prog 82 #[.int .i64 k, .pointer (some px), .pointer (some pn), .pointer (some pt), .pointer (some po)] w m (fun _ _ v => v = .bool (bigU n t ((alook k U.s.ts).getD zeroTy))) := by
  refine fn_enter (vs := [_, _, _, _, _]) Tryz.func82 rfl rfl rfl fun a0 hfr0 => ?_
  have hst0 := st_enter hA (loc_nil [] _ w m)
  have hM : MLe m m := MLe.refl m
  have hww := hok.w
  have hwv := hww.look k
  have hcx : cntT ((alook k U.s.ts).getD zeroTy) ≤ 1000000 := by cases hq : alook k U.s.ts with | none => (show cntT zeroTy ≤ _; simp [zeroTy, cntT, cntTs]) | some z => exact (hok.ts _ (alook_mem hq)).2.1
  have hc1 := cnt_pos t
  obtain ⟨u, hu⟩ : ∃ u, u = ((alook k U.s.ts).getD zeroTy) := ⟨_, rfl⟩
  obtain ⟨b9, hb9⟩ : ∃ b, b = (alook k U.s.ts).isSome := ⟨_, rfl⟩
  rw [← hu] at hwv hcx ⊢
  have huc := usesT_cnt n u
  have hmu : (usesT n u : Int) * ((cntT t : Int) - 1) ≤ 1000000 * 100000000 := Int.mul_le_mul (by omega) (by omega) (by omega) (by omega)
  have hmu0 : 0 ≤ (usesT n u : Int) * ((cntT t : Int) - 1) := Int.mul_nonneg (by omega) (by omega)
  have hco := cnt_one n t u
  have hco2 : cntT u * cntT t ≤ 1000000 * 100000000 := Nat.mul_le_mul hcx hc
  refine seq_any fun _ hK1 => ?_
  refine rp0 hst0 hfr0 (.cons rfl (ob_assign rfl) <| .nil) ?_
  intro a1 w1 m1 hst1 hle1 hk1
  have hfr1 := hk1.fr (T' := [(0, _), (1, _), (2, _), (3, _), (4, _)]) (.old rfl rfl <| .old rfl rfl <| .old rfl rfl <| .old rfl rfl <| .old rfl rfl <| .nil)
  replace hpx := hpx.mono hle1
  replace hpn := hpn.mono hle1
  replace hpt := hpt.mono hle1
  replace hpo := hpo.mono hle1
  replace hg := hg.mono hle1
  replace hT := hT.mono hle1
  replace hO := hO.mono hle1
  replace hU := hU.mono hle1
  clear hst0 hfr0 hk1
  refine hK1 _ _ ?_; clear hK1
  refine seq_any fun _ hK2 => ?_
  replace hst1 := hst1.more (r := .free) trivial List.nodup_nil (by simp [Res.blocks])
  refine ra0 (tch := [(9, 0, (fun v => .blk v _)), (10, 0, (fun v => .blkx v _ _))]) hst1 hfr1 (.cons rfl (ob_load1' rfl hpx Tryz.isAgg86 rfl) <| .cons rfl (ob_nilCheck rfl) <| .cons rfl (ob_fieldAddrO (off := 0) rfl Tryz.underlying74 rfl rfl Tryz.sizeOf29 rfl) <| .cons rfl (ob_loadS rfl hg Tryz.isAgg29 Tryz.sizeOf29 rfl rfl) <| .cons rfl (ob_move rfl) <| .cons rfl (ob_call (φ := MP.tyb u b9) rfl (.cons rfl <| .cons rfl <| .nil) Tryz.call83 (fun w m hK => by have hle_ := KC.le hK; have hA := KC.agree hK; have hU := hU.mono hle_; exact FnG.mono (typeU_c (n := k) hA hU hu hb9 (hww.up (by omega))) fun _ _ _ _ h => h)) <| .cons rfl (ob_imgV 15 rfl rfl rfl fun y15 => ob_move rfl) <| .cons rfl (ob_imgV 9 rfl rfl rfl fun y9 => ob_extract rfl rfl) <| .cons rfl (ob_imgV 9 rfl rfl rfl fun y9 => ob_extract rfl rfl) <| .consT rfl rfl (fun _ => rfl) rfl (ob_allocL Tryz.zeroValue45 rfl) <| .consT rfl rfl (fun _ => rfl) rfl (ob_imgT 7 rfl rfl rfl fun y7 => ob_imgTX 16 rfl rfl rfl fun y16 => ob_storeF rfl rfl rfl rfl rfl Tryz.sizeOf45 rfl rfl rfl) <| .consA 17 rfl rfl <| .nil) ?_
  intro a2 w2 m2 hst2 hle2 hk2
  have hfr2 := hk2.fr (T' := [(2, _), (3, _), (4, _)]) (.old rfl rfl <| .old rfl rfl <| .old rfl rfl <| .nil)
  obtain ⟨y3, e3, hy3⟩ := hk2.ex 17 rfl
  obtain ⟨g4, e4, _⟩ := hk2.ex 7 rfl
  replace hfr2 := hfr2.cons e4
  replace hst2 := hst2.fin (L' := [_]) (.cons e4 <| .cons e4 <| .nil)
  try simp only [List.take_succ_cons, List.take_zero, List.drop_succ_cons, List.drop_zero, List.cons_append, List.nil_append, List.append_nil, List.length_cons, List.length_nil, Nat.zero_add, Nat.reduceAdd] at hst2
  obtain ⟨⟨⟨oF, cF⟩, oG, cG⟩, hF, hst2⟩ := hst2.unx (k := 0) rfl (fun _ => rfl)
  replace hpn := hpn.mono hle2
  replace hpt := hpt.mono hle2
  replace hpo := hpo.mono hle2
  replace hT := hT.mono hle2
  replace hO := hO.mono hle2
  clear hst1 hfr1 hk2
  refine hK2 _ _ ?_; clear hK2
  refine seq_any fun _ hK6 => ?_
  refine region_plain (fun _ => mixed) hst2 hfr2 (by kernel_rfl) (by kernel_rfl) (.cons rfl (ob_loadLA (j := 0) rfl rfl Tryz.isAgg45 Tryz.sizeOf45 rfl) <| .cons rfl (ob_callE rfl (.cons rfl <| .nil) Tryz.call34 (fun w m hK => by have hle_ := KC.le hK; have hA := KC.agree hK; have hF := hF.mono hle_; exact pieces_c u hA hF (by omega))) <| .cons rfl (ob_loadLA (j := 0) rfl rfl Tryz.isAgg45 Tryz.sizeOf45 rfl) <| .cons rfl (ob_load1' rfl hpn Tryz.isAgg3 rfl) <| .cons rfl (ob_callE rfl (.cons rfl <| .cons rfl <| .nil) Tryz.call84 (fun w m hK => by have hle_ := KC.le hK; have hA := KC.agree hK; have hF := hF.mono hle_; exact uses_c u (n := n) hA hF (by omega))) <| .cons rfl (ob_loadS' rfl hpt Tryz.isAgg45 Tryz.sizeOf45 rfl rfl) <| .cons rfl (ob_callE rfl (.cons rfl <| .nil) Tryz.call34 (fun w m hK => by have hle_ := KC.le hK; have hA := KC.agree hK; have hT := hT.mono hle_; exact pieces_c t hA hT (by omega))) <| .cons rfl (ob_sub rfl rfl ⟨by omega, by omega⟩) <| .cons rfl (ob_mul rfl rfl ⟨by omega, by omega⟩) <| .cons rfl (ob_add rfl rfl ⟨by omega, by omega⟩) <| .cons rfl (ob_gtr rfl rfl) <| .cons rfl (ob_move rfl) <| .cons rfl (ob_loadS' rfl hpo Tryz.isAgg29 Tryz.sizeOf29 rfl rfl) <| .cons rfl (ob_loadLA (j := 0) rfl rfl Tryz.isAgg45 Tryz.sizeOf45 rfl) <| .cons rfl (ob_call (φ := MP.ty (applyT (oneT n t) u)) rfl (.cons rfl <| .cons rfl <| .nil) Tryz.call17 (fun w m hK => by have hle_ := KC.le hK; have hA := KC.agree hK; have hO := hO.mono hle_; have hF := hF.mono hle_; exact FnG.mono (applyU_c u hA hO hF (oneT_w (by omega)) (by omega)) fun _ _ _ _ h => h)) <| .cons rfl (ob_imgE 32 rfl rfl rfl fun y32 => ob_callE rfl (.cons rfl <| .nil) Tryz.call12 (fun w m hK => by have hle_ := KC.le hK; have hA := KC.agree hK; have hr0_ := hK.2; exact large_c (t := applyT (oneT n t) u) hA hr0_ (by omega))) <| .cons rfl (ob_or rfl rfl rfl) <| .cons rfl (ob_assign rfl) <| .nil) ?_
  intro a3 w3 m3 hst3 hle3 hk3
  have hfr3 := hk3.fr (T' := [(6, _)]) (.new rfl <| .nil)
  clear hst2 hfr2 hk3
  refine hK6 _ _ ?_; clear hK6
  refine wp_ret ?_
  repeat (with_reducible first | refine then_ret ?_ | refine block_ret ?_)
  exact fn_ret hst3 hfr3 rfl (.tmp rfl <| .nil) (by refine congrArg Value.bool ?_; unfold bigU; rw [Bool.eq_iff_iff]; (try simp))

theorem big_c {w : World} {m : Mem} {g : Nat} {q q1 : QQ} {U : USt} {n : Int} {t : Ty} {ks : List Int} {o : Option Addr} {c : Nat} {px pn pt po : Addr} {yt : (Option Addr × Nat) × (Option Addr × Nat)} (hA : Agree w m) (hr : (UB g q U.nx).holds w m) (hI : Ints m o ks.length c ks) (hp : ks.Perm (U.s.ts.map Prod.fst))
    (hx : CellsAt m px [.pointer (some ⟨g, 0, none⟩)]) (hn : CellsAt m pn [.int .i64 n]) (ht : CellsAt m pt (tyV t yt)) (hT : TyR m t (tyV t yt)) (ho : CellsAt m po (subV q1)) (hO : SubQ m (oneT n t) (subV q1)) (hU : SubQ m U.s (subV q)) (hok : OkS U) (hw : wdT t ≤ 200000000) (hc : cntT t ≤ 100000000) :
    FnV Tryz.prog 81 #[.slice o ks.length c, .func (.func 82) #[] #[.pointer (some px), .pointer (some pn), .pointer (some pt), .pointer (some po)]] w m fun _ _ v => v = .bool (U.s.ts.any fun p => bigU n t p.2) := by
  obtain ⟨m2, hA2, hle, hg⟩ := blk_see hA hr
  have e : (U.s.ts.any fun p => bigU n t p.2) = ks.any fun v => bigU n t ((alook v U.s.ts).getD zeroTy) := by
    have h1 : ks.any (fun v => bigU n t ((alook v U.s.ts).getD zeroTy)) = (U.s.ts.map Prod.fst).any fun v => bigU n t ((alook v U.s.ts).getD zeroTy) := by
      rw [Bool.eq_iff_iff, List.any_eq_true, List.any_eq_true]
      exact ⟨fun ⟨v, a, b⟩ => ⟨v, hp.mem_iff.1 a, b⟩, fun ⟨v, a, b⟩ => ⟨v, hp.mem_iff.2 a, b⟩⟩
    rw [h1, List.any_map, Bool.eq_iff_iff, List.any_eq_true, List.any_eq_true]
    have h2 : ∀ p ∈ U.s.ts, alook p.1 U.s.ts = some p.2 := fun p hp => alook_of_mem hU.apart.1 hp
    exact ⟨fun ⟨p, a, b⟩ => ⟨p, a, by simp only [Function.comp]; rw [h2 p a]; exact b⟩, fun ⟨p, a, b⟩ => ⟨p, a, by simp only [Function.comp] at b; rw [h2 p a] at b; exact b⟩⟩
  rw [e]
  exact FnV.pure hA (containsfI_c (l := ks) (cid := 82) (cap := [.pointer (some px), .pointer (some pn), .pointer (some pt), .pointer (some po)]) (φ := fun v => bigU n t ((alook v U.s.ts).getD zeroTy)) hA2 (hI.mono hle) Tryz.call82
    fun w' m' v hm hA' hv => is1_c hA' (hx.mono (hle.trans hm)) (hn.mono (hle.trans hm)) (ht.mono (hle.trans hm)) (ho.mono (hle.trans hm)) (hg.mono hm) (hT.mono (hle.trans hm)) (hO.mono (hle.trans hm)) (hU.mono (hle.trans hm)) hok hw hc)

set_option maxHeartbeats 3200000 in
theorem is_g {w : World} {m : Mem} {g : Nat} {q : QQ} {U : USt} {n : Int} {t : Ty} {vs_t : List Value} (hA : Agree w m) (hr : (UB g q U.nx).holds w m) (hU : SubQ m U.s (subV q)) (h_t : TyR m t vs_t) (hok : OkS U) (hw : wdT t ≤ 200000000) (hc : cntT t ≤ 100000000) : FnG Tryz.prog 55 #[.pointer (some ⟨g, 0, none⟩), .int .i64 n, .agg vs_t.toArray] [g] w m (UPost g w.heap.size (isU n t U)) := by
  obtain ⟨o_t, c_t, oL_t, cL_t, rfl, hk_t, hs_t, hi_t, hj_t, hr_t⟩ := h_t.open_
  have hbg_t := hk_t.big; have hcp_t := hk_t.cap; have hbs_t := hs_t.big; have hcs_t := hs_t.cap
  have hrw_t : RwR _ ⟨t.labels, t.rv⟩ _ := ⟨_, _, rfl, hs_t, hr_t⟩
  refine fn_enter (vs := [_, _, _]) Tryz.func55 rfl rfl rfl fun a0 hfr0 => ?_
  have hst0 := st_enter hA (loc_one hr (by simp [Res.blocks, ptrBlock]))
  have hM : MLe m m := MLe.refl m
  have hww := hok.w
  have hwr := walk_room t ([], [])
  simp only [room, List.length_nil] at hwr
  refine seq_any fun _ hK1 => ?_
  refine rp0 hst0 hfr0 (.cons rfl (ob_box rfl rfl) <| .cons rfl (ob_box rfl rfl) <| .cons rfl (ob_box rfl rfl) <| .cons rfl (ob_assign rfl) <| .nil) ?_
  intro a1 w1 m1 hst1 hle1 hk1
  have hfr1 := hk1.fr (T' := []) (.nil)
  obtain ⟨g2, e2, hc3⟩ := hk1.ex 3 rfl
  replace hfr1 := hfr1.cons e2
  obtain ⟨g3, e3, hc4⟩ := hk1.ex 4 rfl
  replace hfr1 := hfr1.cons e3
  obtain ⟨g4, e4, hc5⟩ := hk1.ex 5 rfl
  replace hfr1 := hfr1.cons e4
  replace h_t := h_t.mono hle1
  replace hU := hU.mono hle1
  clear hst0 hfr0 hk1
  refine hK1 _ _ ?_; clear hK1
  refine seq_any fun _ hK5 => ?_
  refine seq_any fun _ hK6 => ?_
  refine ra0 (tch := []) hst1 hfr1 (.cons rfl (ob_loadS' rfl hc5 Tryz.isAgg45 Tryz.sizeOf45 rfl rfl) <| .cons rfl (ob_call (φ := MP.two (walkT t ([], [])).1 (walkT t ([], [])).2) rfl (.cons rfl <| .nil) Tryz.call78 (fun w m hK => by have hle_ := KC.le hK; have hA := KC.agree hK; have h_t := h_t.mono hle_; exact FnG.mono (vars_c (t := t) hA h_t (by omega)) fun _ _ _ _ h => h)) <| .cons rfl (ob_imgV 15 rfl rfl rfl fun y15 => ob_move rfl) <| .cons rfl (ob_imgV 13 rfl rfl rfl fun y13 => ob_extract rfl rfl) <| .cons rfl (ob_imgV 13 rfl rfl rfl fun y13 => ob_extract rfl rfl) <| .consA 16 rfl rfl <| .consA 17 rfl rfl <| .nil) ?_
  intro a2 w2 m2 hst2 hle2 hk2
  have hfr2 := hk2.fr (T' := [(3, _), (4, _), (5, _)]) (.old rfl rfl <| .old rfl rfl <| .old rfl rfl <| .nil)
  obtain ⟨⟨⟨o1, c1⟩, q1⟩, e7, hI1, _⟩ := hk2.ex 16 rfl
  obtain ⟨y8, e8, hy8⟩ := hk2.ex 17 rfl
  replace hfr2 := hfr2.cons (hk2.same 7 rfl e7)
  replace h_t := h_t.mono hle2
  replace hU := hU.mono hle2
  replace hc3 := hc3.mono hle2
  replace hc4 := hc4.mono hle2
  replace hc5 := hc5.mono hle2
  clear hst1 hfr1 hk2
  refine hK6 _ _ ?_; clear hK6
  refine seq_any fun _ hK9 => ?_
  refine rp0 hst2 hfr2 (.cons rfl (ob_move rfl) <| .cons rfl (ob_load1' rfl hc4 Tryz.isAgg3 rfl) <| .cons rfl (ob_callE rfl (.cons rfl <| .cons rfl <| .nil) Tryz.call79 (fun w m hK => by have hle_ := KC.le hK; have hA := KC.agree hK; have hI1 := hI1.mono hle_; exact containsI_c (s := n) hA hI1)) <| .nil) ?_
  intro a3 w3 m3 hst3 hle3 hk3
  have hfr3 := hk3.fr (T' := [(3, _), (4, _), (5, _), (20, _)]) (.old rfl rfl <| .old rfl rfl <| .old rfl rfl <| .new rfl <| .nil)
  replace h_t := h_t.mono hle3
  replace hU := hU.mono hle3
  replace hc3 := hc3.mono hle3
  replace hc4 := hc4.mono hle3
  replace hc5 := hc5.mono hle3
  clear hst2 hfr2 hk3
  refine hK9 _ _ ?_; clear hK9
  refine cond_any hfr3 rfl rfl (fun hb20 => ?_) (fun hb20 => ?_)
  · try simp only [nq1, nq2, nq3, nq4, nq5, nq6, nq7, nq8, nq9, u8_eq] at hb20
    have hmr : isU n t U = (5, U) := by unfold isU; rw [if_pos hb20]
    refine seq_any fun _ hK10 => ?_
    refine rp0 hst3 hfr3 (.cons rfl (ob_assign rfl) <| .nil) ?_
    intro a4 w4 m4 hst4 hle4 hk4
    have hfr4 := hk4.fr (T' := [(6, _)]) (.new rfl <| .nil)
    replace hU := hU.mono hle4
    clear hst3 hfr3 hk4
    refine hK10 _ _ ?_; clear hK10
    refine wp_ret ?_
    repeat (with_reducible first | refine then_ret ?_ | refine block_ret ?_)
    exact fn_ret hst4 hfr4 rfl (.tmp rfl <| .nil) (⟨q, by rw [hmr]; exact (hst4.take 1).loc, by rw [hmr]; exact hU, by rw [hmr]; rfl⟩)
  · try simp only [nq1, nq2, nq3, nq4, nq5, nq6, nq7, nq8, nq9, u8_eq] at hb20
    have hn9 : ¬ n ∈ (walkT t ([], [])).1 := hb20
    refine wp_skip ?_
    refine hK5 _ _ ?_; clear hK5
    refine seq_any fun _ hK12 => ?_
    replace hst3 := hst3.more (r := .free) trivial List.nodup_nil (by simp [Res.blocks])
    refine region_any (tch := [(4, 1, (fun v => .blk v _)), (5, 1, (fun v => .blkx v _ _))]) (fun _ => mixed) hst3 hfr3 (by kernel_rfl) (by kernel_rfl) (by kernel_rfl) (.cons rfl (ob_call (φ := MP.subQ noneS) rfl (.nil) Tryz.call10 (fun w m hK => by have hle_ := KC.le hK; have hA := KC.agree hK; exact FnG.mono (noneU_c hA) fun _ _ _ _ h => h)) <| .cons rfl (ob_load1' rfl hc4 Tryz.isAgg3 rfl) <| .cons rfl (ob_loadS' rfl hc5 Tryz.isAgg45 Tryz.sizeOf45 rfl rfl) <| .cons rfl (ob_imgE 21 rfl rfl rfl fun y21 => ob_call (φ := MP.subQ (oneT n t)) rfl (.cons rfl <| .cons rfl <| .cons rfl <| .nil) Tryz.call26 (fun w m hK => by have hle_ := KC.le hK; have hA := KC.agree hK; have hr0_ := hK.2; have h_t := h_t.mono hle_; exact FnG.mono (setTypeU_c (n := n) (t := t) hA hr0_ h_t (by omega)) fun _ _ _ _ h => h)) <| .consT rfl rfl (fun _ => rfl) rfl (ob_allocL Tryz.zeroValue29 rfl) <| .consT rfl rfl (fun _ => rfl) rfl (ob_imgT 9 rfl rfl rfl fun y9 => ob_imgTX 24 rfl rfl rfl fun y24 => ob_storeF rfl rfl rfl rfl rfl Tryz.sizeOf29 rfl rfl rfl) <| .nil) ?_
    intro a4 w4 m4 hst4 hle4 hk4
    have hfr4 := hk4.fr (T' := [(3, _), (4, _), (5, _)]) (.old rfl rfl <| .old rfl rfl <| .old rfl rfl <| .nil)
    obtain ⟨gO, e13, _⟩ := hk4.ex 9 rfl
    replace hfr4 := hfr4.cons e13
    replace hst4 := hst4.fin (L' := [_, _]) (.cons e13 <| .cons e13 <| .nil)
    try simp only [List.take_succ_cons, List.take_zero, List.drop_succ_cons, List.drop_zero, List.cons_append, List.nil_append, List.append_nil, List.length_cons, List.length_nil, Nat.zero_add, Nat.reduceAdd] at hst4
    obtain ⟨⟨q5, q6⟩, hO, hst4⟩ := hst4.unx (k := 1) rfl (fun _ => rfl)
    replace h_t := h_t.mono hle4
    replace hU := hU.mono hle4
    replace hc3 := hc3.mono hle4
    replace hc4 := hc4.mono hle4
    replace hc5 := hc5.mono hle4
    clear hst3 hfr3 hk4
    obtain ⟨m5, hle5, hst5, hB_O⟩ := hst4.freezeB (k := 1) rfl
    simp only [List.set_cons_succ, List.set_cons_zero] at hst5
    have hfr5 := hfr4; obtain ⟨a5, rfl⟩ : ∃ a, a = a4 := ⟨_, rfl⟩; obtain ⟨w5, rfl⟩ : ∃ w, w = w4 := ⟨_, rfl⟩
    replace h_t := h_t.mono hle5
    replace hU := hU.mono hle5
    replace hc3 := hc3.mono hle5
    replace hc4 := hc4.mono hle5
    replace hc5 := hc5.mono hle5
    replace hO := hO.mono hle5
    clear hst4 hfr4
    refine hK12 _ _ ?_; clear hK12
    refine seq_any fun _ hK15 => ?_
    refine ra0 (tch := []) hst5 hfr5 (.cons rfl (ob_load1' rfl hc3 Tryz.isAgg86 rfl) <| .cons rfl (ob_nilCheck rfl) <| .cons rfl (ob_fieldAddrO (off := 0) rfl Tryz.underlying74 rfl rfl Tryz.sizeOf29 rfl) <| .cons rfl (ob_loadLS (j := 0) rfl rfl Tryz.isAgg29 Tryz.sizeOf29 rfl rfl) <| .cons rfl (ob_call (φ := MP.keys2 (U.s.ts.map Prod.fst) (U.s.rs.map Prod.fst)) rfl (.cons rfl <| .nil) Tryz.call80 (fun w m hK => by have hle_ := KC.le hK; have hA := KC.agree hK; have hU := hU.mono hle_; exact FnG.mono (varsU_c hA hU (fun p hp => (hok.ts p hp).2.2) (fun p hp => (hok.rs p hp).2) (by have := hok.len; omega)) fun _ _ _ _ h => h)) <| .cons rfl (ob_imgV 30 rfl rfl rfl fun y30 => ob_move rfl) <| .cons rfl (ob_imgV 25 rfl rfl rfl fun y25 => ob_extract rfl rfl) <| .cons rfl (ob_imgV 25 rfl rfl rfl fun y25 => ob_extract rfl rfl) <| .consA 31 rfl rfl <| .consA 32 rfl rfl <| .nil) ?_
    intro a6 w6 m6 hst6 hle6 hk6
    have hfr6 := hk6.fr (T' := [(3, _), (4, _), (5, _), (9, _)]) (.old rfl rfl <| .old rfl rfl <| .old rfl rfl <| .old rfl rfl <| .nil)
    obtain ⟨⟨⟨k1, o3, c3⟩, q3⟩, e16, ⟨hI3, hp3⟩, _⟩ := hk6.ex 31 rfl
    obtain ⟨y17, e17, hy17⟩ := hk6.ex 32 rfl
    replace hfr6 := hfr6.cons (hk6.same 10 rfl e16)
    replace h_t := h_t.mono hle6
    replace hU := hU.mono hle6
    replace hc3 := hc3.mono hle6
    replace hc4 := hc4.mono hle6
    replace hc5 := hc5.mono hle6
    replace hO := hO.mono hle6
    replace hB_O := hB_O.mono hle6
    clear hst5 hfr5 hk6
    refine hK15 _ _ ?_; clear hK15
    refine seq_any fun _ hK18 => ?_
    refine rp0 hst6 hfr6 (.cons rfl (ob_loadS' rfl hc5 Tryz.isAgg45 Tryz.sizeOf45 rfl rfl) <| .cons rfl (ob_callE rfl (.cons rfl <| .nil) Tryz.call12 (fun w m hK => by have hle_ := KC.le hK; have hA := KC.agree hK; have h_t := h_t.mono hle_; exact large_c (t := t) hA h_t (by omega))) <| .cons rfl (ob_move rfl) <| .cons rfl (ob_move rfl) <| .cons rfl (ob_makeFunc (.cons rfl <| .cons rfl <| .cons rfl <| .cons rfl <| .nil)) <| .cons rfl (ob_callE rfl (.cons rfl <| .cons rfl <| .nil) Tryz.call81 (fun w m hK => by have hle_ := KC.le hK; have hA := KC.agree hK; have h_t := h_t.mono hle_; have hU := hU.mono hle_; have hc3 := hc3.mono hle_; have hc4 := hc4.mono hle_; have hc5 := hc5.mono hle_; have hO := hO.mono hle_; have hB_O := hB_O.mono hle_; have hI3 := hI3.mono hle_; exact (show FnV Tryz.prog 81 #[_, _] _ _ (fun _ _ v => v = .bool (U.s.ts.any fun p => bigU n t p.2)) from big_c (yt := ((o_t, c_t), (oL_t, cL_t))) hA (KC.at_ hK (k := 0) rfl) hI3 hp3 hc3 hc4 hc5 h_t hB_O hO hU hok hw hc))) <| .cons rfl (ob_or rfl rfl rfl) <| .cons rfl (ob_assign rfl) <| .nil) ?_
    intro a7 w7 m7 hst7 hle7 hk7
    have hfr7 := hk7.fr (T' := [(3, _), (9, _), (12, _)]) (.old rfl rfl <| .old rfl rfl <| .new rfl <| .nil)
    replace hU := hU.mono hle7
    replace hc3 := hc3.mono hle7
    replace hO := hO.mono hle7
    replace hB_O := hB_O.mono hle7
    clear hst6 hfr6 hk7
    refine hK18 _ _ ?_; clear hK18
    refine seq_any fun _ hK19 => ?_
    refine seq_any fun _ hK20 => ?_
    refine rp0 hst7 hfr7 (.cons rfl (ob_move rfl) <| .nil) ?_
    intro a8 w8 m8 hst8 hle8 hk8
    have hfr8 := hk8.fr (T' := [(3, _), (9, _), (40, _)]) (.old rfl rfl <| .old rfl rfl <| .new rfl <| .nil)
    replace hU := hU.mono hle8
    replace hc3 := hc3.mono hle8
    replace hO := hO.mono hle8
    replace hB_O := hB_O.mono hle8
    clear hst7 hfr7 hk8
    refine hK20 _ _ ?_; clear hK20
    refine cond_any hfr8 rfl rfl (fun hb40 => ?_) (fun hb40 => ?_)
    · try simp only [nq1, nq2, nq3, nq4, nq5, nq6, nq7, nq8, nq9, u8_eq] at hb40
      have hmr : isU n t U = (6, U) := by unfold isU; rw [if_neg hn9, if_pos (by simpa using hb40)]
      refine seq_any fun _ hK21 => ?_
      refine rp0 hst8 hfr8 (.cons rfl (ob_assign rfl) <| .nil) ?_
      intro a9 w9 m9 hst9 hle9 hk9
      have hfr9 := hk9.fr (T' := [(6, _)]) (.new rfl <| .nil)
      replace hU := hU.mono hle9
      clear hst8 hfr8 hk9
      refine hK21 _ _ ?_; clear hK21
      refine wp_ret ?_
      repeat (with_reducible first | refine then_ret ?_ | refine block_ret ?_)
      exact fn_ret hst9 hfr9 rfl (.tmp rfl <| .nil) (⟨q, by rw [hmr]; exact (hst9.take 1).loc, by rw [hmr]; exact hU, by rw [hmr]; rfl⟩)
    · try simp only [nq1, nq2, nq3, nq4, nq5, nq6, nq7, nq8, nq9, u8_eq] at hb40
      have hmr : isU n t U = (0, ⟨thenR U.s (oneT n t), U.nx⟩) := by unfold isU; rw [if_neg hn9, if_neg (by simpa using hb40)]
      refine wp_skip ?_
      refine hK19 _ _ ?_; clear hK19
      refine seq_any fun _ hK23 => ?_
      refine region_any (tch := [(9, 0, (fun _ => .blkx _ _ _))]) (fun _ => mixed) hst8 hfr8 (by kernel_rfl) (by kernel_rfl) (by kernel_rfl) (.cons rfl (ob_load1' rfl hc3 Tryz.isAgg86 rfl) <| .cons rfl (ob_load1' rfl hc3 Tryz.isAgg86 rfl) <| .cons rfl (ob_nilCheck rfl) <| .cons rfl (ob_fieldAddrO (off := 0) rfl Tryz.underlying74 rfl rfl Tryz.sizeOf29 rfl) <| .cons rfl (ob_loadLS (j := 0) rfl rfl Tryz.isAgg29 Tryz.sizeOf29 rfl rfl) <| .cons rfl (ob_loadS' rfl hB_O Tryz.isAgg29 Tryz.sizeOf29 rfl rfl) <| .cons rfl (ob_call (φ := MP.subQ (thenR U.s (oneT n t))) rfl (.cons rfl <| .cons rfl <| .nil) Tryz.call85 (fun w m hK => by have hle_ := KC.le hK; have hA := KC.agree hK; have hU := hU.mono hle_; have hO := hO.mono hle_; exact FnG.mono (thenU_c hA hU hO (hww.up (by omega)) (oneT_w (by omega))) fun _ _ _ _ h => h)) <| .cons rfl (ob_nilCheck rfl) <| .cons rfl (ob_fieldAddrO (off := 0) rfl Tryz.underlying74 rfl rfl Tryz.sizeOf29 rfl) <| .consT rfl rfl (fun _ => rfl) rfl (ob_imgTX 47 rfl rfl rfl fun y47 => ob_store rfl rfl rfl Tryz.sizeOf29 rfl rfl rfl) <| .nil) ?_
      intro a9 w9 m9 hst9 hle9 hk9
      have hfr9 := hk9.fr (T' := []) (.nil)
      replace hst9 := hst9.fin (L' := [_, _]) (.cons rfl <| .nil)
      try simp only [List.take_succ_cons, List.take_zero, List.drop_succ_cons, List.drop_zero, List.cons_append, List.nil_append, List.append_nil, List.length_cons, List.length_nil, Nat.zero_add, Nat.reduceAdd] at hst9
      obtain ⟨⟨q7, q8⟩, hS, hst9⟩ := hst9.unx (k := 0) rfl (fun _ => rfl)
      clear hst8 hfr8 hk9
      refine hK23 _ _ ?_; clear hK23
      refine seq_any fun _ hK25 => ?_
      refine rp0 hst9 hfr9 (.cons rfl (ob_assign rfl) <| .nil) ?_
      intro a10 w10 m10 hst10 hle10 hk10
      have hfr10 := hk10.fr (T' := [(6, _)]) (.new rfl <| .nil)
      replace hS := hS.mono hle10
      clear hst9 hfr9 hk10
      refine hK25 _ _ ?_; clear hK25
      refine wp_ret ?_
      repeat (with_reducible first | refine then_ret ?_ | refine block_ret ?_)
      exact fn_ret hst10 hfr10 rfl (.tmp rfl <| .nil) (⟨(q7, q8), by rw [hmr]; exact (hst10.take 1).loc, by rw [hmr]; exact hS, by rw [hmr]; rfl⟩)

end Go.Proofs.YtlidonjpgigocaaGreat
