/-
  Package scheme: schemes, what is free in them, types generalized, types made fresh. Conditions: those of each theorem.
-/
import Derived.Test.YtmpponcnohakdaaDel8
namespace Go.Proofs.Ytmpponcnohakdaa
set_option linter.all false
set_option maxRecDepth 4000
open Go.RowKit
abbrev YY := (Option Addr × Nat) × (Option Addr × Nat)
abbrev QQ := Option Nat × Option Nat
/-- A scheme. -/
structure Sch where
  ts : List Int
  rs : List Int
  ty : Ty
abbrev schV (s : Sch) (y : YY × YY) : List Value := .slice y.1.1.1 s.ts.length y.1.1.2 :: .slice y.1.2.1 s.rs.length y.1.2.2 :: tyV s.ty y.2
def SchR (m : Mem) (s : Sch) (vs : List Value) : Prop := ∃ y, vs = schV s y ∧ Ints m y.1.1.1 s.ts.length y.1.1.2 s.ts ∧ Ints m y.1.2.1 s.rs.length y.1.2.2 s.rs ∧ TyR m s.ty (tyV s.ty y.2)
theorem SchR.mono {m m' : Mem} {s : Sch} {vs : List Value} (h : SchR m s vs) (hm : MLe m m') : SchR m' s vs := by obtain ⟨y, e, h0, h1, h2⟩ := h; exact ⟨y, e, h0.mono hm, h1.mono hm, h2.mono hm⟩
theorem SchR.one {m : Mem} {s : Sch} {vs : List Value} (h : SchR m s vs) : vs.all (·.oneCell') = true := by obtain ⟨y, rfl, _⟩ := h; rfl
abbrev Schs (m : Mem) (o : Option Addr) (n c : Nat) (l : List Sch) : Prop := Sl (fun m vs x => SchR m x vs) 8 m o n c l
theorem Schs.mono {m m' : Mem} {o : Option Addr} {n c : Nat} {l : List Sch} (h : Schs m o n c l) (hm : MLe m m') : Schs m' o n c l := Sl.mono h (fun _ _ e => e.mono hm) hm
def MP.sch (s : Sch) : MP := MP.mem (fun y => .agg (schV s y).toArray) (fun y m => SchR m s (schV s y)) fun hm h => h.mono hm
def noneS : Sub := ⟨[], []⟩
theorem noneS_w {B : Nat} : SubW B noneS := ⟨fun n t h => (by cases h), fun n t h => (by cases h)⟩
theorem alook_aset {α : Type} (k n : Int) (x : α) : ∀ l : List (Int × α), alook k (aset n x l) = if k = n then some x else alook k l
  | [] => by simp [aset, alook]
  | (a, u) :: l => by
    simp only [aset]
    by_cases h : n = a
    · subst h; rw [if_pos rfl]; simp only [alook]; by_cases hk : k = n <;> simp [hk]
    · rw [if_neg h]; simp only [alook, alook_aset k n x l]
      by_cases hk : k = a
      · subst hk; rw [if_pos rfl, if_pos rfl, if_neg (fun e => h e.symm)]
      · rw [if_neg hk, if_neg hk]
theorem alook_same {α : Type} (n : Int) (x : α) (l : List (Int × α)) : alook n (aset n x l) = some x := by rw [alook_aset, if_pos rfl]
theorem alook_other {α : Type} {k n : Int} (x : α) (l : List (Int × α)) (h : ¬ n = k) : alook k (aset n x l) = alook k l := by rw [alook_aset, if_neg (fun e => h e.symm)]
theorem SubW.setT {B : Nat} {s : Sub} (h : SubW B s) (n : Int) {t : Ty} (ht : wdT t ≤ B) : SubW B ⟨aset n t s.ts, s.rs⟩ := ⟨fun k u hu => by
  dsimp only at hu; rw [alook_aset] at hu; split at hu
  · injection hu with hu; subst hu; exact ht
  · exact h.1 k u hu, h.2⟩
theorem SubW.setR {B : Nat} {s : Sub} (h : SubW B s) (n : Int) {r : Rw} (hr : r.labels.length ≤ B) : SubW B ⟨s.ts, aset n r s.rs⟩ := ⟨h.1, fun k u hu => by
  dsimp only at hu; rw [alook_aset] at hu; split at hu
  · injection hu with hu; subst hu; exact hr
  · exact h.2 k u hu⟩
/-- What is free in a scheme; what is bound when a type is generalized. -/
def freeI (s : Sch) : List Int × List Int := (lessI (walkT s.ty ([], [])).1 s.ts, lessI (walkT s.ty ([], [])).2 s.rs)
def genI (env : List Sch) (p : List Int × List Int) : List Int × List Int := env.foldl (fun p x => (lessI p.1 (freeI x).1, lessI p.2 (freeI x).2)) p
def genS (env : List Sch) (t : Ty) : Sch := ⟨(genI env (walkT t ([], []))).1, (genI env (walkT t ([], []))).2, applyT noneS t⟩
/-- New variables in the stead of others. -/
def varT (n : Int) : Ty := ⟨7, [], n, [], [], 0⟩
def freshT : List Int → Int → Sub → Sub
  | [], _, s => s
  | n :: l, k, s => freshT l (k + 1) ⟨aset n (varT k) s.ts, s.rs⟩
def freshR : List Int → Int → Sub → Sub
  | [], _, s => s
  | n :: l, k, s => freshR l (k + 1) ⟨s.ts, aset n ⟨[], k⟩ s.rs⟩
def freshS (s : Sch) (k : Int) : Sub := freshR s.rs (k + s.ts.length) (freshT s.ts k noneS)
def MP.tyn (t : Ty) (n : Int) : MP := MP.mem (fun y => .tuple #[.agg (tyV t y).toArray, .int .i64 n]) (fun y m => TyR m t (tyV t y)) fun hm h => h.mono hm
theorem genI_len : ∀ (env : List Sch) (p : List Int × List Int), (genI env p).1.length ≤ p.1.length ∧ (genI env p).2.length ≤ p.2.length
  | [], p => ⟨Nat.le_refl _, Nat.le_refl _⟩
  | x :: l, p => by
    have h := genI_len l (lessI p.1 (freeI x).1, lessI p.2 (freeI x).2)
    have h1 := lessI_len p.1 (freeI x).1; have h2 := lessI_len p.2 (freeI x).2
    exact ⟨Nat.le_trans h.1 h1, Nat.le_trans h.2 h2⟩
theorem freshT_w {B : Nat} : ∀ (l : List Int) (k : Int) (s : Sub), SubW B s → SubW B (freshT l k s)
  | [], _, s, h => h
  | n :: l, k, s, h => freshT_w l (k + 1) _ ⟨fun a t ht => by
      dsimp only at ht; rw [alook_aset] at ht
      split at ht
      · injection ht with ht; subst ht; exact Nat.zero_le _
      · exact h.1 a t ht, h.2⟩
theorem freshR_w {B : Nat} : ∀ (l : List Int) (k : Int) (s : Sub), SubW B s → SubW B (freshR l k s)
  | [], _, s, h => h
  | n :: l, k, s, h => freshR_w l (k + 1) _ ⟨h.1, fun a t ht => by
      dsimp only at ht; rw [alook_aset] at ht
      split at ht
      · injection ht with ht; subst ht; exact Nat.zero_le _
      · exact h.2 a t ht⟩
theorem schV_open {m : Mem} {s : Sch} {y : YY × YY} (h : SchR m s (schV s y)) : Ints m y.1.1.1 s.ts.length y.1.1.2 s.ts ∧ Ints m y.1.2.1 s.rs.length y.1.2.2 s.rs ∧ TyR m s.ty (tyV s.ty y.2) := by
  obtain ⟨y', e, h1, h2, h3⟩ := h
  obtain ⟨⟨⟨a, b⟩, c, d⟩, ⟨a2, b2⟩, c2, d2⟩ := y
  obtain ⟨⟨⟨a', b'⟩, c', d'⟩, ⟨a2', b2'⟩, c2', d2'⟩ := y'
  simp only [schV, tyV, List.cons.injEq, Value.slice.injEq, true_and, and_true] at e
  obtain ⟨⟨rfl, rfl⟩, ⟨rfl, rfl⟩, ⟨rfl, rfl⟩, ⟨rfl, rfl⟩⟩ := e
  exact ⟨h1, h2, h3⟩
theorem varT_R {m : Mem} {n : Int} (h : InI64 n) : TyR m (varT n) [.int .i64 7, S [], .int .i64 n, .slice none 0 0, .slice none 0 0, .int .i64 0] := TyR.build (ks := []) (ls := []) Sl.empty Sl.empty ⟨by omega, by omega⟩ h ⟨by omega, by omega⟩
theorem varR_R {m : Mem} {n : Int} (h : InI64 n) : RwR m ⟨[], n⟩ [.slice none 0 0, .int .i64 n] := ⟨_, _, rfl, Sl.empty, h⟩
theorem freshS_w {B : Nat} (s : Sch) (k : Int) : SubW B (freshS s k) := freshR_w _ _ _ (freshT_w _ _ _ noneS_w)
set_option maxHeartbeats 400000 in
theorem bare_c {w : World} {m : Mem} {t : Ty} {vs_t : List Value} (hA : Agree w m) (h_t : TyR m t vs_t) (hb : wdT t ≤ 400000000) : FnV Try.prog 10 #[.agg vs_t.toArray] w m (fun _ m v => (MP.sch ⟨[], [], applyT noneS t⟩).p m v) := by
  obtain ⟨o_t, c_t, oL_t, cL_t, rfl, hk_t, hs_t, hi_t, hj_t, hr_t⟩ := h_t.open_
  have hbg_t := hk_t.big; have hcp_t := hk_t.cap; have hbs_t := hs_t.big; have hcs_t := hs_t.cap
  have hrw_t : RwR _ ⟨t.labels, t.rv⟩ _ := ⟨_, _, rfl, hs_t, hr_t⟩
  refine fn_enter (vs := [_]) Try.func10 rfl rfl rfl fun a0 hfr0 => ?_
  have hst0 := st_enter hA (loc_nil [] _ w m)
  have hM : MLe m m := MLe.refl m
  refine seq_any fun _ hK1 => ?_
  replace hst0 := hst0.more (r := .free) trivial List.nodup_nil (by simp [Res.blocks])
  refine ra0 (tch := [(1, 0, (fun v => .blk v _))]) hst0 hfr0 (.cons rfl (ob_box rfl rfl) <| .consT rfl rfl (fun _ => rfl) rfl (ob_allocL Try.zeroValue35 rfl) <| .nil) ?_
  intro a1 w1 m1 hst1 hle1 hk1
  have hfr1 := hk1.fr (T' := []) (.nil)
  obtain ⟨g2, e2, hc1⟩ := hk1.ex 1 rfl
  replace hfr1 := hfr1.cons e2
  obtain ⟨g3, e3, _⟩ := hk1.ex 2 rfl
  replace hfr1 := hfr1.cons e3
  replace hst1 := hst1.fin (L' := [_]) (.cons e3 <| .nil)
  replace h_t := h_t.mono hle1
  clear hst0 hfr0 hk1
  refine hK1 _ _ ?_; clear hK1
  refine seq_any fun _ hK4 => ?_
  refine region_any (tch := [(4, 0, (fun _ => .blkx _ _ _))]) (fun _ => mixed) hst1 hfr1 (by kernel_rfl) (by kernel_rfl) (by kernel_rfl) (.cons rfl (ob_call (φ := MP.sub noneS) rfl (.nil) Try.call12 (fun w m hK => by have hle_ := KC.le hK; have hA := KC.agree hK; exact FnG.mono (none_c hA) fun _ _ _ _ h => h)) <| .cons rfl (ob_loadS' rfl hc1 Try.isAgg27 Try.sizeOf27 rfl rfl) <| .cons rfl (ob_imgE 3 rfl rfl rfl fun y3 => ob_call (φ := MP.ty (applyT noneS t)) rfl (.cons rfl <| .cons rfl <| .nil) Try.call17 (fun w m hK => by have hle_ := KC.le hK; have hA := KC.agree hK; have hr0_ := hK.2; have h_t := h_t.mono hle_; exact FnG.mono (apply_c t hA hr0_ h_t noneS_w hb) fun _ _ _ _ h => h)) <| .cons rfl (ob_imgV 5 rfl rfl rfl fun y5 => ob_buildS (.cons rfl <| .nil) Try.underlying35 Try.zeroValue35 (.cons Try.sizeOf33 <| .cons Try.sizeOf33 <| .cons Try.sizeOf27 <| .nil) rfl) <| .consT rfl rfl (fun _ => rfl) rfl (ob_imgTX 6 rfl rfl rfl fun y6 => ob_store' rfl rfl rfl Try.sizeOf35 rfl rfl rfl) <| .nil) ?_
  intro a2 w2 m2 hst2 hle2 hk2
  have hfr2 := hk2.fr (T' := [(2, _)]) (.old rfl rfl <| .nil)
  replace hst2 := hst2.fin (L' := [_]) (.cons rfl <| .nil)
  try simp only [List.take_succ_cons, List.take_zero, List.drop_succ_cons, List.drop_zero, List.cons_append, List.nil_append, List.append_nil, List.length_cons, List.length_nil, Nat.zero_add, Nat.reduceAdd] at hst2
  obtain ⟨⟨⟨oa, ca⟩, ol, cl⟩, hcv, hst2⟩ := hst2.unx (k := 0) rfl (fun _ => rfl)
  clear hst1 hfr1 hk2
  refine hK4 _ _ ?_; clear hK4
  refine wp_ret ?_
  repeat (with_reducible first | refine then_ret ?_ | refine block_ret ?_)
  exact fn_ret hst2 hfr2 rfl (.cell rfl (load_blk (blk_heap (hst2.loc.at_ (k := 0) rfl)) Try.isAgg35 Try.sizeOf35) <| .nil) (⟨(((none, 0), (none, 0)), ((oa, ca), (ol, cl))), rfl, _, rfl, Sl.empty, Sl.empty, hcv⟩)

set_option maxHeartbeats 400000 in
theorem without_c {w : World} {m : Mem} {o_l : Option Addr} {c_l : Nat} {l : List Int} {o_k : Option Addr} {c_k : Nat} {k : List Int} (hA : Agree w m) (h_l : Ints m o_l l.length c_l l) (h_k : Ints m o_k k.length c_k k) (hbig : l.length ≤ 1000000000) : FnV Try.prog 27 #[.slice o_l l.length c_l, .slice o_k k.length c_k] w m (fun _ m v => (MP.ints (lessI l k)).p m v) := by
  have hb_l := h_l.big; have hc_l := h_l.cap
  have hb_k := h_k.big; have hc_k := h_k.cap
  refine fn_enter (vs := [_, _]) Try.func27 rfl rfl rfl fun a0 hfr0 => ?_
  have hst0 := st_enter hA (loc_nil [] _ w m)
  have hM : MLe m m := MLe.refl m
  refine seq_any fun _ hK1 => ?_
  refine rp0 hst0 hfr0 (.cons rfl (ob_box rfl rfl) <| .cons rfl (ob_assign rfl) <| .nil) ?_
  intro a1 w1 m1 hst1 hle1 hk1
  have hfr1 := hk1.fr (T' := [(0, _)]) (.old rfl rfl <| .nil)
  obtain ⟨gB, e2, hc3⟩ := hk1.ex 3 rfl
  replace hfr1 := hfr1.cons e2
  replace h_l := h_l.mono hle1
  replace h_k := h_k.mono hle1
  replace hM := hM.trans hle1
  clear hst0 hfr0 hk1
  refine hK1 _ _ ?_; clear hK1
  refine seq_any fun _ hK3 => ?_
  replace hst1 := hst1.more (r := .free) trivial List.nodup_nil (by simp [Res.blocks])
  refine ra0 (tch := [(1, 0, (fun v => .mrow v l.length 1 3 (l.map intV))), (3, 0, (fun v => .row (nz v) (lessI l k).length 1 3 ((lessI l k).map intV)))]) hst1 hfr1 (.cons rfl (ob_move rfl) <| .consT rfl rfl (fun _ => rfl) rfl (ob_callT rfl (.cons rfl <| .nil) Try.call38 (κ := .ex (MP.made' l.length)) (fun σ w m hK hr hkn => by have hle_ := KC.le hK; have hA := KC.agree hK; have hM := hM.trans hle_; have h_l := h_l.mono hle_; have h_k := h_k.mono hle_; have hc3 := hc3.mono hle_; exact cloneI_t hA h_l (by omega))) <| .cons rfl (ob_makeFunc (.cons rfl <| .nil)) <| .consT rfl rfl (fun _ => rfl) rfl (ob_imgT 6 rfl rfl rfl fun y6 => ob_callTV (x := .tmp 6) (fun v => .mrow v l.length 1 3 (l.map intV)) rfl (fun _ => rfl) rfl (.cons rfl <| .cons rfl <| .nil) Try.call37 (κ := .ex (MP.sl (lessI l k).length ((lessI l k).map intV))) (fun w m hK hr => by have hle_ := KC.le hK; have hA := KC.agree hK; have hM := hM.trans hle_; have hr0_ := hK.2; have h_l := h_l.mono hle_; have h_k := h_k.mono hle_; have hc3 := hc3.mono hle_; exact deleteI_t hA hr hc3 h_k (by omega))) <| .consA 8 rfl rfl <| .nil) ?_
  intro a2 w2 m2 hst2 hle2 hk2
  have hfr2 := hk2.fr (T' := []) (.nil)
  obtain ⟨y4, e4, hy4⟩ := hk2.ex 6 rfl
  obtain ⟨⟨oQ, cQ⟩, e5, hrow_q, hcQ⟩ := hk2.ex 8 rfl
  replace hfr2 := hfr2.cons (hk2.same 4 rfl e5)
  replace hst2 := hst2.fin (L' := [_]) (.cons e4 <| .cons e5 <| .nil)
  clear hst1 hfr1 hk2
  refine hK3 _ _ ?_; clear hK3
  refine wp_ret ?_
  repeat (with_reducible first | refine then_ret ?_ | refine block_ret ?_)
  exact fn_ret hst2 hfr2 rfl (.tmp rfl <| .nil) (⟨(oQ, cQ), rfl, Ints.of_row hrow_q rfl hcQ (by have := lessI_len l k; omega)⟩)

set_option maxHeartbeats 400000 in
theorem free_c {w : World} {m : Mem} {s : Sch} {vs_s : List Value} (hA : Agree w m) (h_s : SchR m s vs_s) (hb : cntT s.ty ≤ 100000000) : FnV Try.prog 18 #[.agg vs_s.toArray] w m (fun _ m v => (MP.two (freeI s).1 (freeI s).2).p m v) := by
  obtain ⟨⟨⟨⟨oa_s, ca_s⟩, ob_s, cb_s⟩, ⟨oc_s, cc_s⟩, od_s, cd_s⟩, rfl, hts_s, hrs_s, hty_s⟩ := id h_s
  have hb1_s := hts_s.big; have hb2_s := hrs_s.big
  refine fn_enter (vs := [_]) Try.func18 rfl rfl rfl fun a0 hfr0 => ?_
  have hst0 := st_enter hA (loc_nil [] _ w m)
  have hM : MLe m m := MLe.refl m
  have hwr := walk_room s.ty ([], [])
  simp only [room, List.length_nil] at hwr
  refine seq_any fun _ hK1 => ?_
  refine rp0 hst0 hfr0 (.cons rfl (ob_box rfl rfl) <| .cons rfl (ob_assign rfl) <| .cons rfl (ob_assign rfl) <| .nil) ?_
  intro a1 w1 m1 hst1 hle1 hk1
  have hfr1 := hk1.fr (T' := []) (.nil)
  obtain ⟨g2, e2, hc1⟩ := hk1.ex 1 rfl
  replace hfr1 := hfr1.cons e2
  replace hts_s := hts_s.mono hle1
  replace hrs_s := hrs_s.mono hle1
  replace hty_s := hty_s.mono hle1
  clear hst0 hfr0 hk1
  refine hK1 _ _ ?_; clear hK1
  refine seq_any fun _ hK3 => ?_
  refine ra0 (tch := []) hst1 hfr1 (.cons rfl (ob_fieldAddrO (off := 2) rfl Try.underlying35 rfl rfl Try.sizeOf27 rfl) <| .cons rfl (ob_loadS rfl hc1 Try.isAgg27 Try.sizeOf27 rfl rfl) <| .cons rfl (ob_call (φ := MP.two (walkT s.ty ([], [])).1 (walkT s.ty ([], [])).2) rfl (.cons rfl <| .nil) Try.call26 (fun w m hK => by have hle_ := KC.le hK; have hA := KC.agree hK; have hty_s := hty_s.mono hle_; exact FnG.mono (vars_c (t := s.ty) hA hty_s hb) fun _ _ _ _ h => h)) <| .cons rfl (ob_imgV 9 rfl rfl rfl fun y9 => ob_move rfl) <| .cons rfl (ob_imgV 6 rfl rfl rfl fun y6 => ob_extract rfl rfl) <| .cons rfl (ob_imgV 6 rfl rfl rfl fun y6 => ob_extract rfl rfl) <| .consA 10 rfl rfl <| .consA 11 rfl rfl <| .nil) ?_
  intro a2 w2 m2 hst2 hle2 hk2
  have hfr2 := hk2.fr (T' := [(1, _)]) (.old rfl rfl <| .nil)
  obtain ⟨⟨⟨o1, c1⟩, q1⟩, e4, hI1, _⟩ := hk2.ex 10 rfl
  obtain ⟨⟨q2, o2, c2⟩, e5, _, hI2⟩ := hk2.ex 11 rfl
  replace hfr2 := hfr2.cons (hk2.same 4 rfl e4)
  replace hfr2 := hfr2.cons (hk2.same 5 rfl e5)
  replace hts_s := hts_s.mono hle2
  replace hrs_s := hrs_s.mono hle2
  replace hc1 := hc1.mono hle2
  clear hst1 hfr1 hk2
  refine hK3 _ _ ?_; clear hK3
  refine seq_any fun _ hK6 => ?_
  refine region_any (tch := []) (fun _ => mixed) hst2 hfr2 (by kernel_rfl) (by kernel_rfl) (by kernel_rfl) (.cons rfl (ob_move rfl) <| .cons rfl (ob_fieldAddrO (off := 0) rfl Try.underlying35 rfl rfl Try.sizeOf33 rfl) <| .cons rfl (ob_load1 rfl hc1 Try.isAgg33 rfl) <| .cons rfl (ob_call (φ := MP.ints (lessI (walkT s.ty ([], [])).1 s.ts)) rfl (.cons rfl <| .cons rfl <| .nil) Try.call27 (fun w m hK => by have hle_ := KC.le hK; have hA := KC.agree hK; have hts_s := hts_s.mono hle_; have hI1 := hI1.mono hle_; exact FnG.mono (without_c hA hI1 hts_s (by omega)) fun _ _ _ _ h => h)) <| .cons rfl (ob_move rfl) <| .cons rfl (ob_fieldAddrO (off := 1) rfl Try.underlying35 rfl rfl Try.sizeOf33 rfl) <| .cons rfl (ob_load1 rfl hc1 Try.isAgg33 rfl) <| .cons rfl (ob_call (φ := MP.ints (lessI (walkT s.ty ([], [])).2 s.rs)) rfl (.cons rfl <| .cons rfl <| .nil) Try.call27 (fun w m hK => by have hle_ := KC.le hK; have hA := KC.agree hK; have hrs_s := hrs_s.mono hle_; have hI2 := hI2.mono hle_; exact FnG.mono (without_c hA hI2 hrs_s (by omega)) fun _ _ _ _ h => h)) <| .consA 15 rfl rfl <| .consA 19 rfl rfl <| .nil) ?_
  intro a3 w3 m3 hst3 hle3 hk3
  have hfr3 := hk3.fr (T' := []) (.nil)
  obtain ⟨⟨o3, c3⟩, e7, hI3⟩ := hk3.ex 15 rfl
  obtain ⟨⟨o4, c4⟩, e8, hI4⟩ := hk3.ex 19 rfl
  replace hfr3 := hfr3.cons (hk3.same 2 rfl e7)
  replace hfr3 := hfr3.cons (hk3.same 3 rfl e8)
  clear hst2 hfr2 hk3
  refine hK6 _ _ ?_; clear hK6
  refine wp_ret ?_
  repeat (with_reducible first | refine then_ret ?_ | refine block_ret ?_)
  exact fn_ret hst3 hfr3 rfl (.tmp rfl <| .tmp rfl <| .nil) (⟨((o3, c3), (o4, c4)), rfl, hI3, hI4⟩)

set_option maxHeartbeats 1600000 in
theorem general_c {w : World} {m : Mem} {o_env : Option Addr} {c_env : Nat} {env : List Sch} {t : Ty} {vs_t : List Value} (hA : Agree w m) (h_env : Schs m o_env env.length c_env env) (h_t : TyR m t vs_t) (hw : wdT t ≤ 400000000) (hb : cntT t ≤ 100000000) (he : ∀ x ∈ env, cntT x.ty ≤ 100000000) : FnV Try.prog 11 #[.slice o_env env.length c_env, .agg vs_t.toArray] w m (fun _ m v => (MP.sch (genS env t)).p m v) := by
  have hb_env := h_env.big; have hc_env := h_env.cap
  obtain ⟨o_t, c_t, oL_t, cL_t, rfl, hk_t, hs_t, hi_t, hj_t, hr_t⟩ := h_t.open_
  have hbg_t := hk_t.big; have hcp_t := hk_t.cap; have hbs_t := hs_t.big; have hcs_t := hs_t.cap
  have hrw_t : RwR _ ⟨t.labels, t.rv⟩ _ := ⟨_, _, rfl, hs_t, hr_t⟩
  refine fn_enter (vs := [_, _]) Try.func11 rfl rfl rfl fun a0 hfr0 => ?_
  have hst0 := st_enter hA (loc_nil [] _ w m)
  have hM : MLe m m := MLe.refl m
  have hwr := walk_room t ([], [])
  simp only [room, List.length_nil] at hwr
  refine seq_any fun _ hK1 => ?_
  replace hst0 := hst0.more (r := .free) trivial List.nodup_nil (by simp [Res.blocks])
  refine ra0 (tch := [(1, 0, (fun v => .blk v _))]) hst0 hfr0 (.cons rfl (ob_box rfl rfl) <| .consT rfl rfl (fun _ => rfl) rfl (ob_allocL Try.zeroValue35 rfl) <| .nil) ?_
  intro a1 w1 m1 hst1 hle1 hk1
  have hfr1 := hk1.fr (T' := [(0, _)]) (.old rfl rfl <| .nil)
  obtain ⟨g2, e2, hc3⟩ := hk1.ex 3 rfl
  replace hfr1 := hfr1.cons e2
  obtain ⟨g3, e3, _⟩ := hk1.ex 4 rfl
  replace hfr1 := hfr1.cons e3
  replace hst1 := hst1.fin (L' := [_]) (.cons e3 <| .nil)
  replace h_env := h_env.mono hle1
  replace h_t := h_t.mono hle1
  clear hst0 hfr0 hk1
  refine hK1 _ _ ?_; clear hK1
  refine seq_any fun _ hK4 => ?_
  replace hst1 := hst1.more (r := .free) trivial List.nodup_nil (by simp [Res.blocks])
  refine ra0 (tch := [(2, 1, (fun v => .blk v _)), (3, 1, (fun v => .blkx v _ _))]) hst1 hfr1 (.cons rfl (ob_loadS' rfl hc3 Try.isAgg27 Try.sizeOf27 rfl rfl) <| .cons rfl (ob_call (φ := MP.sch ⟨[], [], applyT noneS t⟩) rfl (.cons rfl <| .nil) Try.call10 (fun w m hK => by have hle_ := KC.le hK; have hA := KC.agree hK; have h_t := h_t.mono hle_; exact FnG.mono (bare_c hA h_t (by omega)) fun _ _ _ _ h => h)) <| .consT rfl rfl (fun _ => rfl) rfl (ob_allocL Try.zeroValue35 rfl) <| .consT rfl rfl (fun _ => rfl) rfl (ob_imgT 5 rfl rfl rfl fun y5 => ob_imgTX 11 rfl rfl rfl fun y11 => ob_storeF rfl rfl rfl rfl rfl Try.sizeOf35 rfl rfl rfl) <| .nil) ?_
  intro a2 w2 m2 hst2 hle2 hk2
  have hfr2 := hk2.fr (T' := [(0, _), (3, _), (4, _)]) (.old rfl rfl <| .old rfl rfl <| .old rfl rfl <| .nil)
  obtain ⟨gS, e5, _⟩ := hk2.ex 5 rfl
  replace hfr2 := hfr2.cons e5
  replace hst2 := hst2.fin (L' := [_, _]) (.cons e5 <| .cons e5 <| .nil)
  try simp only [List.take_succ_cons, List.take_zero, List.drop_succ_cons, List.drop_zero, List.cons_append, List.nil_append, List.append_nil, List.length_cons, List.length_nil, Nat.zero_add, Nat.reduceAdd] at hst2
  obtain ⟨⟨⟨⟨oA, cA⟩, oB, cB⟩, ⟨oC, cC⟩, oD, cD⟩, hS0, hst2⟩ := hst2.unx (k := 1) rfl (fun _ => rfl)
  replace h_env := h_env.mono hle2
  replace h_t := h_t.mono hle2
  replace hc3 := hc3.mono hle2
  clear hst1 hfr1 hk2
  have hT0 := (schV_open hS0).2.2
  refine hK4 _ _ ?_; clear hK4
  refine seq_any fun _ hK7 => ?_
  refine region_cut 5 (by kernel_rfl) ?_
  refine ops_seq (tch := []) hst2 hfr2 (by kernel_rfl) (by kernel_rfl) (by kernel_rfl) (.cons rfl (ob_loadS' rfl hc3 Try.isAgg27 Try.sizeOf27 rfl rfl) <| .cons rfl (ob_call (φ := MP.two (walkT t ([], [])).1 (walkT t ([], [])).2) rfl (.cons rfl <| .nil) Try.call26 (fun w m hK => by have hle_ := KC.le hK; have hA := KC.agree hK; have h_t := h_t.mono hle_; exact FnG.mono (vars_c (t := t) hA h_t hb) fun _ _ _ _ h => h)) <| .cons rfl (ob_imgV 14 rfl rfl rfl fun y14 => ob_move rfl) <| .cons rfl (ob_imgV 12 rfl rfl rfl fun y12 => ob_extract rfl rfl) <| .cons rfl (ob_imgV 12 rfl rfl rfl fun y12 => ob_extract rfl rfl) <| .nil) ?_
  intro a3 w3 m3 hst3 hle3 hk3
  have hfr3 := hk3.fr (T' := [(0, _), (3, _), (4, _), (5, _)]) (.old rfl rfl <| .old rfl rfl <| .old rfl rfl <| .old rfl rfl <| .nil)
  obtain ⟨⟨⟨o1, c1⟩, q1⟩, e8, hI1, _⟩ := hk3.ex 15 rfl
  replace hfr3 := hfr3.cons e8
  obtain ⟨⟨q2, o2, c2⟩, e9, _, hI2⟩ := hk3.ex 16 rfl
  replace hfr3 := hfr3.cons e9
  replace h_env := h_env.mono hle3
  replace hT0 := hT0.mono hle3
  clear hst2 hfr2 hk3
  refine ops_seq (tch := [(1, 1, (fun _ => .blk _ _)), (3, 1, (fun _ => .blk _ _))]) hst3 hfr3 (by kernel_rfl) (by kernel_rfl) (by kernel_rfl) (.cons rfl (ob_fieldAddrO (off := 0) rfl Try.underlying35 rfl rfl Try.sizeOf33 rfl) <| .consT rfl rfl (fun _ => rfl) rfl (ob_store rfl rfl rfl Try.sizeOf33 rfl rfl rfl) <| .cons rfl (ob_fieldAddrO (off := 1) rfl Try.underlying35 rfl rfl Try.sizeOf33 rfl) <| .consT rfl rfl (fun _ => rfl) rfl (ob_store rfl rfl rfl Try.sizeOf33 rfl rfl rfl) <| .nil) ?_
  intro a4 w4 m4 hst4 hle4 hk4
  have hfr4 := hk4.fr (T' := [(0, _), (3, _), (4, _), (5, _), (15, _), (16, _)]) (.old rfl rfl <| .old rfl rfl <| .old rfl rfl <| .old rfl rfl <| .old rfl rfl <| .old rfl rfl <| .nil)
  replace hst4 := hst4.fin (L' := [_, _]) (.cons rfl <| .cons rfl <| .nil)
  try simp only [List.take_succ_cons, List.take_zero, List.drop_succ_cons, List.drop_zero, List.cons_append, List.nil_append, List.append_nil, List.length_cons, List.length_nil, Nat.zero_add, Nat.reduceAdd] at hst4
  replace h_env := h_env.mono hle4
  replace hT0 := hT0.mono hle4
  replace hI1 := hI1.mono hle4
  replace hI2 := hI2.mono hle4
  clear hst3 hfr3 hk4
  refine hK7 _ _ ?_; clear hK7
  refine seq_any fun _ hK10 => ?_
  refine seq_any fun _ hK11 => ?_
  refine rp0 hst4 hfr4 (.cons rfl (ob_move rfl) <| .cons rfl (ob_len rfl Try.underlying32) <| .cons rfl (ob_move rfl) <| .nil) ?_
  intro a5 w5 m5 hst5 hle5 hk5
  have hfr5 := hk5.fr (T' := [(4, _), (5, _), (19, _), (20, _), (21, _)]) (.old rfl rfl <| .old rfl rfl <| .new rfl <| .new rfl <| .new rfl <| .nil)
  replace h_env := h_env.mono hle5
  replace hT0 := hT0.mono hle5
  replace hI1 := hI1.mono hle5
  replace hI2 := hI2.mono hle5
  clear hst4 hfr4 hk5
  refine hK11 _ _ ?_; clear hK11
  refine wp_block ?_
  refine loop_any (T := [(4, _), (5, _), (19, _), (20, _)]) (fun (y : Nat × List Int × List Int × (Option Addr × Nat) × (Option Addr × Nat)) => ([(21, .int .i64 (y.1 : Int))] : List (Nat × Value))) (fun y => [_, .blk (.pointer (some ⟨gS, 0, none⟩)) (.cells (schV ⟨y.2.1, y.2.2.1, applyT noneS t⟩ ((y.2.2.2.1, y.2.2.2.2), ((oC, cC), (oD, cD)))).toArray 35)]) (fun (y : Nat × List Int × List Int × (Option Addr × Nat) × (Option Addr × Nat)) m => (fun (y : Nat) (ga : List Int) (gb : List Int) (qa : (Option Addr × Nat)) (qb : (Option Addr × Nat)) => (y ≤ env.length) ∧ (Ints m qa.1 ga.length qa.2 ga) ∧ (Ints m qb.1 gb.length qb.2 gb) ∧ (genI env (walkT t ([], [])) = genI (env.drop y) (ga, gb)) ∧ (ga.length ≤ 1000000000 ∧ gb.length ≤ 1000000000)) y.1 y.2.1 y.2.2.1 y.2.2.2.1 y.2.2.2.2) (fun y => env.length - y.1) ((0, (walkT t ([], [])).1, (walkT t ([], [])).2, (o1, c1), (o2, c2))) ⟨hst5, MLe.refl _, hfr5.sub (.cons rfl <| .cons rfl <| .cons rfl <| .cons rfl <| .cons rfl <| .nil), ⟨Nat.zero_le _, hI1, hI2, rfl, ⟨(by dsimp only; omega), (by dsimp only; omega)⟩⟩⟩ fun y a6 w6 m6 hh6 => ?_
  have hst6 := hh6.st; have hle6 := hh6.le; have hfr6 := hh6.fr; have hrel := hh6.rel; clear hh6
  replace h_env := h_env.mono hle6
  replace hT0 := hT0.mono hle6
  clear hst5 hfr5
  obtain ⟨y, ga, gb, qa, qb⟩ := y
  dsimp only at hrel hfr6 hst6
  obtain ⟨hyn, hJa, hJb, hJg, hJl⟩ := hrel
  obtain ⟨hla9, hlb9⟩ := hJl
  have hlh6 := hle6
  refine seq_any fun _ hK13 => ?_
  refine rp0 hst6 hfr6 (.cons rfl (ob_lss rfl rfl) <| .nil) ?_
  intro a7 w7 m7 hst7 hle7 hk7
  have hfr7 := hk7.fr (T' := [(21, _), (4, _), (5, _), (19, _), (20, _), (22, _)]) (.old rfl rfl <| .old rfl rfl <| .old rfl rfl <| .old rfl rfl <| .old rfl rfl <| .new rfl <| .nil)
  replace h_env := h_env.mono hle7
  replace hT0 := hT0.mono hle7
  replace hJa := hJa.mono hle7
  replace hJb := hJb.mono hle7
  have hlh7 := hlh6.trans hle7
  clear hst6 hfr6 hk7
  refine hK13 _ _ ?_; clear hK13
  refine seq_any fun _ hK14 => ?_
  refine cond_any hfr7 rfl rfl (fun hb22 => ?_) (fun hb22 => ?_)
  · try simp only [nq1, nq2, nq3, nq4, nq5, nq6, nq7, nq8, nq9, u8_eq] at hb22
    refine wp_skip ?_
    refine hK14 _ _ ?_; clear hK14
    refine seq_any fun _ hK15 => ?_
    refine wp_block ?_
    refine seq_any fun _ hK16 => ?_
    obtain ⟨p17, vs17, x17, ho17, hd17, hm_x17, ht17, hcv17, hl17, hv17⟩ := h_env.nth (k := y) (by omega)
    cases ho17
    obtain ⟨⟨⟨⟨oa17, ca17⟩, ob17, cb17⟩, ⟨oc17, cc17⟩, od17, cd17⟩, rfl, hts17, hrs17, hty17⟩ := id hv17
    have hb117 := hts17.big; have hb217 := hrs17.big
    replace hst7 := hst7.more (r := .free) trivial List.nodup_nil (by simp [Res.blocks])
    refine ra0 (tch := [(2, 2, (fun v => .blk v _)), (3, 2, (fun v => .blk v _))]) hst7 hfr7 (.cons rfl (ob_indexAddr (k := y) rfl rfl Try.underlying32 Try.sizeOf35 rfl (by omega)) <| .cons rfl (ob_loadS' rfl hcv17 Try.isAgg35 Try.sizeOf35 rfl rfl) <| .consT rfl rfl (fun _ => rfl) rfl (ob_allocL Try.zeroValue35 rfl) <| .consT rfl rfl (fun _ => rfl) rfl (ob_imgT 7 rfl rfl rfl fun y7 => ob_storeF rfl rfl rfl rfl rfl Try.sizeOf35 rfl rfl hv17.one) <| .nil) ?_
    intro a8 w8 m8 hst8 hle8 hk8
    have hfr8 := hk8.fr (T' := [(21, _), (4, _), (5, _), (19, _), (20, _)]) (.old rfl rfl <| .old rfl rfl <| .old rfl rfl <| .old rfl rfl <| .old rfl rfl <| .nil)
    obtain ⟨g18, e18, _⟩ := hk8.ex 7 rfl
    replace hfr8 := hfr8.cons e18
    replace hst8 := hst8.fin (L' := [_, _, _]) (.cons e18 <| .cons e18 <| .nil)
    try simp only [List.take_succ_cons, List.take_zero, List.drop_succ_cons, List.drop_zero, List.cons_append, List.nil_append, List.append_nil, List.length_cons, List.length_nil, Nat.zero_add, Nat.reduceAdd] at hst8
    replace hJa := hJa.mono hle8
    replace hJb := hJb.mono hle8
    replace hv17 := hv17.mono hle8
    have hlh8 := hlh7.trans hle8
    clear hst7 hfr7 hk8
    have hex := he x17 hm_x17
    have hwx := walk_room x17.ty ([], [])
    simp only [room, List.length_nil] at hwx
    refine hK16 _ _ ?_; clear hK16
    refine seq_any fun _ hK19 => ?_
    refine ra0 (tch := []) hst8 hfr8 (.cons rfl (ob_loadLA (j := 2) rfl rfl Try.isAgg35 Try.sizeOf35 rfl) <| .cons rfl (ob_call (φ := MP.two (freeI x17).1 (freeI x17).2) rfl (.cons rfl <| .nil) Try.call18 (fun w m hK => by have hle_ := KC.le hK; have hA := KC.agree hK; have hv17 := hv17.mono hle_; exact FnG.mono (free_c (s := x17) hA hv17 hex) fun _ _ _ _ h => h)) <| .cons rfl (ob_imgV 27 rfl rfl rfl fun y27 => ob_move rfl) <| .cons rfl (ob_imgV 25 rfl rfl rfl fun y25 => ob_extract rfl rfl) <| .cons rfl (ob_imgV 25 rfl rfl rfl fun y25 => ob_extract rfl rfl) <| .consA 28 rfl rfl <| .consA 29 rfl rfl <| .nil) ?_
    intro a9 w9 m9 hst9 hle9 hk9
    have hfr9 := hk9.fr (T' := [(21, _), (4, _), (5, _), (19, _), (20, _)]) (.old rfl rfl <| .old rfl rfl <| .old rfl rfl <| .old rfl rfl <| .old rfl rfl <| .nil)
    obtain ⟨⟨⟨o3, c3⟩, q3⟩, e20, hI3, _⟩ := hk9.ex 28 rfl
    obtain ⟨⟨q4, o4, c4⟩, e21, _, hI4⟩ := hk9.ex 29 rfl
    replace hfr9 := hfr9.cons (hk9.same 8 rfl e20)
    replace hfr9 := hfr9.cons (hk9.same 9 rfl e21)
    replace hJa := hJa.mono hle9
    replace hJb := hJb.mono hle9
    have hlh9 := hlh8.trans hle9
    clear hst8 hfr8 hk9
    refine hK19 _ _ ?_; clear hK19
    refine region_any (tch := [(9, 1, (fun u => .blk _ (.cells (_ ++ [u] ++ _).toArray _))), (11, 1, (fun u => .blk (.pointer (some ⟨gS, 0, none⟩)) (.cells (((pv2 u :: .slice qb.1 gb.length qb.2 :: tyV (applyT noneS t) ((oC, cC), (oD, cD)) : List Value)).take 1 ++ [pv1 u] ++ ((pv2 u :: .slice qb.1 gb.length qb.2 :: tyV (applyT noneS t) ((oC, cC), (oD, cD)) : List Value)).drop (1 + 1)).toArray 35)))]) (fun _ => mixed) hst9 hfr9 (by kernel_rfl) (by kernel_rfl) (by kernel_rfl) (.cons rfl (ob_fieldAddrO (off := 0) rfl Try.underlying35 rfl rfl Try.sizeOf33 rfl) <| .cons rfl (ob_loadL (j := 1) rfl rfl Try.isAgg33 rfl) <| .cons rfl (ob_move rfl) <| .cons rfl (ob_call (φ := MP.ints (lessI ga (freeI x17).1)) rfl (.cons rfl <| .cons rfl <| .nil) Try.call27 (fun w m hK => by have hle_ := KC.le hK; have hA := KC.agree hK; have hJa := hJa.mono hle_; have hI3 := hI3.mono hle_; exact FnG.mono (without_c hA hJa hI3 hla9) fun _ _ _ _ h => h)) <| .cons rfl (ob_fieldAddrO (off := 1) rfl Try.underlying35 rfl rfl Try.sizeOf33 rfl) <| .cons rfl (ob_loadL (j := 1) rfl rfl Try.isAgg33 rfl) <| .cons rfl (ob_move rfl) <| .cons rfl (ob_call (φ := MP.ints (lessI gb (freeI x17).2)) rfl (.cons rfl <| .cons rfl <| .nil) Try.call27 (fun w m hK => by have hle_ := KC.le hK; have hA := KC.agree hK; have hJb := hJb.mono hle_; have hI4 := hI4.mono hle_; exact FnG.mono (without_c hA hJb hI4 hlb9) fun _ _ _ _ h => h)) <| .cons rfl (ob_fieldAddrO (off := 0) rfl Try.underlying35 rfl rfl Try.sizeOf33 rfl) <| .consT rfl rfl (fun _ => rfl) rfl (ob_imgT 33 rfl rfl rfl fun y33 => ob_storeV rfl rfl rfl rfl rfl Try.sizeOf33 rfl rfl rfl) <| .cons rfl (ob_fieldAddrO (off := 1) rfl Try.underlying35 rfl rfl Try.sizeOf33 rfl) <| .consT2 (d' := 33) rfl rfl (fun _ => rfl) rfl rfl rfl (ob_imgT2 37 rfl rfl rfl fun y37 => ob_storeV2 (k := 1) (C := fun x => (x :: .slice qb.1 gb.length qb.2 :: tyV (applyT noneS t) ((oC, cC), (oD, cD)) : List Value)) rfl rfl rfl rfl rfl Try.sizeOf33 rfl (fun _ => rfl) rfl) <| .nil) ?_
    intro a10 w10 m10 hst10 hle10 hk10
    have hfr10 := hk10.fr (T' := [(21, _), (4, _), (5, _), (19, _), (20, _)]) (.old rfl rfl <| .old rfl rfl <| .old rfl rfl <| .old rfl rfl <| .old rfl rfl <| .nil)
    obtain ⟨⟨o5, c5⟩, e22, hI5⟩ := hk10.ex 33 rfl
    obtain ⟨⟨o6, c6⟩, e23, hI6⟩ := hk10.ex 37 rfl
    replace hst10 := hst10.fin (L' := [_, _, _]) (.cons e22 <| .cons (pair_eq e23 e22) <| .nil)
    try simp only [List.take_succ_cons, List.take_zero, List.drop_succ_cons, List.drop_zero, List.cons_append, List.nil_append, List.append_nil, List.length_cons, List.length_nil, Nat.zero_add, Nat.reduceAdd] at hst10
    have hlh10 := hlh9.trans hle10
    clear hst9 hfr9 hk10
    refine hK15 _ _ ?_; clear hK15
    refine rp0 hst10 hfr10 (.cons rfl (ob_add rfl rfl ⟨by omega, by omega⟩) <| .cons rfl (ob_move rfl) <| .nil) ?_
    intro a11 w11 m11 hst11 hle11 hk11
    have hfr11 := hk11.fr (T' := [(4, _), (5, _), (19, _), (20, _), (21, _)]) (.old rfl rfl <| .old rfl rfl <| .old rfl rfl <| .old rfl rfl <| .new rfl <| .nil)
    replace hI5 := hI5.mono hle11
    replace hI6 := hI6.mono hle11
    have hlh11 := hlh10.trans hle11
    clear hst10 hfr10 hk11
    have hst11 := hst11.take 2
    exact ⟨(y + 1, (lessI ga (freeI x17).1), (lessI gb (freeI x17).2), (o5, c5), (o6, c6)), m11, by show env.length - (y + 1) < env.length - y; omega, ⟨hst11, hlh11, hfr11.sub (.cons rfl <| .cons rfl <| .cons rfl <| .cons rfl <| .cons rfl <| .nil), ⟨by show y + 1 ≤ env.length; omega, hI5, hI6, by rw [hJg, hd17]; rfl, ⟨Nat.le_trans (lessI_len _ _) hla9, Nat.le_trans (lessI_len _ _) hlb9⟩⟩⟩⟩
  · try simp only [nq1, nq2, nq3, nq4, nq5, nq6, nq7, nq8, nq9, u8_eq] at hb22
    have hge : y = env.length := by omega
    rw [List.drop_of_length_le (by omega)] at hJg
    have hgs : genS env t = ⟨ga, gb, applyT noneS t⟩ := by unfold genS; rw [hJg]; rfl
    refine wp_exit ?_
    refine hK10 _ _ ?_; clear hK10
    refine seq_any fun _ hK24 => ?_
    refine ra0 (tch := [(1, 0, (fun _ => .blk _ _))]) hst7 hfr7 (.cons rfl (ob_loadLA (j := 1) rfl rfl Try.isAgg35 Try.sizeOf35 rfl) <| .consT rfl rfl (fun _ => rfl) rfl (ob_store' rfl rfl rfl Try.sizeOf35 rfl rfl rfl) <| .nil) ?_
    intro a8 w8 m8 hst8 hle8 hk8
    have hfr8 := hk8.fr (T' := [(21, _), (4, _)]) (.old rfl rfl <| .old rfl rfl <| .nil)
    replace hst8 := hst8.fin (L' := [_, _]) (.cons rfl <| .nil)
    try simp only [List.take_succ_cons, List.take_zero, List.drop_succ_cons, List.drop_zero, List.cons_append, List.nil_append, List.append_nil, List.length_cons, List.length_nil, Nat.zero_add, Nat.reduceAdd] at hst8
    replace hT0 := hT0.mono hle8
    replace hJa := hJa.mono hle8
    replace hJb := hJb.mono hle8
    have hlh8 := hlh7.trans hle8
    clear hst7 hfr7 hk8
    refine hK24 _ _ ?_; clear hK24
    refine wp_ret ?_
    repeat (with_reducible first | refine then_ret ?_ | refine block_ret ?_)
    exact fn_ret hst8 hfr8 rfl (.cell rfl (load_blk (blk_heap (hst8.loc.at_ (k := 0) rfl)) Try.isAgg35 Try.sizeOf35) <| .nil) (⟨((qa, qb), ((oC, cC), (oD, cD))), by rw [hgs]; rfl, by rw [hgs]; exact ⟨_, rfl, hJa, hJb, hT0⟩⟩)

set_option maxHeartbeats 1600000 in
theorem fresh_c {w : World} {m : Mem} {s : Sch} {vs_s : List Value} {k : Int} (hA : Agree w m) (h_s : SchR m s vs_s) (hw : wdT s.ty ≤ 400000000) (hk : 0 ≤ k ∧ k ≤ 1000000000) (hl : s.ts.length + s.rs.length ≤ 1000000000) : FnV Try.prog 15 #[.agg vs_s.toArray, .int .i64 k] w m (fun _ m v => (MP.tyn (applyT (freshS s k) s.ty) (k + (s.ts.length : Int) + (s.rs.length : Int))).p m v) := by
  obtain ⟨⟨⟨⟨oa_s, ca_s⟩, ob_s, cb_s⟩, ⟨oc_s, cc_s⟩, od_s, cd_s⟩, rfl, hts_s, hrs_s, hty_s⟩ := id h_s
  have hb1_s := hts_s.big; have hb2_s := hrs_s.big
  refine fn_enter (vs := [_, _]) Try.func15 rfl rfl rfl fun a0 hfr0 => ?_
  have hst0 := st_enter hA (loc_nil [] _ w m)
  have hM : MLe m m := MLe.refl m
  refine seq_any fun _ hK1 => ?_
  replace hst0 := hst0.more (r := .free) trivial List.nodup_nil (by simp [Res.blocks])
  refine ra0 (tch := [(1, 0, (fun v => .blk v _))]) hst0 hfr0 (.cons rfl (ob_box rfl rfl) <| .consT rfl rfl (fun _ => rfl) rfl (ob_allocL Try.zeroValue27 rfl) <| .cons rfl (ob_assign rfl) <| .nil) ?_
  intro a1 w1 m1 hst1 hle1 hk1
  have hfr1 := hk1.fr (T' := [(1, _)]) (.old rfl rfl <| .nil)
  obtain ⟨g2, e2, hc2⟩ := hk1.ex 2 rfl
  replace hfr1 := hfr1.cons e2
  obtain ⟨g3, e3, _⟩ := hk1.ex 4 rfl
  replace hfr1 := hfr1.cons e3
  replace hst1 := hst1.fin (L' := [_]) (.cons e3 <| .nil)
  replace hts_s := hts_s.mono hle1
  replace hrs_s := hrs_s.mono hle1
  replace hty_s := hty_s.mono hle1
  clear hst0 hfr0 hk1
  refine hK1 _ _ ?_; clear hK1
  refine seq_any fun _ hK4 => ?_
  replace hst1 := hst1.more (r := .free) trivial List.nodup_nil (by simp [Res.blocks])
  refine ra0 (tch := [(1, 1, (fun v => .blk v _)), (2, 1, (fun v => .blkx v _ _))]) hst1 hfr1 (.cons rfl (ob_call (φ := MP.sub noneS) rfl (.nil) Try.call12 (fun w m hK => by have hle_ := KC.le hK; have hA := KC.agree hK; exact FnG.mono (none_c hA) fun _ _ _ _ h => h)) <| .consT rfl rfl (fun _ => rfl) rfl (ob_allocL Try.zeroValue43 rfl) <| .consT rfl rfl (fun _ => rfl) rfl (ob_imgT 6 rfl rfl rfl fun y6 => ob_imgTX 11 rfl rfl rfl fun y11 => ob_storeF rfl rfl rfl rfl rfl Try.sizeOf43 rfl rfl rfl) <| .nil) ?_
  intro a2 w2 m2 hst2 hle2 hk2
  have hfr2 := hk2.fr (T' := [(1, _), (2, _), (4, _)]) (.old rfl rfl <| .old rfl rfl <| .old rfl rfl <| .nil)
  obtain ⟨gQ, e5, _⟩ := hk2.ex 6 rfl
  replace hfr2 := hfr2.cons e5
  replace hst2 := hst2.fin (L' := [_, _]) (.cons e5 <| .cons e5 <| .nil)
  try simp only [List.take_succ_cons, List.take_zero, List.drop_succ_cons, List.drop_zero, List.cons_append, List.nil_append, List.append_nil, List.length_cons, List.length_nil, Nat.zero_add, Nat.reduceAdd] at hst2
  obtain ⟨⟨qa, qb⟩, hS0, hst2⟩ := hst2.unx (k := 1) rfl (fun _ => rfl)
  replace hts_s := hts_s.mono hle2
  replace hrs_s := hrs_s.mono hle2
  replace hty_s := hty_s.mono hle2
  replace hc2 := hc2.mono hle2
  clear hst1 hfr1 hk2
  refine hK4 _ _ ?_; clear hK4
  refine seq_any fun _ hK7 => ?_
  refine seq_any fun _ hK8 => ?_
  refine rp0 hst2 hfr2 (.cons rfl (ob_fieldAddrO (off := 0) rfl Try.underlying35 rfl rfl Try.sizeOf33 rfl) <| .cons rfl (ob_load1 rfl hc2 Try.isAgg33 rfl) <| .cons rfl (ob_len rfl Try.underlying33) <| .cons rfl (ob_move rfl) <| .nil) ?_
  intro a3 w3 m3 hst3 hle3 hk3
  have hfr3 := hk3.fr (T' := [(1, _), (2, _), (4, _), (6, _), (13, _), (14, _), (15, _)]) (.old rfl rfl <| .old rfl rfl <| .old rfl rfl <| .old rfl rfl <| .new rfl <| .new rfl <| .new rfl <| .nil)
  replace hts_s := hts_s.mono hle3
  replace hrs_s := hrs_s.mono hle3
  replace hty_s := hty_s.mono hle3
  replace hc2 := hc2.mono hle3
  replace hS0 := hS0.mono hle3
  clear hst2 hfr2 hk3
  refine hK8 _ _ ?_; clear hK8
  refine wp_block ?_
  refine loop_any (T := [(2, _), (4, _), (6, _), (13, _), (14, _)]) (fun (y : Nat × Int × Sub × QQ) => ([(1, .int .i64 y.2.1), (15, .int .i64 (y.1 : Int))] : List (Nat × Value))) (fun y => [_, .blk (.pointer (some ⟨gQ, 0, none⟩)) (.cells (subV y.2.2.2).toArray 43)]) (fun (y : Nat × Int × Sub × QQ) m => (fun (y : Nat) (kk : Int) (u : Sub) (q : QQ) => (y ≤ s.ts.length) ∧ (SubR m u (subV q)) ∧ (kk = k + (y : Int)) ∧ (freshT s.ts k noneS = freshT (s.ts.drop y) kk u)) y.1 y.2.1 y.2.2.1 y.2.2.2) (fun y => s.ts.length - y.1) ((0, k, noneS, (qa, qb))) ⟨hst3, MLe.refl _, hfr3.sub (.cons rfl <| .cons rfl <| .cons rfl <| .cons rfl <| .cons rfl <| .cons rfl <| .cons rfl <| .nil), ⟨Nat.zero_le _, hS0, by simp, rfl⟩⟩ fun y a4 w4 m4 hh4 => ?_
  have hst4 := hh4.st; have hle4 := hh4.le; have hfr4 := hh4.fr; have hrel := hh4.rel; clear hh4
  replace hts_s := hts_s.mono hle4
  replace hrs_s := hrs_s.mono hle4
  replace hty_s := hty_s.mono hle4
  replace hc2 := hc2.mono hle4
  clear hst3 hfr3
  obtain ⟨y, kk, u, q⟩ := y
  dsimp only at hrel hfr4 hst4
  obtain ⟨hyn, hJs, hJk, hJf⟩ := hrel
  have hlh4 := hle4
  refine seq_any fun _ hK10 => ?_
  refine rp0 hst4 hfr4 (.cons rfl (ob_lss rfl rfl) <| .nil) ?_
  intro a5 w5 m5 hst5 hle5 hk5
  have hfr5 := hk5.fr (T' := [(1, _), (15, _), (2, _), (4, _), (6, _), (13, _), (14, _), (16, _)]) (.old rfl rfl <| .old rfl rfl <| .old rfl rfl <| .old rfl rfl <| .old rfl rfl <| .old rfl rfl <| .old rfl rfl <| .new rfl <| .nil)
  replace hts_s := hts_s.mono hle5
  replace hrs_s := hrs_s.mono hle5
  replace hty_s := hty_s.mono hle5
  replace hc2 := hc2.mono hle5
  replace hJs := hJs.mono hle5
  have hlh5 := hlh4.trans hle5
  clear hst4 hfr4 hk5
  refine hK10 _ _ ?_; clear hK10
  refine seq_any fun _ hK11 => ?_
  refine cond_any hfr5 rfl rfl (fun hb16 => ?_) (fun hb16 => ?_)
  · try simp only [nq1, nq2, nq3, nq4, nq5, nq6, nq7, nq8, nq9, u8_eq] at hb16
    refine wp_skip ?_
    refine hK11 _ _ ?_; clear hK11
    refine seq_any fun _ hK12 => ?_
    refine wp_block ?_
    refine seq_any fun _ hK13 => ?_
    obtain ⟨p14, vs14, x14, ho14, hd14, hm_x14, ht14, hcv14, hl14, hv14⟩ := hts_s.nth (k := y) (by omega)
    cases ho14
    subst hv14
    refine rp0 hst5 hfr5 (.cons rfl (ob_indexAddr (k := y) rfl rfl Try.underlying33 Try.sizeOf3 rfl (by omega)) <| .cons rfl (ob_load1' rfl hcv14 Try.isAgg3 rfl) <| .cons rfl (ob_assign rfl) <| .nil) ?_
    intro a6 w6 m6 hst6 hle6 hk6
    have hfr6 := hk6.fr (T' := [(1, _), (15, _), (2, _), (4, _), (6, _), (13, _), (14, _), (8, _)]) (.old rfl rfl <| .old rfl rfl <| .old rfl rfl <| .old rfl rfl <| .old rfl rfl <| .old rfl rfl <| .old rfl rfl <| .new rfl <| .nil)
    replace hJs := hJs.mono hle6
    have hlh6 := hlh5.trans hle6
    clear hst5 hfr5 hk6
    refine hK13 _ _ ?_; clear hK13
    refine seq_any fun _ hK15 => ?_
    refine ra0 (tch := [(5, 1, (fun _ => .blkx _ _ _))]) hst6 hfr6 (.cons rfl (ob_loadLA (j := 1) rfl rfl Try.isAgg43 Try.sizeOf43 rfl) <| .cons rfl (ob_move rfl) <| .cons rfl (ob_move rfl) <| .cons rfl (ob_buildS (.cons rfl <| .cons rfl <| .nil) Try.underlying27 Try.zeroValue27 (.cons Try.sizeOf3 <| .cons Try.sizeOf9 <| .cons Try.sizeOf3 <| .cons Try.sizeOf22 <| .cons Try.sizeOf25 <| .nil) rfl) <| .cons rfl (ob_call (φ := MP.sub ⟨aset x14 (varT kk) u.ts, u.rs⟩) rfl (.cons rfl <| .cons rfl <| .cons rfl <| .nil) Try.call13 (fun w m hK => by have hle_ := KC.le hK; have hA := KC.agree hK; have hJs := hJs.mono hle_; exact FnG.mono (setType_c (n := x14) (t := varT kk) hA hJs (varT_R ⟨by omega, by omega⟩) (Nat.zero_le _)) fun _ _ _ _ h => h)) <| .consT rfl rfl (fun _ => rfl) rfl (ob_imgTX 23 rfl rfl rfl fun y23 => ob_store' rfl rfl rfl Try.sizeOf43 rfl rfl rfl) <| .nil) ?_
    intro a7 w7 m7 hst7 hle7 hk7
    have hfr7 := hk7.fr (T' := [(1, _), (15, _), (2, _), (4, _), (6, _), (13, _), (14, _)]) (.old rfl rfl <| .old rfl rfl <| .old rfl rfl <| .old rfl rfl <| .old rfl rfl <| .old rfl rfl <| .old rfl rfl <| .nil)
    replace hst7 := hst7.fin (L' := [_, _]) (.cons rfl <| .nil)
    try simp only [List.take_succ_cons, List.take_zero, List.drop_succ_cons, List.drop_zero, List.cons_append, List.nil_append, List.append_nil, List.length_cons, List.length_nil, Nat.zero_add, Nat.reduceAdd] at hst7
    obtain ⟨⟨qc, qd⟩, hS1, hst7⟩ := hst7.unx (k := 1) rfl (fun _ => rfl)
    have hlh7 := hlh6.trans hle7
    clear hst6 hfr6 hk7
    refine hK15 _ _ ?_; clear hK15
    refine rp0 hst7 hfr7 (.cons rfl (ob_move rfl) <| .cons rfl (ob_add rfl rfl ⟨by omega, by omega⟩) <| .cons rfl (ob_assign rfl) <| .nil) ?_
    intro a8 w8 m8 hst8 hle8 hk8
    have hfr8 := hk8.fr (T' := [(15, _), (2, _), (4, _), (6, _), (13, _), (14, _), (1, _)]) (.old rfl rfl <| .old rfl rfl <| .old rfl rfl <| .old rfl rfl <| .old rfl rfl <| .old rfl rfl <| .new rfl <| .nil)
    replace hS1 := hS1.mono hle8
    have hlh8 := hlh7.trans hle8
    clear hst7 hfr7 hk8
    refine hK12 _ _ ?_; clear hK12
    refine rp0 hst8 hfr8 (.cons rfl (ob_add rfl rfl ⟨by omega, by omega⟩) <| .cons rfl (ob_move rfl) <| .nil) ?_
    intro a9 w9 m9 hst9 hle9 hk9
    have hfr9 := hk9.fr (T' := [(2, _), (4, _), (6, _), (13, _), (14, _), (1, _), (15, _)]) (.old rfl rfl <| .old rfl rfl <| .old rfl rfl <| .old rfl rfl <| .old rfl rfl <| .old rfl rfl <| .new rfl <| .nil)
    replace hS1 := hS1.mono hle9
    have hlh9 := hlh8.trans hle9
    clear hst8 hfr8 hk9
    exact ⟨(y + 1, (kk + 1), ⟨aset x14 (varT kk) u.ts, u.rs⟩, (qc, qd)), m9, by show s.ts.length - (y + 1) < s.ts.length - y; omega, ⟨hst9, hlh9, hfr9.sub (.cons rfl <| .cons rfl <| .cons rfl <| .cons rfl <| .cons rfl <| .cons rfl <| .cons rfl <| .nil), ⟨by show y + 1 ≤ s.ts.length; omega, hS1, by show kk + 1 = k + ((y + 1 : Nat) : Int); omega, by rw [hJf, hd14]; rfl⟩⟩⟩
  · try simp only [nq1, nq2, nq3, nq4, nq5, nq6, nq7, nq8, nq9, u8_eq] at hb16
    have hge : y = s.ts.length := by omega
    rw [List.drop_of_length_le (by omega)] at hJf
    have hfT : freshT s.ts k noneS = u := hJf
    refine wp_exit ?_
    refine hK7 _ _ ?_; clear hK7
    refine seq_any fun _ hK17 => ?_
    refine seq_any fun _ hK18 => ?_
    refine rp0 hst5 hfr5 (.cons rfl (ob_fieldAddrO (off := 1) rfl Try.underlying35 rfl rfl Try.sizeOf33 rfl) <| .cons rfl (ob_load1 rfl hc2 Try.isAgg33 rfl) <| .cons rfl (ob_len rfl Try.underlying33) <| .cons rfl (ob_move rfl) <| .nil) ?_
    intro a6 w6 m6 hst6 hle6 hk6
    have hfr6 := hk6.fr (T' := [(1, _), (15, _), (2, _), (4, _), (6, _), (28, _), (29, _), (30, _)]) (.old rfl rfl <| .old rfl rfl <| .old rfl rfl <| .old rfl rfl <| .old rfl rfl <| .new rfl <| .new rfl <| .new rfl <| .nil)
    replace hrs_s := hrs_s.mono hle6
    replace hty_s := hty_s.mono hle6
    replace hc2 := hc2.mono hle6
    replace hJs := hJs.mono hle6
    have hlh6 := hlh5.trans hle6
    clear hst5 hfr5 hk6
    refine hK18 _ _ ?_; clear hK18
    refine wp_block ?_
    have hlq19 := hlh6
    refine loop_any (T := [(15, _), (2, _), (4, _), (6, _), (28, _), (29, _)]) (fun (y : Nat × Int × Sub × QQ) => ([(1, .int .i64 y.2.1), (30, .int .i64 (y.1 : Int))] : List (Nat × Value))) (fun y => [_, .blk (.pointer (some ⟨gQ, 0, none⟩)) (.cells (subV y.2.2.2).toArray 43)]) (fun (y : Nat × Int × Sub × QQ) m => (fun (y : Nat) (kk : Int) (u : Sub) (q : QQ) => (y ≤ s.rs.length) ∧ (SubR m u (subV q)) ∧ (kk = k + (s.ts.length : Int) + (y : Int)) ∧ (freshS s k = freshR (s.rs.drop y) kk u)) y.1 y.2.1 y.2.2.1 y.2.2.2) (fun y => s.rs.length - y.1) ((0, kk, u, q)) ⟨hst6, MLe.refl _, hfr6.sub (.cons rfl <| .cons rfl <| .cons rfl <| .cons rfl <| .cons rfl <| .cons rfl <| .cons rfl <| .cons rfl <| .nil), ⟨Nat.zero_le _, hJs, by show kk = k + (s.ts.length : Int) + ((0 : Nat) : Int); omega, by unfold freshS; rw [hfT, hJk, hge]; rfl⟩⟩ fun y a7 w7 m7 hh7 => ?_
    have hst7 := hh7.st; have hle7 := hh7.le; have hfr7 := hh7.fr; have hrel := hh7.rel; clear hh7
    replace hrs_s := hrs_s.mono hle7
    replace hty_s := hty_s.mono hle7
    replace hc2 := hc2.mono hle7
    replace hJs := hJs.mono hle7
    clear hst6 hfr6
    obtain ⟨y, kk, u, q⟩ := y
    dsimp only at hrel hfr7 hst7
    obtain ⟨hyn, hJs, hJk, hJf⟩ := hrel
    have hlh7 := hle7
    refine seq_any fun _ hK20 => ?_
    refine rp0 hst7 hfr7 (.cons rfl (ob_lss rfl rfl) <| .nil) ?_
    intro a8 w8 m8 hst8 hle8 hk8
    have hfr8 := hk8.fr (T' := [(1, _), (30, _), (15, _), (2, _), (4, _), (6, _), (28, _), (29, _), (31, _)]) (.old rfl rfl <| .old rfl rfl <| .old rfl rfl <| .old rfl rfl <| .old rfl rfl <| .old rfl rfl <| .old rfl rfl <| .old rfl rfl <| .new rfl <| .nil)
    replace hrs_s := hrs_s.mono hle8
    replace hty_s := hty_s.mono hle8
    replace hc2 := hc2.mono hle8
    replace hJs := hJs.mono hle8
    have hlh8 := hlh7.trans hle8
    clear hst7 hfr7 hk8
    refine hK20 _ _ ?_; clear hK20
    refine seq_any fun _ hK21 => ?_
    refine cond_any hfr8 rfl rfl (fun hb31 => ?_) (fun hb31 => ?_)
    · try simp only [nq1, nq2, nq3, nq4, nq5, nq6, nq7, nq8, nq9, u8_eq] at hb31
      refine wp_skip ?_
      refine hK21 _ _ ?_; clear hK21
      refine seq_any fun _ hK22 => ?_
      refine wp_block ?_
      refine seq_any fun _ hK23 => ?_
      obtain ⟨p24, vs24, x24, ho24, hd24, hm_x24, ht24, hcv24, hl24, hv24⟩ := hrs_s.nth (k := y) (by omega)
      cases ho24
      subst hv24
      refine rp0 hst8 hfr8 (.cons rfl (ob_indexAddr (k := y) rfl rfl Try.underlying33 Try.sizeOf3 rfl (by omega)) <| .cons rfl (ob_load1' rfl hcv24 Try.isAgg3 rfl) <| .cons rfl (ob_assign rfl) <| .nil) ?_
      intro a9 w9 m9 hst9 hle9 hk9
      have hfr9 := hk9.fr (T' := [(1, _), (30, _), (15, _), (2, _), (4, _), (6, _), (28, _), (29, _), (10, _)]) (.old rfl rfl <| .old rfl rfl <| .old rfl rfl <| .old rfl rfl <| .old rfl rfl <| .old rfl rfl <| .old rfl rfl <| .old rfl rfl <| .new rfl <| .nil)
      replace hJs := hJs.mono hle9
      have hlh9 := hlh8.trans hle9
      clear hst8 hfr8 hk9
      refine hK23 _ _ ?_; clear hK23
      refine seq_any fun _ hK25 => ?_
      refine ra0 (tch := [(5, 1, (fun _ => .blkx _ _ _))]) hst9 hfr9 (.cons rfl (ob_loadLA (j := 1) rfl rfl Try.isAgg43 Try.sizeOf43 rfl) <| .cons rfl (ob_move rfl) <| .cons rfl (ob_move rfl) <| .cons rfl (ob_buildS (.cons rfl <| .nil) Try.underlying25 Try.zeroValue25 (.cons Try.sizeOf23 <| .cons Try.sizeOf3 <| .nil) rfl) <| .cons rfl (ob_call (φ := MP.sub ⟨u.ts, aset x24 ⟨[], kk⟩ u.rs⟩) rfl (.cons rfl <| .cons rfl <| .cons rfl <| .nil) Try.call14 (fun w m hK => by have hle_ := KC.le hK; have hA := KC.agree hK; have hJs := hJs.mono hle_; exact FnG.mono (setRow_c (n := x24) (r := ⟨[], kk⟩) hA hJs (varR_R ⟨by omega, by omega⟩) (Nat.zero_le _)) fun _ _ _ _ h => h)) <| .consT rfl rfl (fun _ => rfl) rfl (ob_imgTX 38 rfl rfl rfl fun y38 => ob_store' rfl rfl rfl Try.sizeOf43 rfl rfl rfl) <| .nil) ?_
      intro a10 w10 m10 hst10 hle10 hk10
      have hfr10 := hk10.fr (T' := [(1, _), (30, _), (15, _), (2, _), (4, _), (6, _), (28, _), (29, _)]) (.old rfl rfl <| .old rfl rfl <| .old rfl rfl <| .old rfl rfl <| .old rfl rfl <| .old rfl rfl <| .old rfl rfl <| .old rfl rfl <| .nil)
      replace hst10 := hst10.fin (L' := [_, _]) (.cons rfl <| .nil)
      try simp only [List.take_succ_cons, List.take_zero, List.drop_succ_cons, List.drop_zero, List.cons_append, List.nil_append, List.append_nil, List.length_cons, List.length_nil, Nat.zero_add, Nat.reduceAdd] at hst10
      obtain ⟨⟨qc, qd⟩, hS1, hst10⟩ := hst10.unx (k := 1) rfl (fun _ => rfl)
      have hlh10 := hlh9.trans hle10
      clear hst9 hfr9 hk10
      refine hK25 _ _ ?_; clear hK25
      refine rp0 hst10 hfr10 (.cons rfl (ob_move rfl) <| .cons rfl (ob_add rfl rfl ⟨by omega, by omega⟩) <| .cons rfl (ob_assign rfl) <| .nil) ?_
      intro a11 w11 m11 hst11 hle11 hk11
      have hfr11 := hk11.fr (T' := [(30, _), (15, _), (2, _), (4, _), (6, _), (28, _), (29, _), (1, _)]) (.old rfl rfl <| .old rfl rfl <| .old rfl rfl <| .old rfl rfl <| .old rfl rfl <| .old rfl rfl <| .old rfl rfl <| .new rfl <| .nil)
      replace hS1 := hS1.mono hle11
      have hlh11 := hlh10.trans hle11
      clear hst10 hfr10 hk11
      refine hK22 _ _ ?_; clear hK22
      refine rp0 hst11 hfr11 (.cons rfl (ob_add rfl rfl ⟨by omega, by omega⟩) <| .cons rfl (ob_move rfl) <| .nil) ?_
      intro a12 w12 m12 hst12 hle12 hk12
      have hfr12 := hk12.fr (T' := [(15, _), (2, _), (4, _), (6, _), (28, _), (29, _), (1, _), (30, _)]) (.old rfl rfl <| .old rfl rfl <| .old rfl rfl <| .old rfl rfl <| .old rfl rfl <| .old rfl rfl <| .old rfl rfl <| .new rfl <| .nil)
      replace hS1 := hS1.mono hle12
      have hlh12 := hlh11.trans hle12
      clear hst11 hfr11 hk12
      exact ⟨(y + 1, (kk + 1), ⟨u.ts, aset x24 ⟨[], kk⟩ u.rs⟩, (qc, qd)), m12, by show s.rs.length - (y + 1) < s.rs.length - y; omega, ⟨hst12, hlh12, hfr12.sub (.cons rfl <| .cons rfl <| .cons rfl <| .cons rfl <| .cons rfl <| .cons rfl <| .cons rfl <| .cons rfl <| .nil), ⟨by show y + 1 ≤ s.rs.length; omega, hS1, by show kk + 1 = k + (s.ts.length : Int) + ((y + 1 : Nat) : Int); omega, by rw [hJf, hd24]; rfl⟩⟩⟩
    · try simp only [nq1, nq2, nq3, nq4, nq5, nq6, nq7, nq8, nq9, u8_eq] at hb31
      have hge : y = s.rs.length := by omega
      rw [List.drop_of_length_le (by omega)] at hJf
      have hfS : freshS s k = u := hJf
      refine wp_exit ?_
      refine hK17 _ _ ?_; clear hK17
      refine seq_any fun _ hK27 => ?_
      refine ra0 (tch := [(5, 0, (fun _ => .blkx _ _ _))]) hst8 hfr8 (.cons rfl (ob_loadLA (j := 1) rfl rfl Try.isAgg43 Try.sizeOf43 rfl) <| .cons rfl (ob_fieldAddrO (off := 2) rfl Try.underlying35 rfl rfl Try.sizeOf27 rfl) <| .cons rfl (ob_loadS rfl hc2 Try.isAgg27 Try.sizeOf27 rfl rfl) <| .cons rfl (ob_call (φ := MP.ty (applyT u s.ty)) rfl (.cons rfl <| .cons rfl <| .nil) Try.call17 (fun w m hK => by have hle_ := KC.le hK; have hA := KC.agree hK; have hty_s := hty_s.mono hle_; have hJs := hJs.mono hle_; exact FnG.mono (apply_c s.ty hA hJs hty_s (hfS ▸ freshS_w s k) hw) fun _ _ _ _ h => h)) <| .cons rfl (ob_move rfl) <| .consT rfl rfl (fun _ => rfl) rfl (ob_imgTX 45 rfl rfl rfl fun y45 => ob_store' rfl rfl rfl Try.sizeOf27 rfl rfl rfl) <| .cons rfl (ob_assign rfl) <| .nil) ?_
      intro a9 w9 m9 hst9 hle9 hk9
      have hfr9 := hk9.fr (T' := [(1, _), (30, _), (15, _), (4, _), (5, _)]) (.old rfl rfl <| .old rfl rfl <| .old rfl rfl <| .old rfl rfl <| .new rfl <| .nil)
      replace hst9 := hst9.fin (L' := [_, _]) (.cons rfl <| .nil)
      try simp only [List.take_succ_cons, List.take_zero, List.drop_succ_cons, List.drop_zero, List.cons_append, List.nil_append, List.append_nil, List.length_cons, List.length_nil, Nat.zero_add, Nat.reduceAdd] at hst9
      obtain ⟨⟨⟨oa, ca⟩, ol, cl⟩, hcv, hst9⟩ := hst9.unx (k := 0) rfl (fun _ => rfl)
      have hlh9 := hlh8.trans hle9
      clear hst8 hfr8 hk9
      refine hK27 _ _ ?_; clear hK27
      refine wp_ret ?_
      repeat (with_reducible first | refine then_ret ?_ | refine block_ret ?_)
      exact fn_ret hst9 hfr9 rfl (.cell rfl (load_blk (blk_heap (hst9.loc.at_ (k := 0) rfl)) Try.isAgg27 Try.sizeOf27) <| .tmp rfl <| .nil) (⟨((oa, ca), (ol, cl)), by rw [hfS, hJk, hge]; rfl, by rw [hfS]; exact hcv⟩)

end Go.Proofs.Ytmpponcnohakdaa
