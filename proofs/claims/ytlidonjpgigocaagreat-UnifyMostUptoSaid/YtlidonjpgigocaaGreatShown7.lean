/-
  What is shown in any case; what is small, or without variables. Conditions: those of each theorem.
-/
import Derived.Test.YtlidonjpgigocaaGreatLess7
namespace Go.Proofs.YtlidonjpgigocaaGreat
set_option linter.all false
set_option maxRecDepth 4000
open Go.RowKit
def varT (n : Int) : Ty := ⟨7, [], n, [], [], 0⟩
def refT (t : Ty) : Ty := ⟨6, [], 0, [t], [], 0⟩
theorem varT_R {m : Mem} {n : Int} (h : InI64 n) : TyR m (varT n) (tyV (varT n) ((none, 0), (none, 0))) := TyR.build (ks := []) (ls := []) Sl.empty Sl.empty ⟨by omega, by omega⟩ h ⟨by omega, by omega⟩
mutual
/-- Has no row more than ten labels? -/
def fewT : Ty → Bool
  | ⟨_, _, _, ts, ls, _⟩ => decide (ls.length ≤ 10) && fewTs ts
def fewTs : List Ty → Bool
  | [] => true
  | t :: ts => fewT t && fewTs ts
end
theorem fewT_eq (t : Ty) : fewT t = (decide (t.labels.length ≤ 10) && fewTs t.args) := by obtain ⟨k, n, v, ts, ls, r⟩ := t; rw [fewT]; rfl
theorem fewTs_snoc : ∀ (l : List Ty) (x : Ty), fewTs (l ++ [x]) = (fewTs l && fewT x)
  | [], x => by simp [fewTs]
  | t :: ts, x => by simp only [List.cons_append, fewTs, fewTs_snoc ts x, Bool.and_assoc]
theorem fewTs_take {l : List Ty} {k : Nat} (h : fewTs (l.take k) = false) : fewTs l = false := by
  induction l generalizing k with
  | nil => simp [fewTs] at h
  | cons t l ih =>
    cases k with
    | zero => simp [fewTs] at h
    | succ k =>
      simp only [List.take_succ_cons, fewTs, Bool.and_eq_false_iff] at h ⊢
      rcases h with h | h
      · exact .inl h
      · exact .inr (ih h)
abbrev varsT (t : Ty) : List Int × List Int := walkT t ([], [])
/-- Is a type right, of at most thirty nodes, with variables up to eight and few labels? -/
def le8 (l : List Int) : Bool := l.all fun x => decide (x ≤ 8)
def smallT (t : Ty) : Bool := decide (cntT t ≤ 30) && (decide (deepT t ≤ 200) && rightT t) && fewT t && le8 (varsT t).1 && le8 (varsT t).2
theorem le8_take {l : List Int} {k : Nat} {x : Int} (h : l[k]? = some x) (hx : ¬ x ≤ 8) : le8 l = false := by
  unfold le8; rw [Bool.eq_false_iff]; intro hh
  have := List.all_eq_true.1 hh x (List.mem_of_getElem? h)
  simp at this; exact hx this
theorem le8_snoc (l : List Int) (x : Int) : le8 (l ++ [x]) = (le8 l && decide (x ≤ 8)) := by unfold le8; simp
theorem small_no {t : Ty} (h : 30 < cntT t ∨ ¬ (deepT t ≤ 200 ∧ rightT t = true) ∨ fewT t = false ∨ le8 (varsT t).1 = false ∨ le8 (varsT t).2 = false) : smallT t = false := by
  rw [Bool.eq_false_iff]; intro hh
  unfold smallT at hh
  simp only [Bool.and_eq_true, decide_eq_true_eq] at hh
  obtain ⟨⟨⟨⟨h1, h2⟩, h3⟩, h4⟩, h5⟩ := hh
  rcases h with h | h | h | h | h
  · omega
  · exact h h2
  · rw [h] at h3; cases h3
  · rw [h] at h4; cases h4
  · rw [h] at h5; cases h5
theorem small_yes {t : Ty} (h1 : cntT t ≤ 30) (h2 : deepT t ≤ 200 ∧ rightT t = true) (h3 : fewT t = true) (h4 : le8 (varsT t).1 = true) (h5 : le8 (varsT t).2 = true) : smallT t = true := by
  unfold smallT; rw [decide_eq_true h1, decide_eq_true h2.1, h2.2, h3, h4, h5]; rfl
def groundT (t : Ty) : Bool := decide ((varsT t).1 = []) && decide ((varsT t).2 = [])
/-- What is shown in any case. -/
def shE : Str := [69]
def shF : Str := [70]
def shR : Sub := ⟨[], [(2, ⟨[shE], 9⟩), (1, ⟨[shF], 9⟩)]⟩
theorem sort_one (s : Str) : sortS [s] = [s] := sortS_id (by simp [isSortedS])
theorem sort_nil : sortS [] = [] := sortS_id (by simp [isSortedS])
theorem sh_rows : rowsU ⟨[shE], 1⟩ ⟨[shF], 2⟩ ⟨noneS, 9⟩ = (0, ⟨shR, 10⟩) := by
  have e1 : ∀ r : Rw, applyR noneS r = ⟨sortS r.labels, r.var⟩ := fun r => applyR_out (.inl rfl)
  unfold rowsU
  simp only [e1, sort_one]
  have h1 : moreS [shE] [shF] = [shE] := by simp [moreS, shE, shF]
  have h2 : moreS [shF] [shE] = [shF] := by simp [moreS, shE, shF]
  rw [h1, h2]
  unfold rowsV
  rw [if_neg (by simp), if_neg (by simp), if_neg (by simp), if_neg (by simp)]
  simp only [Prod.mk.injEq, true_and, USt.mk.injEq]
  refine ⟨?_, by omega⟩
  have h3 : rowU 1 [shF] 9 noneS = oneR 1 ⟨[shF], 9⟩ := rfl
  rw [h3]
  have h4 : applyR (oneR 2 ⟨[shE], 9⟩) ⟨[shF], 9⟩ = ⟨[shF], 9⟩ := by rw [applyR_out (.inl (by simp [oneR, alook]))]; rw [sort_one]
  show (⟨[], rset 1 (applyR (oneR 2 ⟨[shE], 9⟩) ⟨[shF], 9⟩) [(2, ⟨[shE], 9⟩)]⟩ : Sub) = shR
  rw [h4]; simp [rset, shR]
theorem noneU_ok {n : Int} (h : 0 ≤ n ∧ n ≤ 1000000000) : OkS ⟨noneS, n⟩ := ⟨fun p hp => (by cases hp), fun p hp => (by cases hp), ⟨Nat.zero_le _, Nat.zero_le _⟩, h⟩
theorem sh_types : typesU 1 (varT 1) (refT (varT 1)) ⟨noneS, 9⟩ = some (5, ⟨noneS, 9⟩) := by
  have e1 : applyT noneS (varT 1) = varT 1 := by rw [applyT_var rfl]; rfl
  have e2 : applyT noneS (refT (varT 1)) = refT (varT 1) := by
    rw [applyT_not (by simp [refT, Ty.kind])]
    simp [refT, Ty.kind, Ty.args, Ty.name, Ty.var, Ty.labels, Ty.rv, applyTs, e1]
  rw [typesU, if_pos]
  · rw [e1, e2, typesB, if_neg (by simp [varT, refT]), if_pos (show (varT 1).kind = 7 from rfl)]
    have : isU (varT 1).var (refT (varT 1)) ⟨noneS, 9⟩ = (5, ⟨noneS, 9⟩) := by
      unfold isU; rw [if_pos]
      simp [varT, refT, walkT, walkTs, Ty.var, withI]
    rw [this]
  · refine ⟨noneU_ok ⟨by omega, by omega⟩, ⟨?_, ?_⟩, ⟨?_, ?_⟩⟩
    · simp [varT, wdT, wdTs]
    · show cntT (applyT noneS (varT 1)) ≤ _; rw [e1]; simp [varT, cntT, cntTs]
    · simp [varT, refT, wdT, wdTs]
    · show cntT (applyT noneS (refT (varT 1))) ≤ _; rw [e2]; simp [varT, refT, cntT, cntTs]
theorem refT_R {m : Mem} {t : Ty} {p : Addr} {vs : List Value} (hc : CellsAt m p vs) (hv : TyR m t vs) : TyR m (refT t) [.int .i64 6, S [], .int .i64 0, .slice (some p) 1 1, .slice none 0 0, .int .i64 0] := by
  have hl : vs.length = 6 := by obtain ⟨o, c, o2, c2, rfl, _⟩ := hv.open_; rfl
  exact TyR.build (ks := [t]) (ls := []) (Sl.one (R := fun m vs t => TyR m t vs) hc hl hv) Sl.empty ⟨by omega, by omega⟩ ⟨by omega, by omega⟩ ⟨by omega, by omega⟩
theorem rowR_1 {m : Mem} {s : Str} {n : Int} {g : Nat} (hc : CellsAt m ⟨g, 0, none⟩ [S s]) (hn : InI64 n) : RwR m ⟨[s], n⟩ [.slice (some ⟨g, 0, none⟩) 1 1, .int .i64 n] := ⟨_, _, rfl, Sl.one (vs := [_]) hc rfl rfl, hn⟩
theorem shR_w {B : Nat} (h : 1 ≤ B) : SubW B shR := by
  refine ⟨fun n t e => (by cases e), fun n r e => ?_⟩
  have := alook_mem e
  simp only [shR, List.mem_cons, List.not_mem_nil, or_false, Prod.mk.injEq] at this
  rcases this with ⟨_, rfl⟩ | ⟨_, rfl⟩ <;> exact h
theorem sh_R : rowsU ⟨[shE], 1⟩ ⟨[shF], 2⟩ ⟨noneS, 9⟩ = (0, ⟨shR, 10⟩) ∧ outU (0, ⟨shR, 10⟩) ⟨noneS, 9⟩ = (0, ⟨shR, 10⟩) := ⟨sh_rows, rfl⟩

set_option maxHeartbeats 400000 in
theorem tvar_c {w : World} {m : Mem} {n : Int} (hA : Agree w m) (hn : InI64 n) : FnV Tryz.prog 18 #[.int .i64 n] w m (fun _ m v => (MP.ty (varT n)).p m v) := by
  refine fn_enter (vs := [_]) Tryz.func18 rfl rfl rfl fun a0 hfr0 => ?_
  have hst0 := st_enter hA (loc_nil [] _ w m)
  have hM : MLe m m := MLe.refl m
  refine seq_any fun _ hK1 => ?_
  replace hst0 := hst0.more (r := .free) trivial List.nodup_nil (by simp [Res.blocks])
  refine ra0 (tch := [(0, 0, (fun v => .blk v _))]) hst0 hfr0 (.consT rfl rfl (fun _ => rfl) rfl (ob_allocL Tryz.zeroValue45 rfl) <| .nil) ?_
  intro a1 w1 m1 hst1 hle1 hk1
  have hfr1 := hk1.fr (T' := [(0, _)]) (.old rfl rfl <| .nil)
  obtain ⟨g2, e2, _⟩ := hk1.ex 2 rfl
  replace hfr1 := hfr1.cons e2
  replace hst1 := hst1.fin (L' := [_]) (.cons e2 <| .nil)
  clear hst0 hfr0 hk1
  refine hK1 _ _ ?_; clear hK1
  refine seq_any fun _ hK3 => ?_
  refine ra0 (tch := [(2, 0, (fun _ => .blk _ _))]) hst1 hfr1 (.cons rfl (ob_move rfl) <| .cons rfl (ob_buildS (.cons rfl <| .cons rfl <| .nil) Tryz.underlying45 Tryz.zeroValue45 (.cons Tryz.sizeOf3 <| .cons Tryz.sizeOf9 <| .cons Tryz.sizeOf3 <| .cons Tryz.sizeOf33 <| .cons Tryz.sizeOf43 <| .nil) rfl) <| .consT rfl rfl (fun _ => rfl) rfl (ob_store' rfl rfl rfl Tryz.sizeOf45 rfl rfl rfl) <| .nil) ?_
  intro a2 w2 m2 hst2 hle2 hk2
  have hfr2 := hk2.fr (T' := [(2, _)]) (.old rfl rfl <| .nil)
  replace hst2 := hst2.fin (L' := [_]) (.cons rfl <| .nil)
  try simp only [List.take_succ_cons, List.take_zero, List.drop_succ_cons, List.drop_zero, List.cons_append, List.nil_append, List.append_nil, List.length_cons, List.length_nil, Nat.zero_add, Nat.reduceAdd] at hst2
  clear hst1 hfr1 hk2
  refine hK3 _ _ ?_; clear hK3
  refine wp_ret ?_
  repeat (with_reducible first | refine then_ret ?_ | refine block_ret ?_)
  exact fn_ret hst2 hfr2 rfl (.cell rfl (load_blk (blk_heap (hst2.loc.at_ (k := 0) rfl)) Tryz.isAgg45 Tryz.sizeOf45) <| .nil) (⟨((none, 0), (none, 0)), rfl, varT_R hn⟩)

abbrev few_G (t : Ty) : Prop := ∀ {w : World} {m : Mem} {vs_t : List Value} (hA : Agree w m) (h_t : TyR m t vs_t), FnV Tryz.prog 32 #[.agg vs_t.toArray] w m (fun _ _ v => v = .bool (fewT t))
set_option maxHeartbeats 400000 in
theorem few_s {t : Ty} (ih : ∀ u ∈ t.args, few_G u) {w : World} {m : Mem} {vs_t : List Value} (hA : Agree w m) (h_t : TyR m t vs_t) : FnV Tryz.prog 32 #[.agg vs_t.toArray] w m (fun _ _ v => v = .bool (fewT t)) := by
  obtain ⟨o_t, c_t, oL_t, cL_t, rfl, hk_t, hs_t, hi_t, hj_t, hr_t⟩ := h_t.open_
  have hbg_t := hk_t.big; have hcp_t := hk_t.cap; have hbs_t := hs_t.big; have hcs_t := hs_t.cap
  have hrw_t : RwR _ ⟨t.labels, t.rv⟩ _ := ⟨_, _, rfl, hs_t, hr_t⟩
  refine fn_enter (vs := [_]) Tryz.func32 rfl rfl rfl fun a0 hfr0 => ?_
  have hst0 := st_enter hA (loc_nil [] _ w m)
  have hM : MLe m m := MLe.refl m
  have hfe := fewT_eq t
  refine seq_any fun _ hK1 => ?_
  refine rp0 hst0 hfr0 (.cons rfl (ob_box rfl rfl) <| .cons rfl (ob_assign rfl) <| .nil) ?_
  intro a1 w1 m1 hst1 hle1 hk1
  have hfr1 := hk1.fr (T' := []) (.nil)
  obtain ⟨g2, e2, hc1⟩ := hk1.ex 1 rfl
  replace hfr1 := hfr1.cons e2
  replace h_t := h_t.mono hle1
  replace hk_t := hk_t.mono hle1
  replace hs_t := hs_t.mono hle1
  replace hrw_t := hrw_t.mono hle1
  clear hst0 hfr0 hk1
  refine hK1 _ _ ?_; clear hK1
  refine seq_any fun _ hK3 => ?_
  refine seq_any fun _ hK4 => ?_
  refine rp0 hst1 hfr1 (.cons rfl (ob_fieldAddrO (off := 4) rfl Tryz.underlying45 rfl rfl Tryz.sizeOf43 rfl) <| .cons rfl (ob_fieldAddrO (off := 0) rfl Tryz.underlying43 rfl rfl Tryz.sizeOf41 rfl) <| .cons rfl (ob_load1 rfl (hc1.drop 4) Tryz.isAgg41 rfl) <| .cons rfl (ob_len rfl Tryz.underlying41) <| .cons rfl (ob_gtr rfl rfl) <| .nil) ?_
  intro a2 w2 m2 hst2 hle2 hk2
  have hfr2 := hk2.fr (T' := [(1, _), (9, _)]) (.old rfl rfl <| .new rfl <| .nil)
  replace h_t := h_t.mono hle2
  replace hk_t := hk_t.mono hle2
  replace hs_t := hs_t.mono hle2
  replace hrw_t := hrw_t.mono hle2
  replace hc1 := hc1.mono hle2
  clear hst1 hfr1 hk2
  refine hK4 _ _ ?_; clear hK4
  refine cond_any hfr2 rfl rfl (fun hb9 => ?_) (fun hb9 => ?_)
  · try simp only [nq1, nq2, nq3, nq4, nq5, nq6, nq7, nq8, nq9, u8_eq] at hb9
    have hr : fewT t = false := by rw [hfe, decide_eq_false (by omega)]; rfl
    refine seq_any fun _ hK5 => ?_
    refine rp0 hst2 hfr2 (.cons rfl (ob_assign rfl) <| .nil) ?_
    intro a3 w3 m3 hst3 hle3 hk3
    have hfr3 := hk3.fr (T' := [(2, _)]) (.new rfl <| .nil)
    clear hst2 hfr2 hk3
    refine hK5 _ _ ?_; clear hK5
    refine wp_ret ?_
    repeat (with_reducible first | refine then_ret ?_ | refine block_ret ?_)
    exact fn_ret hst3 hfr3 rfl (.tmp rfl <| .nil) (by rw [hr]; rfl)
  · try simp only [nq1, nq2, nq3, nq4, nq5, nq6, nq7, nq8, nq9, u8_eq] at hb9
    refine wp_skip ?_
    refine hK3 _ _ ?_; clear hK3
    refine seq_any fun _ hK7 => ?_
    refine seq_any fun _ hK8 => ?_
    refine rp0 hst2 hfr2 (.cons rfl (ob_assign rfl) <| .nil) ?_
    intro a3 w3 m3 hst3 hle3 hk3
    have hfr3 := hk3.fr (T' := [(1, _), (3, _)]) (.old rfl rfl <| .new rfl <| .nil)
    replace h_t := h_t.mono hle3
    replace hk_t := hk_t.mono hle3
    replace hs_t := hs_t.mono hle3
    replace hrw_t := hrw_t.mono hle3
    replace hc1 := hc1.mono hle3
    clear hst2 hfr2 hk3
    refine hK8 _ _ ?_; clear hK8
    refine wp_block ?_
    refine loop_any (T := [(1, _)]) (fun (y : Nat) => ([(3, .int .i64 (y : Int))] : List (Nat × Value))) (fun _ => _) (fun (y : Nat) m => (y ≤ t.args.length) ∧ (fewTs (t.args.take y) = true)) (fun y => t.args.length - y) (0) ⟨hst3, MLe.refl _, hfr3.sub (.cons rfl <| .cons rfl <| .nil), ⟨Nat.zero_le _, by simp [fewTs]⟩⟩ fun y a4 w4 m4 hh4 => ?_
    have hst4 := hh4.st; have hle4 := hh4.le; have hfr4 := hh4.fr; have hrel := hh4.rel; clear hh4
    replace h_t := h_t.mono hle4
    replace hk_t := hk_t.mono hle4
    replace hs_t := hs_t.mono hle4
    replace hrw_t := hrw_t.mono hle4
    replace hc1 := hc1.mono hle4
    clear hst3 hfr3
    obtain ⟨hyn, hJf⟩ := hrel
    have hlh4 := hle4
    refine seq_any fun _ hK10 => ?_
    refine seq_any fun _ hK11 => ?_
    refine rp0 hst4 hfr4 (.cons rfl (ob_move rfl) <| .cons rfl (ob_fieldAddrO (off := 3) rfl Tryz.underlying45 rfl rfl Tryz.sizeOf33 rfl) <| .cons rfl (ob_load1 rfl hc1 Tryz.isAgg33 rfl) <| .cons rfl (ob_len rfl Tryz.underlying33) <| .cons rfl (ob_lss rfl rfl) <| .nil) ?_
    intro a5 w5 m5 hst5 hle5 hk5
    have hfr5 := hk5.fr (T' := [(3, _), (1, _), (14, _)]) (.old rfl rfl <| .old rfl rfl <| .new rfl <| .nil)
    replace h_t := h_t.mono hle5
    replace hk_t := hk_t.mono hle5
    replace hs_t := hs_t.mono hle5
    replace hrw_t := hrw_t.mono hle5
    replace hc1 := hc1.mono hle5
    have hlh5 := hlh4.trans hle5
    clear hst4 hfr4 hk5
    refine hK11 _ _ ?_; clear hK11
    refine cond_any hfr5 rfl rfl (fun hb14 => ?_) (fun hb14 => ?_)
    · try simp only [nq1, nq2, nq3, nq4, nq5, nq6, nq7, nq8, nq9, u8_eq] at hb14
      refine wp_skip ?_
      refine hK10 _ _ ?_; clear hK10
      refine seq_any fun _ hK12 => ?_
      refine wp_block ?_
      refine seq_any fun _ hK13 => ?_
      obtain ⟨p14, vs14, x14, ho14, hd14, hm_x14, ht14, hcv14, hl14, hv14⟩ := hk_t.nth (k := y) (by omega)
      cases ho14
      obtain ⟨o14, c14, oL14, cL14, rfl, hkd14, hs14, hi14, hj14, hr14⟩ := hv14.open_
      have hbg14 := hkd14.big; have hcp14 := hkd14.cap; have hbs14 := hs14.big; have hcs14 := hs14.cap
      have hrw14 : RwR _ ⟨x14.labels, x14.rv⟩ _ := ⟨_, _, rfl, hs14, hr14⟩
      refine rp0 hst5 hfr5 (.cons rfl (ob_fieldAddrO (off := 3) rfl Tryz.underlying45 rfl rfl Tryz.sizeOf33 rfl) <| .cons rfl (ob_load1 rfl hc1 Tryz.isAgg33 rfl) <| .cons rfl (ob_move rfl) <| .cons rfl (ob_indexAddr (k := y) rfl rfl Tryz.underlying33 Tryz.sizeOf45 rfl (by omega)) <| .cons rfl (ob_loadS' rfl hcv14 Tryz.isAgg45 Tryz.sizeOf45 rfl rfl) <| .cons rfl (ob_callE rfl (.cons rfl <| .nil) Tryz.call32 (fun w m hK => by have hle_ := KC.le hK; have hA := KC.agree hK; have h_t := h_t.mono hle_; have hk_t := hk_t.mono hle_; have hs_t := hs_t.mono hle_; have hrw_t := hrw_t.mono hle_; have hc1 := hc1.mono hle_; have hcv14 := hcv14.mono hle_; have hv14 := hv14.mono hle_; have hkd14 := hkd14.mono hle_; have hs14 := hs14.mono hle_; have hrw14 := hrw14.mono hle_; exact ih _ (by assumption) hA (by assumption))) <| .cons rfl (ob_assign rfl) <| .nil) ?_
      intro a6 w6 m6 hst6 hle6 hk6
      have hfr6 := hk6.fr (T' := [(3, _), (1, _), (4, _)]) (.old rfl rfl <| .old rfl rfl <| .new rfl <| .nil)
      have hlh6 := hlh5.trans hle6
      clear hst5 hfr5 hk6
      refine hK13 _ _ ?_; clear hK13
      refine seq_any fun _ hK15 => ?_
      refine rp0 hst6 hfr6 (.cons rfl (ob_move rfl) <| .cons rfl (ob_not rfl) <| .nil) ?_
      intro a7 w7 m7 hst7 hle7 hk7
      have hfr7 := hk7.fr (T' := [(3, _), (1, _), (24, _)]) (.old rfl rfl <| .old rfl rfl <| .new rfl <| .nil)
      have hlh7 := hlh6.trans hle7
      clear hst6 hfr6 hk7
      refine hK15 _ _ ?_; clear hK15
      refine cond_any hfr7 rfl rfl (fun hb24 => ?_) (fun hb24 => ?_)
      · try simp only [nq1, nq2, nq3, nq4, nq5, nq6, nq7, nq8, nq9, u8_eq] at hb24
        have hr : fewT t = false := by rw [hfe, fewTs_take (k := y + 1) (by rw [ht14, fewTs_snoc, hJf, hb24]; rfl), Bool.and_false]
        refine seq_any fun _ hK16 => ?_
        refine rp0 hst7 hfr7 (.cons rfl (ob_assign rfl) <| .nil) ?_
        intro a8 w8 m8 hst8 hle8 hk8
        have hfr8 := hk8.fr (T' := [(3, _), (2, _)]) (.old rfl rfl <| .new rfl <| .nil)
        have hlh8 := hlh7.trans hle8
        clear hst7 hfr7 hk8
        refine hK16 _ _ ?_; clear hK16
        refine wp_ret ?_
        repeat (with_reducible first | refine then_ret ?_ | refine block_ret ?_)
        exact fn_ret hst8 hfr8 rfl (.tmp rfl <| .nil) (by rw [hr]; rfl)
      · try simp only [nq1, nq2, nq3, nq4, nq5, nq6, nq7, nq8, nq9, u8_eq] at hb24
        refine wp_skip ?_
        refine hK12 _ _ ?_; clear hK12
        refine rp0 hst7 hfr7 (.cons rfl (ob_move rfl) <| .cons rfl (ob_add rfl rfl ⟨by omega, by omega⟩) <| .cons rfl (ob_assign rfl) <| .nil) ?_
        intro a8 w8 m8 hst8 hle8 hk8
        have hfr8 := hk8.fr (T' := [(1, _), (3, _)]) (.old rfl rfl <| .new rfl <| .nil)
        have hlh8 := hlh7.trans hle8
        clear hst7 hfr7 hk8
        exact ⟨y + 1, m8, by show t.args.length - (y + 1) < t.args.length - y; omega, ⟨hst8, hlh8, hfr8.sub (.cons rfl <| .cons rfl <| .nil), ⟨by show y + 1 ≤ t.args.length; omega, by rw [ht14, fewTs_snoc, hJf, hb24]; rfl⟩⟩⟩
    · try simp only [nq1, nq2, nq3, nq4, nq5, nq6, nq7, nq8, nq9, u8_eq] at hb14
      have hge : y = t.args.length := by omega
      rw [List.take_of_length_le (by omega)] at hJf
      refine wp_exit ?_
      refine hK7 _ _ ?_; clear hK7
      refine seq_any fun _ hK18 => ?_
      refine rp0 hst5 hfr5 (.cons rfl (ob_assign rfl) <| .nil) ?_
      intro a6 w6 m6 hst6 hle6 hk6
      have hfr6 := hk6.fr (T' := [(3, _), (2, _)]) (.old rfl rfl <| .new rfl <| .nil)
      have hlh6 := hlh5.trans hle6
      clear hst5 hfr5 hk6
      refine hK18 _ _ ?_; clear hK18
      refine wp_ret ?_
      repeat (with_reducible first | refine then_ret ?_ | refine block_ret ?_)
      exact fn_ret hst6 hfr6 rfl (.tmp rfl <| .nil) (by refine congrArg Value.bool ?_; rw [hfe, hJf, decide_eq_true (by omega)]; rfl)
theorem few_c (t : Ty) : few_G t := Ty.rec_ (p := few_G) (fun t ih => few_s ih) t

set_option maxHeartbeats 1600000 in
theorem small_c {w : World} {m : Mem} {t : Ty} {vs_t : List Value} (hA : Agree w m) (h_t : TyR m t vs_t) (hb : cntT t ≤ 100000000) : FnV Tryz.prog 11 #[.agg vs_t.toArray] w m (fun _ _ v => v = .bool (smallT t)) := by
  obtain ⟨o_t, c_t, oL_t, cL_t, rfl, hk_t, hs_t, hi_t, hj_t, hr_t⟩ := h_t.open_
  have hbg_t := hk_t.big; have hcp_t := hk_t.cap; have hbs_t := hs_t.big; have hcs_t := hs_t.cap
  have hrw_t : RwR _ ⟨t.labels, t.rv⟩ _ := ⟨_, _, rfl, hs_t, hr_t⟩
  refine fn_enter (vs := [_]) Tryz.func11 rfl rfl rfl fun a0 hfr0 => ?_
  have hst0 := st_enter hA (loc_nil [] _ w m)
  have hM : MLe m m := MLe.refl m
  have hwr := walk_room t ([], [])
  simp only [room, List.length_nil] at hwr
  have hwv : (varsT t).1.length ≤ 200000000 ∧ (varsT t).2.length ≤ 200000000 := by show (walkT t ([], [])).1.length ≤ _ ∧ (walkT t ([], [])).2.length ≤ _; omega
  refine seq_any fun _ hK1 => ?_
  refine rp0 hst0 hfr0 (.cons rfl (ob_box rfl rfl) <| .cons rfl (ob_assign rfl) <| .nil) ?_
  intro a1 w1 m1 hst1 hle1 hk1
  have hfr1 := hk1.fr (T' := []) (.nil)
  obtain ⟨g2, e2, hc1⟩ := hk1.ex 1 rfl
  replace hfr1 := hfr1.cons e2
  replace h_t := h_t.mono hle1
  clear hst0 hfr0 hk1
  refine hK1 _ _ ?_; clear hK1
  refine seq_any fun _ hK3 => ?_
  refine seq_any fun _ hK4 => ?_
  refine rp0 hst1 hfr1 (.cons rfl (ob_loadS' rfl hc1 Tryz.isAgg45 Tryz.sizeOf45 rfl rfl) <| .cons rfl (ob_callE rfl (.cons rfl <| .nil) Tryz.call25 (fun w m hK => by have hle_ := KC.le hK; have hA := KC.agree hK; have h_t := h_t.mono hle_; exact count_c t hA h_t (by omega))) <| .cons rfl (ob_gtr rfl rfl) <| .cons rfl (ob_move rfl) <| .cons rfl (ob_loadS' rfl hc1 Tryz.isAgg45 Tryz.sizeOf45 rfl rfl) <| .cons rfl (ob_callE rfl (.cons rfl <| .nil) Tryz.call29 (fun w m hK => by have hle_ := KC.le hK; have hA := KC.agree hK; have h_t := h_t.mono hle_; exact right0R_c (t := t) hA h_t)) <| .cons rfl (ob_not rfl) <| .cons rfl (ob_or rfl rfl rfl) <| .cons rfl (ob_move rfl) <| .cons rfl (ob_loadS' rfl hc1 Tryz.isAgg45 Tryz.sizeOf45 rfl rfl) <| .cons rfl (ob_callE rfl (.cons rfl <| .nil) Tryz.call32 (fun w m hK => by have hle_ := KC.le hK; have hA := KC.agree hK; have h_t := h_t.mono hle_; exact few_c t hA h_t)) <| .cons rfl (ob_not rfl) <| .cons rfl (ob_or rfl rfl rfl) <| .nil) ?_
  intro a2 w2 m2 hst2 hle2 hk2
  have hfr2 := hk2.fr (T' := [(1, _), (19, _)]) (.old rfl rfl <| .new rfl <| .nil)
  replace h_t := h_t.mono hle2
  replace hc1 := hc1.mono hle2
  clear hst1 hfr1 hk2
  refine hK4 _ _ ?_; clear hK4
  refine cond_any hfr2 rfl rfl (fun hb19 => ?_) (fun hb19 => ?_)
  · try simp only [nq1, nq2, nq3, nq4, nq5, nq6, nq7, nq8, nq9, u8_eq] at hb19
    have hr : smallT t = false := small_no (by rcases hb19 with (h | h) | h; (exact .inl (by omega)); (exact .inr (.inl (by intro ⟨h1, h2⟩; simp [h1, h2] at h; try omega))); exact .inr (.inr (.inl (by simpa using h))))
    refine seq_any fun _ hK5 => ?_
    refine rp0 hst2 hfr2 (.cons rfl (ob_assign rfl) <| .nil) ?_
    intro a3 w3 m3 hst3 hle3 hk3
    have hfr3 := hk3.fr (T' := [(2, _)]) (.new rfl <| .nil)
    clear hst2 hfr2 hk3
    refine hK5 _ _ ?_; clear hK5
    refine wp_ret ?_
    repeat (with_reducible first | refine then_ret ?_ | refine block_ret ?_)
    exact fn_ret hst3 hfr3 rfl (.tmp rfl <| .nil) (by rw [hr]; rfl)
  · try simp only [nq1, nq2, nq3, nq4, nq5, nq6, nq7, nq8, nq9, u8_eq] at hb19
    have hq : cntT t ≤ 30 ∧ (deepT t ≤ 200 ∧ rightT t = true) ∧ fewT t = true := ⟨by omega, by simpa using hb19.1.2, by simpa using hb19.2⟩
    refine wp_skip ?_
    refine hK3 _ _ ?_; clear hK3
    refine seq_any fun _ hK7 => ?_
    refine ra0 (tch := []) hst2 hfr2 (.cons rfl (ob_loadS' rfl hc1 Tryz.isAgg45 Tryz.sizeOf45 rfl rfl) <| .cons rfl (ob_call (φ := MP.two (varsT t).1 (varsT t).2) rfl (.cons rfl <| .nil) Tryz.call33 (fun w m hK => by have hle_ := KC.le hK; have hA := KC.agree hK; have h_t := h_t.mono hle_; exact FnG.mono (vars0R_c (t := t) hA h_t (by omega)) fun _ _ _ _ h => h)) <| .cons rfl (ob_imgV 22 rfl rfl rfl fun y22 => ob_move rfl) <| .cons rfl (ob_imgV 20 rfl rfl rfl fun y20 => ob_extract rfl rfl) <| .cons rfl (ob_imgV 20 rfl rfl rfl fun y20 => ob_extract rfl rfl) <| .consA 23 rfl rfl <| .consA 24 rfl rfl <| .nil) ?_
    intro a3 w3 m3 hst3 hle3 hk3
    have hfr3 := hk3.fr (T' := []) (.nil)
    obtain ⟨⟨⟨o1, c1⟩, q1⟩, e8, hI1, _⟩ := hk3.ex 23 rfl
    obtain ⟨⟨q2, o2, c2⟩, e9, _, hI2⟩ := hk3.ex 24 rfl
    replace hfr3 := hfr3.cons (hk3.same 3 rfl e8)
    replace hfr3 := hfr3.cons (hk3.same 4 rfl e9)
    clear hst2 hfr2 hk3
    refine hK7 _ _ ?_; clear hK7
    refine seq_any fun _ hK10 => ?_
    refine seq_any fun _ hK11 => ?_
    refine rp0 hst3 hfr3 (.cons rfl (ob_assign rfl) <| .nil) ?_
    intro a4 w4 m4 hst4 hle4 hk4
    have hfr4 := hk4.fr (T' := [(3, _), (4, _), (5, _)]) (.old rfl rfl <| .old rfl rfl <| .new rfl <| .nil)
    replace hI1 := hI1.mono hle4
    replace hI2 := hI2.mono hle4
    clear hst3 hfr3 hk4
    refine hK11 _ _ ?_; clear hK11
    refine wp_block ?_
    refine loop_any (T := [(3, _), (4, _)]) (fun (y : Nat) => ([(5, .int .i64 (y : Int))] : List (Nat × Value))) (fun _ => _) (fun (y : Nat) m => (y ≤ (varsT t).1.length) ∧ (le8 ((varsT t).1.take y) = true)) (fun y => (varsT t).1.length - y) (0) ⟨hst4, MLe.refl _, hfr4.sub (.cons rfl <| .cons rfl <| .cons rfl <| .nil), ⟨Nat.zero_le _, by simp [le8]⟩⟩ fun y a5 w5 m5 hh5 => ?_
    have hst5 := hh5.st; have hle5 := hh5.le; have hfr5 := hh5.fr; have hrel := hh5.rel; clear hh5
    replace hI1 := hI1.mono hle5
    replace hI2 := hI2.mono hle5
    clear hst4 hfr4
    obtain ⟨hyn, hJ1⟩ := hrel
    have hlh5 := hle5
    refine seq_any fun _ hK13 => ?_
    refine seq_any fun _ hK14 => ?_
    refine rp0 hst5 hfr5 (.cons rfl (ob_move rfl) <| .cons rfl (ob_move rfl) <| .cons rfl (ob_len rfl Tryz.underlying32) <| .cons rfl (ob_lss rfl rfl) <| .nil) ?_
    intro a6 w6 m6 hst6 hle6 hk6
    have hfr6 := hk6.fr (T' := [(5, _), (3, _), (4, _), (28, _)]) (.old rfl rfl <| .old rfl rfl <| .old rfl rfl <| .new rfl <| .nil)
    replace hI1 := hI1.mono hle6
    replace hI2 := hI2.mono hle6
    have hlh6 := hlh5.trans hle6
    clear hst5 hfr5 hk6
    refine hK14 _ _ ?_; clear hK14
    refine cond_any hfr6 rfl rfl (fun hb28 => ?_) (fun hb28 => ?_)
    · try simp only [nq1, nq2, nq3, nq4, nq5, nq6, nq7, nq8, nq9, u8_eq] at hb28
      refine wp_skip ?_
      refine hK13 _ _ ?_; clear hK13
      refine seq_any fun _ hK15 => ?_
      refine wp_block ?_
      refine seq_any fun _ hK16 => ?_
      obtain ⟨p17, vs17, x17, ho17, hd17, hm_x17, ht17, hcv17, hl17, hv17⟩ := hI1.nth (k := y) (by omega)
      cases ho17
      subst hv17
      refine rp0 hst6 hfr6 (.cons rfl (ob_move rfl) <| .cons rfl (ob_move rfl) <| .cons rfl (ob_indexAddr (k := y) rfl rfl Tryz.underlying32 Tryz.sizeOf3 rfl (by omega)) <| .cons rfl (ob_load1' rfl hcv17 Tryz.isAgg3 rfl) <| .cons rfl (ob_gtr rfl rfl) <| .nil) ?_
      intro a7 w7 m7 hst7 hle7 hk7
      have hfr7 := hk7.fr (T' := [(5, _), (3, _), (4, _), (35, _)]) (.old rfl rfl <| .old rfl rfl <| .old rfl rfl <| .new rfl <| .nil)
      have hlh7 := hlh6.trans hle7
      clear hst6 hfr6 hk7
      refine hK16 _ _ ?_; clear hK16
      refine cond_any hfr7 rfl rfl (fun hb35 => ?_) (fun hb35 => ?_)
      · try simp only [nq1, nq2, nq3, nq4, nq5, nq6, nq7, nq8, nq9, u8_eq] at hb35
        have hr : smallT t = false := small_no (.inr (.inr (.inr (.inl (le8_take (k := y) (x := x17) (by rw [← List.head?_drop, hd17]; rfl) (by omega))))))
        refine seq_any fun _ hK18 => ?_
        refine rp0 hst7 hfr7 (.cons rfl (ob_assign rfl) <| .nil) ?_
        intro a8 w8 m8 hst8 hle8 hk8
        have hfr8 := hk8.fr (T' := [(5, _), (2, _)]) (.old rfl rfl <| .new rfl <| .nil)
        have hlh8 := hlh7.trans hle8
        clear hst7 hfr7 hk8
        refine hK18 _ _ ?_; clear hK18
        refine wp_ret ?_
        repeat (with_reducible first | refine then_ret ?_ | refine block_ret ?_)
        exact fn_ret hst8 hfr8 rfl (.tmp rfl <| .nil) (by rw [hr]; rfl)
      · try simp only [nq1, nq2, nq3, nq4, nq5, nq6, nq7, nq8, nq9, u8_eq] at hb35
        refine wp_skip ?_
        refine hK15 _ _ ?_; clear hK15
        refine rp0 hst7 hfr7 (.cons rfl (ob_move rfl) <| .cons rfl (ob_add rfl rfl ⟨by omega, by omega⟩) <| .cons rfl (ob_assign rfl) <| .nil) ?_
        intro a8 w8 m8 hst8 hle8 hk8
        have hfr8 := hk8.fr (T' := [(3, _), (4, _), (5, _)]) (.old rfl rfl <| .old rfl rfl <| .new rfl <| .nil)
        have hlh8 := hlh7.trans hle8
        clear hst7 hfr7 hk8
        exact ⟨y + 1, m8, by show (varsT t).1.length - (y + 1) < (varsT t).1.length - y; omega, ⟨hst8, hlh8, hfr8.sub (.cons rfl <| .cons rfl <| .cons rfl <| .nil), ⟨by show y + 1 ≤ (varsT t).1.length; omega, by rw [ht17, le8_snoc, hJ1, decide_eq_true (by omega)]; rfl⟩⟩⟩
    · try simp only [nq1, nq2, nq3, nq4, nq5, nq6, nq7, nq8, nq9, u8_eq] at hb28
      have hge : y = (varsT t).1.length := by omega
      rw [List.take_of_length_le (by omega)] at hJ1
      refine wp_exit ?_
      refine hK10 _ _ ?_; clear hK10
      refine seq_any fun _ hK20 => ?_
      refine seq_any fun _ hK21 => ?_
      refine rp0 hst6 hfr6 (.cons rfl (ob_assign rfl) <| .nil) ?_
      intro a7 w7 m7 hst7 hle7 hk7
      have hfr7 := hk7.fr (T' := [(5, _), (4, _), (6, _)]) (.old rfl rfl <| .old rfl rfl <| .new rfl <| .nil)
      replace hI2 := hI2.mono hle7
      have hlh7 := hlh6.trans hle7
      clear hst6 hfr6 hk7
      refine hK21 _ _ ?_; clear hK21
      refine wp_block ?_
      have hlq22 := hlh7
      refine loop_any (T := [(5, _), (4, _)]) (fun (y : Nat) => ([(6, .int .i64 (y : Int))] : List (Nat × Value))) (fun _ => _) (fun (y : Nat) m => (y ≤ (varsT t).2.length) ∧ (le8 ((varsT t).2.take y) = true)) (fun y => (varsT t).2.length - y) (0) ⟨hst7, MLe.refl _, hfr7.sub (.cons rfl <| .cons rfl <| .cons rfl <| .nil), ⟨Nat.zero_le _, by simp [le8]⟩⟩ fun y a8 w8 m8 hh8 => ?_
      have hst8 := hh8.st; have hle8 := hh8.le; have hfr8 := hh8.fr; have hrel := hh8.rel; clear hh8
      replace hI2 := hI2.mono hle8
      clear hst7 hfr7
      obtain ⟨hyn, hJ2⟩ := hrel
      have hlh8 := hle8
      refine seq_any fun _ hK23 => ?_
      refine seq_any fun _ hK24 => ?_
      refine rp0 hst8 hfr8 (.cons rfl (ob_move rfl) <| .cons rfl (ob_move rfl) <| .cons rfl (ob_len rfl Tryz.underlying32) <| .cons rfl (ob_lss rfl rfl) <| .nil) ?_
      intro a9 w9 m9 hst9 hle9 hk9
      have hfr9 := hk9.fr (T' := [(6, _), (5, _), (4, _), (39, _)]) (.old rfl rfl <| .old rfl rfl <| .old rfl rfl <| .new rfl <| .nil)
      replace hI2 := hI2.mono hle9
      have hlh9 := hlh8.trans hle9
      clear hst8 hfr8 hk9
      refine hK24 _ _ ?_; clear hK24
      refine cond_any hfr9 rfl rfl (fun hb39 => ?_) (fun hb39 => ?_)
      · try simp only [nq1, nq2, nq3, nq4, nq5, nq6, nq7, nq8, nq9, u8_eq] at hb39
        refine wp_skip ?_
        refine hK23 _ _ ?_; clear hK23
        refine seq_any fun _ hK25 => ?_
        refine wp_block ?_
        refine seq_any fun _ hK26 => ?_
        obtain ⟨p27, vs27, x27, ho27, hd27, hm_x27, ht27, hcv27, hl27, hv27⟩ := hI2.nth (k := y) (by omega)
        cases ho27
        subst hv27
        refine rp0 hst9 hfr9 (.cons rfl (ob_move rfl) <| .cons rfl (ob_move rfl) <| .cons rfl (ob_indexAddr (k := y) rfl rfl Tryz.underlying32 Tryz.sizeOf3 rfl (by omega)) <| .cons rfl (ob_load1' rfl hcv27 Tryz.isAgg3 rfl) <| .cons rfl (ob_gtr rfl rfl) <| .nil) ?_
        intro a10 w10 m10 hst10 hle10 hk10
        have hfr10 := hk10.fr (T' := [(6, _), (5, _), (4, _), (46, _)]) (.old rfl rfl <| .old rfl rfl <| .old rfl rfl <| .new rfl <| .nil)
        have hlh10 := hlh9.trans hle10
        clear hst9 hfr9 hk10
        refine hK26 _ _ ?_; clear hK26
        refine cond_any hfr10 rfl rfl (fun hb46 => ?_) (fun hb46 => ?_)
        · try simp only [nq1, nq2, nq3, nq4, nq5, nq6, nq7, nq8, nq9, u8_eq] at hb46
          have hr : smallT t = false := small_no (.inr (.inr (.inr (.inr (le8_take (k := y) (x := x27) (by rw [← List.head?_drop, hd27]; rfl) (by omega))))))
          refine seq_any fun _ hK28 => ?_
          refine rp0 hst10 hfr10 (.cons rfl (ob_assign rfl) <| .nil) ?_
          intro a11 w11 m11 hst11 hle11 hk11
          have hfr11 := hk11.fr (T' := [(6, _), (5, _), (2, _)]) (.old rfl rfl <| .old rfl rfl <| .new rfl <| .nil)
          have hlh11 := hlh10.trans hle11
          clear hst10 hfr10 hk11
          refine hK28 _ _ ?_; clear hK28
          refine wp_ret ?_
          repeat (with_reducible first | refine then_ret ?_ | refine block_ret ?_)
          exact fn_ret hst11 hfr11 rfl (.tmp rfl <| .nil) (by rw [hr]; rfl)
        · try simp only [nq1, nq2, nq3, nq4, nq5, nq6, nq7, nq8, nq9, u8_eq] at hb46
          refine wp_skip ?_
          refine hK25 _ _ ?_; clear hK25
          refine rp0 hst10 hfr10 (.cons rfl (ob_move rfl) <| .cons rfl (ob_add rfl rfl ⟨by omega, by omega⟩) <| .cons rfl (ob_assign rfl) <| .nil) ?_
          intro a11 w11 m11 hst11 hle11 hk11
          have hfr11 := hk11.fr (T' := [(5, _), (4, _), (6, _)]) (.old rfl rfl <| .old rfl rfl <| .new rfl <| .nil)
          have hlh11 := hlh10.trans hle11
          clear hst10 hfr10 hk11
          exact ⟨y + 1, m11, by show (varsT t).2.length - (y + 1) < (varsT t).2.length - y; omega, ⟨hst11, hlh11, hfr11.sub (.cons rfl <| .cons rfl <| .cons rfl <| .nil), ⟨by show y + 1 ≤ (varsT t).2.length; omega, by rw [ht27, le8_snoc, hJ2, decide_eq_true (by omega)]; rfl⟩⟩⟩
      · try simp only [nq1, nq2, nq3, nq4, nq5, nq6, nq7, nq8, nq9, u8_eq] at hb39
        have hge : y = (varsT t).2.length := by omega
        rw [List.take_of_length_le (by omega)] at hJ2
        refine wp_exit ?_
        refine hK20 _ _ ?_; clear hK20
        refine seq_any fun _ hK30 => ?_
        refine rp0 hst9 hfr9 (.cons rfl (ob_assign rfl) <| .nil) ?_
        intro a10 w10 m10 hst10 hle10 hk10
        have hfr10 := hk10.fr (T' := [(6, _), (5, _), (2, _)]) (.old rfl rfl <| .old rfl rfl <| .new rfl <| .nil)
        have hlh10 := hlh9.trans hle10
        clear hst9 hfr9 hk10
        refine hK30 _ _ ?_; clear hK30
        refine wp_ret ?_
        repeat (with_reducible first | refine then_ret ?_ | refine block_ret ?_)
        exact fn_ret hst10 hfr10 rfl (.tmp rfl <| .nil) (by rw [small_yes hq.1 hq.2.1 hq.2.2 hJ1 hJ2]; rfl)

set_option maxHeartbeats 400000 in
theorem ground_c {w : World} {m : Mem} {t : Ty} {vs_t : List Value} (hA : Agree w m) (h_t : TyR m t vs_t) (hb : cntT t ≤ 100000000) : FnV Tryz.prog 30 #[.agg vs_t.toArray] w m (fun _ _ v => v = .bool (groundT t)) := by
  obtain ⟨o_t, c_t, oL_t, cL_t, rfl, hk_t, hs_t, hi_t, hj_t, hr_t⟩ := h_t.open_
  have hbg_t := hk_t.big; have hcp_t := hk_t.cap; have hbs_t := hs_t.big; have hcs_t := hs_t.cap
  have hrw_t : RwR _ ⟨t.labels, t.rv⟩ _ := ⟨_, _, rfl, hs_t, hr_t⟩
  refine fn_enter (vs := [_]) Tryz.func30 rfl rfl rfl fun a0 hfr0 => ?_
  have hst0 := st_enter hA (loc_nil [] _ w m)
  have hM : MLe m m := MLe.refl m
  have hwr := walk_room t ([], [])
  simp only [room, List.length_nil] at hwr
  have e0 : ∀ l : List Int, decide ((l.length : Int) = 0) = decide (l = []) := fun l => by rw [decide_eq_decide]; exact ⟨fun h => List.eq_nil_of_length_eq_zero (by omega), fun h => by rw [h]; rfl⟩
  refine seq_any fun _ hK1 => ?_
  refine rp0 hst0 hfr0 (.cons rfl (ob_box rfl rfl) <| .cons rfl (ob_assign rfl) <| .nil) ?_
  intro a1 w1 m1 hst1 hle1 hk1
  have hfr1 := hk1.fr (T' := []) (.nil)
  obtain ⟨g2, e2, hc1⟩ := hk1.ex 1 rfl
  replace hfr1 := hfr1.cons e2
  replace h_t := h_t.mono hle1
  clear hst0 hfr0 hk1
  refine hK1 _ _ ?_; clear hK1
  refine seq_any fun _ hK3 => ?_
  refine ra0 (tch := []) hst1 hfr1 (.cons rfl (ob_loadS' rfl hc1 Tryz.isAgg45 Tryz.sizeOf45 rfl rfl) <| .cons rfl (ob_call (φ := MP.two (varsT t).1 (varsT t).2) rfl (.cons rfl <| .nil) Tryz.call33 (fun w m hK => by have hle_ := KC.le hK; have hA := KC.agree hK; have h_t := h_t.mono hle_; exact FnG.mono (vars0R_c (t := t) hA h_t (by omega)) fun _ _ _ _ h => h)) <| .cons rfl (ob_imgV 7 rfl rfl rfl fun y7 => ob_move rfl) <| .cons rfl (ob_imgV 5 rfl rfl rfl fun y5 => ob_extract rfl rfl) <| .cons rfl (ob_imgV 5 rfl rfl rfl fun y5 => ob_extract rfl rfl) <| .consA 8 rfl rfl <| .consA 9 rfl rfl <| .nil) ?_
  intro a2 w2 m2 hst2 hle2 hk2
  have hfr2 := hk2.fr (T' := []) (.nil)
  obtain ⟨⟨⟨o1, c1⟩, q1⟩, e4, hI1, _⟩ := hk2.ex 8 rfl
  obtain ⟨⟨q2, o2, c2⟩, e5, _, hI2⟩ := hk2.ex 9 rfl
  replace hfr2 := hfr2.cons (hk2.same 3 rfl e4)
  replace hfr2 := hfr2.cons (hk2.same 4 rfl e5)
  clear hst1 hfr1 hk2
  refine hK3 _ _ ?_; clear hK3
  refine seq_any fun _ hK6 => ?_
  refine rp0 hst2 hfr2 (.cons rfl (ob_move rfl) <| .cons rfl (ob_len rfl Tryz.underlying32) <| .cons rfl (ob_eql rfl rfl) <| .cons rfl (ob_move rfl) <| .cons rfl (ob_move rfl) <| .cons rfl (ob_len rfl Tryz.underlying32) <| .cons rfl (ob_eql rfl rfl) <| .cons rfl (ob_and rfl rfl rfl) <| .cons rfl (ob_assign rfl) <| .nil) ?_
  intro a3 w3 m3 hst3 hle3 hk3
  have hfr3 := hk3.fr (T' := [(2, _)]) (.new rfl <| .nil)
  clear hst2 hfr2 hk3
  refine hK6 _ _ ?_; clear hK6
  refine wp_ret ?_
  repeat (with_reducible first | refine then_ret ?_ | refine block_ret ?_)
  exact fn_ret hst3 hfr3 rfl (.tmp rfl <| .nil) (by refine congrArg Value.bool ?_; unfold groundT; rw [← e0, ← e0])

set_option maxHeartbeats 3200000 in
theorem shown_c {w : World} {m : Mem}  (hA : Agree w m)  : FnV Tryz.prog 9 #[] w m (fun _ _ v => v = .bool true) := by
  refine fn_enter (vs := []) Tryz.func9 rfl rfl rfl fun a0 hfr0 => ?_
  have hst0 := st_enter hA (loc_nil [] _ w m)
  have hM : MLe m m := MLe.refl m
  refine seq_any fun _ hK1 => ?_
  refine rp0 hst0 hfr0 (.cons rfl (ob_assign rfl) <| .nil) ?_
  intro a1 w1 m1 hst1 hle1 hk1
  have hfr1 := hk1.fr (T' := []) (.nil)
  clear hst0 hfr0 hk1
  refine hK1 _ _ ?_; clear hK1
  refine seq_any fun _ hK2 => ?_
  replace hst1 := hst1.more (r := .free) trivial List.nodup_nil (by simp [Res.blocks])
  refine ra0 (tch := [(10, 0, (fun v => .blk v _)), (11, 0, (fun v => .blkx v _ _))]) hst1 hfr1 (.cons rfl (ob_call (φ := MP.subQ noneS) rfl (.nil) Tryz.call10 (fun w m hK => by have hle_ := KC.le hK; have hA := KC.agree hK; exact FnG.mono (noneU_c hA) fun _ _ _ _ h => h)) <| .cons rfl (ob_buildSlice (.cons rfl <| .nil) Tryz.underlying41 Tryz.sizeOf9 Tryz.zeroValue9 rfl rfl rfl rfl) <| .cons rfl (ob_imgV 11 rfl rfl rfl fun y11 => ob_buildS (.cons rfl <| .cons rfl <| .nil) Tryz.underlying43 Tryz.zeroValue43 (.cons Tryz.sizeOf41 <| .cons Tryz.sizeOf3 <| .nil) rfl) <| .cons rfl (ob_buildSlice (.cons rfl <| .nil) Tryz.underlying41 Tryz.sizeOf9 Tryz.zeroValue9 rfl rfl rfl rfl) <| .cons rfl (ob_imgV 13 rfl rfl rfl fun y13 => ob_buildS (.cons rfl <| .cons rfl <| .nil) Tryz.underlying43 Tryz.zeroValue43 (.cons Tryz.sizeOf41 <| .cons Tryz.sizeOf3 <| .nil) rfl) <| .cons rfl (ob_imgE 10 rfl rfl rfl fun y10 => ob_imgE 12 rfl rfl rfl fun y12 => ob_imgE 14 rfl rfl rfl fun y14 => ob_call (φ := MP.un (0, ⟨shR, 10⟩)) rfl (.cons rfl <| .cons rfl <| .cons rfl <| .cons rfl <| .nil) Tryz.call27 (fun w m hK => by have hle_ := KC.le hK; have hA := KC.agree hK; have hr0_ := hK.2; have hr1_ := hK.1.2; have hr2_ := hK.1.1.2; exact FnG.mono ((by have h9 := rows7_c (n := 9) (a := ⟨[shE], 1⟩) (b := ⟨[shF], 2⟩) hA hr2_ (rowR_1 hr1_ ⟨by omega, by omega⟩) (rowR_1 hr0_ ⟨by omega, by omega⟩) (noneU_ok ⟨by omega, by omega⟩) (by simp) (by simp); rw [sh_rows] at h9; exact h9)) fun _ _ _ _ h => h)) <| .cons rfl (ob_imgV 15 rfl rfl rfl fun y15 => ob_move rfl) <| .cons rfl (ob_imgV 9 rfl rfl rfl fun y9 => ob_extract rfl rfl) <| .cons rfl (ob_imgE 9 rfl rfl rfl fun y9 => ob_extract rfl rfl) <| .cons rfl (ob_imgE 9 rfl rfl rfl fun y9 => ob_extract rfl rfl) <| .consT rfl rfl (fun _ => rfl) rfl (ob_allocL Tryz.zeroValue29 rfl) <| .consT rfl rfl (fun _ => rfl) rfl (ob_imgT 1 rfl rfl rfl fun y1 => ob_imgTX 16 rfl rfl rfl fun y16 => ob_storeF rfl rfl rfl rfl rfl Tryz.sizeOf29 rfl rfl rfl) <| .cons rfl (ob_assign rfl) <| .cons rfl (ob_assign rfl) <| .nil) ?_
  intro a2 w2 m2 hst2 hle2 hk2
  have hfr2 := hk2.fr (T' := [(2, _), (3, _)]) (.new rfl <| .new rfl <| .nil)
  obtain ⟨g3, e3, _⟩ := hk2.ex 1 rfl
  replace hfr2 := hfr2.cons e3
  replace hst2 := hst2.fin (L' := [_]) (.cons e3 <| .cons e3 <| .nil)
  try simp only [List.take_succ_cons, List.take_zero, List.drop_succ_cons, List.drop_zero, List.cons_append, List.nil_append, List.append_nil, List.length_cons, List.length_nil, Nat.zero_add, Nat.reduceAdd] at hst2
  obtain ⟨⟨q1, q2⟩, hS, hst2⟩ := hst2.unx (k := 0) rfl (fun _ => rfl)
  clear hst1 hfr1 hk2
  refine hK2 _ _ ?_; clear hK2
  refine seq_any fun _ hK5 => ?_
  replace hst2 := hst2.more (r := .free) trivial List.nodup_nil (by simp [Res.blocks])
  refine ra0 (tch := [(5, 1, (fun v => .blk v _)), (6, 1, (fun v => .blkx v _ _))]) hst2 hfr2 (.cons rfl (ob_loadLA (j := 0) rfl rfl Tryz.isAgg29 Tryz.sizeOf29 rfl) <| .cons rfl (ob_call (φ := MP.rwb ⟨[shF], 9⟩ true) rfl (.cons rfl <| .cons rfl <| .nil) Tryz.call31 (fun w m hK => by have hle_ := KC.le hK; have hA := KC.agree hK; have hS := hS.mono hle_; exact FnG.mono (rowU_c (U := shR) (n := 1) hA hS rfl rfl (shR_w (by omega))) fun _ _ _ _ h => h)) <| .cons rfl (ob_imgV 21 rfl rfl rfl fun y21 => ob_move rfl) <| .cons rfl (ob_imgV 19 rfl rfl rfl fun y19 => ob_extract rfl rfl) <| .cons rfl (ob_imgE 19 rfl rfl rfl fun y19 => ob_extract rfl rfl) <| .consT rfl rfl (fun _ => rfl) rfl (ob_allocL Tryz.zeroValue43 rfl) <| .consT rfl rfl (fun _ => rfl) rfl (ob_imgT 4 rfl rfl rfl fun y4 => ob_imgTX 22 rfl rfl rfl fun y22 => ob_storeF rfl rfl rfl rfl rfl Tryz.sizeOf43 rfl rfl rfl) <| .cons rfl (ob_assign rfl) <| .nil) ?_
  intro a3 w3 m3 hst3 hle3 hk3
  have hfr3 := hk3.fr (T' := [(2, _), (3, _), (5, _)]) (.old rfl rfl <| .old rfl rfl <| .new rfl <| .nil)
  obtain ⟨g6, e6, _⟩ := hk3.ex 4 rfl
  replace hfr3 := hfr3.cons e6
  replace hst3 := hst3.fin (L' := [_, _]) (.cons e6 <| .cons e6 <| .nil)
  try simp only [List.take_succ_cons, List.take_zero, List.drop_succ_cons, List.drop_zero, List.cons_append, List.nil_append, List.append_nil, List.length_cons, List.length_nil, Nat.zero_add, Nat.reduceAdd] at hst3
  obtain ⟨⟨oF, cF⟩, hF, hst3⟩ := hst3.unx (k := 1) rfl (fun _ => rfl)
  clear hst2 hfr2 hk3
  have hsF := (rwV_open hF).1
  refine hK5 _ _ ?_; clear hK5
  refine seq_any fun _ hK8 => ?_
  replace hst3 := hst3.more (r := .free) trivial List.nodup_nil (by simp [Res.blocks])
  refine ra0 (tch := [(10, 2, (fun v => .blk v _)), (11, 2, (fun v => .blkx v _ _))]) hst3 hfr3 (.cons rfl (ob_call (φ := MP.subQ noneS) rfl (.nil) Tryz.call10 (fun w m hK => by have hle_ := KC.le hK; have hA := KC.agree hK; exact FnG.mono (noneU_c hA) fun _ _ _ _ h => h)) <| .cons rfl (ob_call (φ := MP.ty (varT 1)) rfl (.cons rfl <| .nil) Tryz.call18 (fun w m hK => by have hle_ := KC.le hK; have hA := KC.agree hK; exact FnG.mono (tvar_c (n := 1) hA ⟨by omega, by omega⟩) fun _ _ _ _ h => h)) <| .cons rfl (ob_call (φ := MP.ty (varT 1)) rfl (.cons rfl <| .nil) Tryz.call18 (fun w m hK => by have hle_ := KC.le hK; have hA := KC.agree hK; exact FnG.mono (tvar_c (n := 1) hA ⟨by omega, by omega⟩) fun _ _ _ _ h => h)) <| .cons rfl (ob_imgI 27 rfl rfl rfl fun y27 => ob_buildSlice1 rfl Tryz.underlying33 Tryz.sizeOf45 Tryz.zeroValue45 rfl rfl rfl rfl) <| .cons rfl (ob_imgV 28 rfl rfl rfl fun y28 => ob_buildS (.cons rfl <| .cons rfl <| .nil) Tryz.underlying45 Tryz.zeroValue45 (.cons Tryz.sizeOf3 <| .cons Tryz.sizeOf9 <| .cons Tryz.sizeOf3 <| .cons Tryz.sizeOf33 <| .cons Tryz.sizeOf43 <| .nil) rfl) <| .cons rfl (ob_imgE 25 rfl rfl rfl fun y25 => ob_imgE 26 rfl rfl rfl fun y26 => ob_imgE 29 rfl rfl rfl fun y29 => ob_call (φ := MP.un (5, ⟨noneS, 9⟩)) rfl (.cons rfl <| .cons rfl <| .cons rfl <| .cons rfl <| .nil) Tryz.call14 (fun w m hK => by have hle_ := KC.le hK; have hA := KC.agree hK; have hr0_ := hK.2; have hr1_ := hK.1.2; have hr2_ := hK.1.1.2; exact FnG.mono (types7_c (n := 9) (a := varT 1) (b := refT (varT 1)) hA hr2_ hr1_ (refT_R hr0_.2 hr0_.1) sh_types) fun _ _ _ _ h => h)) <| .cons rfl (ob_imgV 30 rfl rfl rfl fun y30 => ob_move rfl) <| .cons rfl (ob_imgV 24 rfl rfl rfl fun y24 => ob_extract rfl rfl) <| .cons rfl (ob_imgE 24 rfl rfl rfl fun y24 => ob_extract rfl rfl) <| .cons rfl (ob_imgE 24 rfl rfl rfl fun y24 => ob_extract rfl rfl) <| .consT rfl rfl (fun _ => rfl) rfl (ob_allocL Tryz.zeroValue29 rfl) <| .consT rfl rfl (fun _ => rfl) rfl (ob_imgT 6 rfl rfl rfl fun y6 => ob_imgTX 31 rfl rfl rfl fun y31 => ob_storeF rfl rfl rfl rfl rfl Tryz.sizeOf29 rfl rfl rfl) <| .cons rfl (ob_assign rfl) <| .cons rfl (ob_assign rfl) <| .nil) ?_
  intro a4 w4 m4 hst4 hle4 hk4
  have hfr4 := hk4.fr (T' := [(2, _), (3, _), (5, _), (4, _), (8, _)]) (.old rfl rfl <| .old rfl rfl <| .old rfl rfl <| .old rfl rfl <| .new rfl <| .nil)
  obtain ⟨g9, e9, _⟩ := hk4.ex 6 rfl
  replace hst4 := hst4.fin (L' := [_, _, _]) (.cons e9 <| .cons e9 <| .nil)
  try simp only [List.take_succ_cons, List.take_zero, List.drop_succ_cons, List.drop_zero, List.cons_append, List.nil_append, List.append_nil, List.length_cons, List.length_nil, Nat.zero_add, Nat.reduceAdd] at hst4
  obtain ⟨y10, hy10, hst4⟩ := hst4.unx (k := 2) rfl (fun _ => rfl)
  replace hsF := hsF.mono hle4
  clear hst3 hfr3 hk4
  refine hK8 _ _ ?_; clear hK8
  refine seq_any fun _ hK11 => ?_
  have hln1 : (⟨[shF], 9⟩ : Rw).labels.length = 1 := rfl
  obtain ⟨p12, vs12, x12, ho12, hd12, hm_x12, ht12, hcv12, hl12, hv12⟩ := hsF.nth (k := 0) (by decide)
  cases ho12
  subst hv12
  refine rp0 hst4 hfr4 (.cons rfl (ob_move rfl) <| .cons rfl (ob_eql rfl rfl) <| .cons rfl (ob_move rfl) <| .cons rfl (ob_move rfl) <| .cons rfl (ob_eql rfl rfl) <| .cons rfl (ob_and rfl rfl rfl) <| .cons rfl (ob_move rfl) <| .cons rfl (ob_move rfl) <| .cons rfl (ob_and rfl rfl rfl) <| .cons rfl (ob_move rfl) <| .cons rfl (ob_fieldAddrO (off := 0) rfl Tryz.underlying43 rfl rfl Tryz.sizeOf41 rfl) <| .cons rfl (ob_loadL (j := 1) rfl rfl Tryz.isAgg41 rfl) <| .cons rfl (ob_len rfl Tryz.underlying41) <| .cons rfl (ob_eql rfl rfl) <| .cons rfl (ob_and rfl rfl rfl) <| .cons rfl (ob_move rfl) <| .cons rfl (ob_fieldAddrO (off := 0) rfl Tryz.underlying43 rfl rfl Tryz.sizeOf41 rfl) <| .cons rfl (ob_loadL (j := 1) rfl rfl Tryz.isAgg41 rfl) <| .cons rfl (ob_indexAddr (k := 0) rfl rfl Tryz.underlying41 Tryz.sizeOf9 (by omega) (by omega)) <| .cons rfl (ob_load1' rfl hcv12 Tryz.isAgg9 rfl) <| .cons rfl (ob_seql rfl rfl) <| .cons rfl (ob_and rfl rfl rfl) <| .cons rfl (ob_move rfl) <| .cons rfl (ob_fieldAddrO (off := 1) rfl Tryz.underlying43 rfl rfl Tryz.sizeOf3 rfl) <| .cons rfl (ob_loadL (j := 1) rfl rfl Tryz.isAgg3 rfl) <| .cons rfl (ob_eql rfl rfl) <| .cons rfl (ob_and rfl rfl rfl) <| .cons rfl (ob_move rfl) <| .cons rfl (ob_move rfl) <| .cons rfl (ob_eql rfl rfl) <| .cons rfl (ob_and rfl rfl rfl) <| .cons rfl (ob_assign rfl) <| .nil) ?_
  intro a5 w5 m5 hst5 hle5 hk5
  have hfr5 := hk5.fr (T' := [(0, _)]) (.new rfl <| .nil)
  clear hst4 hfr4 hk5
  have e9 : shF = x12 := by simpa using hd12
  subst e9
  refine hK11 _ _ ?_; clear hK11
  refine wp_ret ?_
  repeat (with_reducible first | refine then_ret ?_ | refine block_ret ?_)
  exact fn_ret hst5 hfr5 rfl (.tmp rfl <| .nil) (rfl)

end Go.Proofs.YtlidonjpgigocaaGreat
