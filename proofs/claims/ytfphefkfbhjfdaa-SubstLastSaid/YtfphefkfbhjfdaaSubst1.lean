/-
  Package subst: what is said of variables, and types with it. Conditions: those of each theorem.
-/
import Derived.Test.YtfphefkfbhjfdaaSort5
namespace Go.Proofs.Ytfphefkfbhjfdaa
set_option linter.all false
set_option maxRecDepth 4000
open Go.RowKit
abbrev KI : Int → Value := fun n => .int .i64 n
abbrev RTy : Mem → List Value → Ty → Prop := fun m vs t => TyR m t vs
abbrev RRw : Mem → List Value → Rw → Prop := fun m vs r => RwR m r vs
/-- What is said of variables. -/
structure Sub where
  ts : List (Int × Ty)
  rs : List (Int × Rw)
def SubR (m : Mem) (s : Sub) (vs : List Value) : Prop := ∃ o1 o2, vs = [.map o1, .map o2] ∧ MapO KI RTy m o1 s.ts ∧ MapO KI RRw m o2 s.rs
theorem SubR.mono {m m' : Mem} {s : Sub} {vs : List Value} (h : SubR m s vs) (hm : MLe m m') : SubR m' s vs := by obtain ⟨o1, o2, e, h1, h2⟩ := h; exact ⟨o1, o2, e, h1.mono hm, h2.mono hm⟩
theorem SubR.one {m : Mem} {s : Sub} {vs : List Value} (h : SubR m s vs) : vs.all (·.oneCell') = true := by obtain ⟨o1, o2, rfl, _⟩ := h; rfl
abbrev subV (y : Option Nat × Option Nat) : List Value := [.map y.1, .map y.2]
def MP.sub (s : Sub) : MP := MP.mem (fun y => .agg (subV y).toArray) (fun y m => SubR m s (subV y)) fun hm h => h.mono hm
def MP.mapo {α : Type} (R : Mem → List Value → α → Prop) [RepR R] (l : List (Int × α)) : MP := MP.mem (fun g : Nat => .map (some g)) (fun g m => MapO KI R m (some g) l) fun hm h => h.mono hm
theorem splice_whole {ws vs : List Value} (h : vs.length = ws.length) : splice 0 ws vs = ws := by
  unfold splice; rw [List.take_zero, List.nil_append, Nat.zero_add, ← h, List.drop_length, List.append_nil]
theorem St.tail2 {W : World} {mE : Mem} {a b c : Res} {w : World} {m : Mem} (h : St [] W mE [a, b, c] w m) : St [] W mE [c] w m :=
  ⟨h.ext, fun r hr => h.loc.all r (List.mem_cons_of_mem _ (List.mem_cons_of_mem _ hr)), by have := h.loc.apart; simp only [List.flatMap_cons] at this ⊢; exact (List.nodup_append.1 (List.nodup_append.1 this).2.1).2.1, fun g hg => h.loc.own g (by simp only [List.flatMap_cons, List.mem_append] at hg ⊢; exact .inr (.inr hg))⟩
theorem set_same {α : Type} {l : List α} {y : Nat} {x : α} (h : l[y]? = some x) : l.set y x = l := by
  apply List.ext_getElem?
  intro i
  rw [List.getElem?_set]
  split
  · rename_i e; subst e; rw [h]; split
    · rfl
    · rename_i h2; rw [List.getElem?_eq_none (by omega)] at h; cases h
  · rfl

theorem mcloneT_t {w : World} {m : Mem} {g : Nat} {es : List (Int × Value)} (hA : Agree w m) (h : MapAt KI m g es) :
    Calls Try.prog 39 #[.map (some g)] w fun e w' => ∃ v m', e = .returned v ∧ Touch .free (.map v (encs KI es)) w m w' m' ∧ (Kn.ex MP.mapv).holds m' v := by
  obtain ⟨ents, cl, h1, h2, h3⟩ := h
  exact Calls.mono (AnyW.maps_Clone Try.mcloneT g ents cl w (hA.map _ _ h1)) fun e w' ⟨e1, e2⟩ => ⟨_, m, e1, by rw [e2]; exact touch_newMap hA h2 h3, _, rfl, trivial⟩
theorem mcloneT_nil {w : World} {m : Mem} (hA : Agree w m) : FnV Try.prog 39 #[.map none] w m fun _ _ v => v = .map none :=
  Calls.mono (AnyW.maps_Clone_nil Try.mcloneT w) fun e w' ⟨e1, e2⟩ => ⟨_, m, e1, by rw [e2]; exact ExtG.refl _ hA, rfl⟩

theorem mcloneR_t {w : World} {m : Mem} {g : Nat} {es : List (Int × Value)} (hA : Agree w m) (h : MapAt KI m g es) :
    Calls Try.prog 41 #[.map (some g)] w fun e w' => ∃ v m', e = .returned v ∧ Touch .free (.map v (encs KI es)) w m w' m' ∧ (Kn.ex MP.mapv).holds m' v := by
  obtain ⟨ents, cl, h1, h2, h3⟩ := h
  exact Calls.mono (AnyW.maps_Clone Try.mcloneR g ents cl w (hA.map _ _ h1)) fun e w' ⟨e1, e2⟩ => ⟨_, m, e1, by rw [e2]; exact touch_newMap hA h2 h3, _, rfl, trivial⟩
theorem mcloneR_nil {w : World} {m : Mem} (hA : Agree w m) : FnV Try.prog 41 #[.map none] w m fun _ _ v => v = .map none :=
  Calls.mono (AnyW.maps_Clone_nil Try.mcloneR w) fun e w' ⟨e1, e2⟩ => ⟨_, m, e1, by rw [e2]; exact ExtG.refl _ hA, rfl⟩

set_option maxHeartbeats 400000 in
theorem cloneTy_g {w : World} {m : Mem} {o_l : Option Addr} {c_l : Nat} {l : List Ty} (hA : Agree w m) (h_l : Tys m o_l l.length c_l l) (hn9 : l.length ≤ 1599289640401) : FnG Try.prog 40 #[.slice o_l l.length c_l] [] w m (fun w' m' v => Loc [] w.heap.size [.mrowx v l.length 6 28 (MP.reads (fun m vs t => TyR m t vs) 6 l)] w' m' ∧ (MP.made' l.length).p m' v) := by
  have hb_l := h_l.big; have hc_l := h_l.cap
  refine fn_enter (vs := [_]) Try.func40 rfl rfl rfl fun a0 hfr0 => ?_
  have hst0 := st_enter hA (loc_nil [] _ w m)
  have hM : MLe m m := MLe.refl m
  refine seq_any fun _ hK1 => ?_
  refine rp0 hst0 hfr0 (.cons rfl (ob_assign rfl) <| .nil) ?_
  intro a1 w1 m1 hst1 hle1 hk1
  have hfr1 := hk1.fr (T' := [(0, _)]) (.old rfl rfl <| .nil)
  replace h_l := h_l.mono hle1
  clear hst0 hfr0 hk1
  refine hK1 _ _ ?_; clear hK1
  refine seq_any fun _ hK2 => ?_
  refine seq_any fun _ hK3 => ?_
  refine rp0 hst1 hfr1 (.cons rfl (ob_move rfl) <| .cons rfl (ob_slnil rfl Try.underlying23) <| .nil) ?_
  intro a2 w2 m2 hst2 hle2 hk2
  have hfr2 := hk2.fr (T' := [(0, _), (4, _)]) (.old rfl rfl <| .new rfl <| .nil)
  replace h_l := h_l.mono hle2
  clear hst1 hfr1 hk2
  refine hK3 _ _ ?_; clear hK3
  refine cond_any hfr2 rfl rfl (fun hb4 => ?_) (fun hb4 => ?_)
  · try simp only [nq1, nq2, nq3, nq4, nq5, nq6, nq7, nq8, nq9, u8_eq] at hb4
    have ho9 : o_l = none := by cases o_l with | none => rfl | some p => simp at hb4
    subst ho9
    have hl9 := h_l.none_nil
    subst hl9
    refine seq_any fun _ hK4 => ?_
    refine rp0 hst2 hfr2 (.cons rfl (ob_assign rfl) <| .nil) ?_
    intro a3 w3 m3 hst3 hle3 hk3
    have hfr3 := hk3.fr (T' := [(2, _)]) (.new rfl <| .nil)
    clear hst2 hfr2 hk3
    have hst9 := hst3.more (r := .mrowx (.slice none 0 0) 0 6 28 (MP.reads (fun m vs t => TyR m t vs) 6 [])) mrowx_nil List.nodup_nil (by simp [Res.blocks, mBlock])
    refine hK4 _ _ ?_; clear hK4
    refine wp_ret ?_
    repeat (with_reducible first | refine then_ret ?_ | refine block_ret ?_)
    exact fn_ret hst3 hfr3 rfl (.tmp rfl <| .nil) (⟨hst9.loc, (none, 0), rfl, Nat.le_refl _⟩)
  · try simp only [nq1, nq2, nq3, nq4, nq5, nq6, nq7, nq8, nq9, u8_eq] at hb4
    refine wp_skip ?_
    refine hK2 _ _ ?_; clear hK2
    refine seq_any fun _ hK6 => ?_
    replace hst2 := hst2.more (r := .free) trivial List.nodup_nil (by simp [Res.blocks])
    refine ra0 (tch := [(2, 0, (fun v => .mrowx v _ _ _ _))]) hst2 hfr2 (.cons rfl (ob_buildSlice0 Try.underlying23 Try.sizeOf28) <| .cons rfl (ob_move rfl) <| .consT rfl rfl (fun _ => rfl) rfl (ob_imgT 5 rfl rfl rfl fun y5 => ob_appendM0 (size := 6) (bytes := 88) rfl rfl Try.underlying23 Try.type28 rfl rfl rfl rfl (fun w m hK => h_l.mono (KC.le hK)) (by decide) (by simp only [maxLen]; omega) (by omega)) <| .consA 7 rfl rfl <| .nil) ?_
    intro a3 w3 m3 hst3 hle3 hk3
    have hfr3 := hk3.fr (T' := []) (.nil)
    obtain ⟨⟨om7, cm7⟩, e7, hcm7⟩ := hk3.ex 7 rfl
    replace hfr3 := hfr3.cons (hk3.same 2 rfl e7)
    replace hst3 := hst3.fin (L' := [_]) (.cons e7 <| .nil)
    clear hst2 hfr2 hk3
    refine hK6 _ _ ?_; clear hK6
    refine wp_ret ?_
    repeat (with_reducible first | refine then_ret ?_ | refine block_ret ?_)
    exact fn_ret hst3 hfr3 rfl (.tmp rfl <| .nil) (⟨hst3.loc, (om7, cm7), rfl, hcm7⟩)

theorem cloneTy_t {w : World} {m : Mem} {o : Option Addr} {c : Nat} {l : List Ty} (hA : Agree w m) (h : Tys m o l.length c l) (hn : l.length ≤ 1599289640401) :
    Calls Try.prog 40 #[.slice o l.length c] w fun e w' => ∃ v m', e = .returned v ∧ Touch .free (.mrowx v l.length 6 28 (MP.reads (fun m vs t => TyR m t vs) 6 l)) w m w' m' ∧ (Kn.ex (MP.made' l.length)).holds m' v :=
  Calls.mono (cloneTy_g hA h hn) fun e w' ⟨v, m', e1, hE, hL, hv⟩ => ⟨v, m', e1, touch_of hE hL, hv⟩

abbrev copied_G (t : Ty) : Prop := ∀ {w : World} {m : Mem} {vs_t : List Value} (hA : Agree w m) (h_t : TyR m t vs_t) (hb : wdT t ≤ 17592186044416), FnV Try.prog 28 #[.agg vs_t.toArray] w m (fun _ m v => (MP.ty t).p m v)
set_option maxHeartbeats 1600000 in
theorem copied_s {t : Ty} (ih : ∀ u ∈ t.args, copied_G u) {w : World} {m : Mem} {vs_t : List Value} (hA : Agree w m) (h_t : TyR m t vs_t) (hb : wdT t ≤ 17592186044416) : FnV Try.prog 28 #[.agg vs_t.toArray] w m (fun _ m v => (MP.ty t).p m v) := by
  obtain ⟨o_t, c_t, oL_t, cL_t, rfl, hk_t, hs_t, hi_t, hj_t, hr_t⟩ := h_t.open_
  have hbg_t := hk_t.big; have hcp_t := hk_t.cap; have hbs_t := hs_t.big; have hcs_t := hs_t.cap
  have hrw_t : RwR _ ⟨t.labels, t.rv⟩ _ := ⟨_, _, rfl, hs_t, hr_t⟩
  refine fn_enter (vs := [_]) Try.func28 rfl rfl rfl fun a0 hfr0 => ?_
  have hst0 := st_enter hA (loc_nil [] _ w m)
  have hM : MLe m m := MLe.refl m
  have hbk := fun u (hu : u ∈ t.args) => wdT_arg hu
  have hbe := wdT_eq t
  refine seq_any fun _ hK1 => ?_
  replace hst0 := hst0.more (r := .free) trivial List.nodup_nil (by simp [Res.blocks])
  replace hst0 := hst0.more (r := .free) trivial List.nodup_nil (by simp [Res.blocks])
  refine ra0 (tch := [(0, 0, (fun v => .blk v _)), (1, 1, (fun v => .blk v _))]) hst0 hfr0 (.consT rfl rfl (fun _ => rfl) rfl (ob_boxL rfl rfl) <| .consT rfl rfl (fun _ => rfl) rfl (ob_allocL Try.zeroValue28 rfl) <| .nil) ?_
  intro a1 w1 m1 hst1 hle1 hk1
  have hfr1 := hk1.fr (T' := []) (.nil)
  obtain ⟨gB, e2, _⟩ := hk1.ex 1 rfl
  replace hfr1 := hfr1.cons e2
  obtain ⟨gT, e3, _⟩ := hk1.ex 2 rfl
  replace hfr1 := hfr1.cons e3
  replace hst1 := hst1.fin (L' := [_, _]) (.cons e2 <| .cons e3 <| .nil)
  replace h_t := h_t.mono hle1
  replace hk_t := hk_t.mono hle1
  replace hs_t := hs_t.mono hle1
  replace hrw_t := hrw_t.mono hle1
  replace hM := hM.trans hle1
  clear hst0 hfr0 hk1
  refine hK1 _ _ ?_; clear hK1
  refine seq_any fun _ hK4 => ?_
  replace hst1 := hst1.more (r := .free) trivial List.nodup_nil (by simp [Res.blocks])
  refine ra0 (tch := [(2, 2, (fun v => .mrowx v t.args.length 6 28 (MP.reads (fun m vs t => TyR m t vs) 6 t.args))), (4, 0, (fun u => .blk _ (.cells (_ ++ [u] ++ _).toArray _)))]) hst1 hfr1 (.cons rfl (ob_fieldAddrO (off := 3) rfl Try.underlying28 rfl rfl Try.sizeOf23 rfl) <| .cons rfl (ob_loadL (j := 0) rfl rfl Try.isAgg23 rfl) <| .consT rfl rfl (fun _ => rfl) rfl (ob_callT rfl (.cons rfl <| .nil) Try.call40 (κ := .ex (MP.made' t.args.length)) (fun σ w m hK hr hkn => by have hle_ := KC.le hK; have hA := KC.agree hK; have hM := hM.trans hle_; have h_t := h_t.mono hle_; have hk_t := hk_t.mono hle_; have hs_t := hs_t.mono hle_; have hrw_t := hrw_t.mono hle_; exact cloneTy_t hA hk_t (by omega))) <| .cons rfl (ob_fieldAddrO (off := 3) rfl Try.underlying28 rfl rfl Try.sizeOf23 rfl) <| .consT rfl rfl (fun _ => rfl) rfl (ob_imgT 6 rfl rfl rfl fun y6 => ob_storeV rfl rfl rfl rfl rfl Try.sizeOf23 rfl rfl rfl) <| .nil) ?_
  intro a2 w2 m2 hst2 hle2 hk2
  have hfr2 := hk2.fr (T' := [(1, _), (2, _)]) (.old rfl rfl <| .old rfl rfl <| .nil)
  obtain ⟨⟨oK, cK⟩, e5, hcK⟩ := hk2.ex 6 rfl
  replace hst2 := hst2.fin (L' := [_, _, _]) (.cons e5 <| .cons e5 <| .nil)
  try simp only [List.take_succ_cons, List.take_zero, List.drop_succ_cons, List.drop_zero, List.cons_append, List.nil_append, List.append_nil, List.length_cons, List.length_nil, Nat.zero_add, Nat.reduceAdd] at hst2
  replace h_t := h_t.mono hle2
  replace hk_t := hk_t.mono hle2
  replace hs_t := hs_t.mono hle2
  replace hrw_t := hrw_t.mono hle2
  replace hM := hM.trans hle2
  clear hst1 hfr1 hk2
  refine hK4 _ _ ?_; clear hK4
  refine seq_any fun _ hK6 => ?_
  refine seq_any fun _ hK7 => ?_
  refine rp0 hst2 hfr2 (.cons rfl (ob_fieldAddrO (off := 3) rfl Try.underlying28 rfl rfl Try.sizeOf23 rfl) <| .cons rfl (ob_loadL (j := 0) rfl rfl Try.isAgg23 rfl) <| .cons rfl (ob_len rfl Try.underlying23) <| .cons rfl (ob_move rfl) <| .nil) ?_
  intro a3 w3 m3 hst3 hle3 hk3
  have hfr3 := hk3.fr (T' := [(1, _), (2, _), (10, _), (11, _)]) (.old rfl rfl <| .old rfl rfl <| .new rfl <| .new rfl <| .nil)
  replace h_t := h_t.mono hle3
  replace hk_t := hk_t.mono hle3
  replace hs_t := hs_t.mono hle3
  replace hrw_t := hrw_t.mono hle3
  replace hM := hM.trans hle3
  clear hst2 hfr2 hk3
  refine hK7 _ _ ?_; clear hK7
  refine wp_block ?_
  refine loop_any (T := [(1, _), (2, _), (10, _)]) (fun (y : Nat) => ([(11, .int .i64 (y : Int))] : List (Nat × Value))) (fun y => [_, _, .mrowx (.slice oK t.args.length cK) t.args.length 6 28 (MP.reads (fun m vs t => TyR m t vs) 6 t.args)]) (fun (y : Nat) m => (y ≤ t.args.length)) (fun y => t.args.length - y) (0) ⟨hst3, MLe.refl _, hfr3.sub (.cons rfl <| .cons rfl <| .cons rfl <| .cons rfl <| .nil), Nat.zero_le _⟩ fun y a4 w4 m4 hh4 => ?_
  have hst4 := hh4.st; have hle4 := hh4.le; have hfr4 := hh4.fr; have hrel := hh4.rel; clear hh4
  replace h_t := h_t.mono hle4
  replace hk_t := hk_t.mono hle4
  replace hs_t := hs_t.mono hle4
  replace hrw_t := hrw_t.mono hle4
  clear hst3 hfr3
  replace hM := hM.trans hle4
  have hyn := hrel
  have hlh4 := hle4
  refine seq_any fun _ hK9 => ?_
  refine rp0 hst4 hfr4 (.cons rfl (ob_lss rfl rfl) <| .nil) ?_
  intro a5 w5 m5 hst5 hle5 hk5
  have hfr5 := hk5.fr (T' := [(11, _), (1, _), (2, _), (10, _), (12, _)]) (.old rfl rfl <| .old rfl rfl <| .old rfl rfl <| .old rfl rfl <| .new rfl <| .nil)
  replace h_t := h_t.mono hle5
  replace hk_t := hk_t.mono hle5
  replace hs_t := hs_t.mono hle5
  replace hrw_t := hrw_t.mono hle5
  have hlh5 := hlh4.trans hle5
  replace hM := hM.trans hle5
  clear hst4 hfr4 hk5
  refine hK9 _ _ ?_; clear hK9
  refine seq_any fun _ hK10 => ?_
  refine cond_any hfr5 rfl rfl (fun hb12 => ?_) (fun hb12 => ?_)
  · try simp only [nq1, nq2, nq3, nq4, nq5, nq6, nq7, nq8, nq9, u8_eq] at hb12
    refine wp_skip ?_
    refine hK10 _ _ ?_; clear hK10
    refine seq_any fun _ hK11 => ?_
    refine wp_block ?_
    refine seq_any fun _ hK12 => ?_
    refine rp0 hst5 hfr5 (.cons rfl (ob_move rfl) <| .cons rfl (ob_assign rfl) <| .nil) ?_
    intro a6 w6 m6 hst6 hle6 hk6
    have hfr6 := hk6.fr (T' := [(11, _), (1, _), (2, _), (10, _), (3, _)]) (.old rfl rfl <| .old rfl rfl <| .old rfl rfl <| .old rfl rfl <| .new rfl <| .nil)
    have hlh6 := hlh5.trans hle6
    clear hst5 hfr5 hk6
    refine hK12 _ _ ?_; clear hK12
    obtain ⟨x9, hx9, hd9⟩ : ∃ x, t.args[y]? = some x ∧ t.args.drop y = x :: t.args.drop (y + 1) := ⟨t.args[y]'(by omega), List.getElem?_eq_getElem (by omega), List.drop_eq_getElem_cons (by omega)⟩
    have hm9 : x9 ∈ t.args := List.mem_of_getElem? hx9
    have hbx9 := hbk x9 hm9
    obtain ⟨gK, hgK⟩ := MP.made_some (hst6.loc.at_ (k := 2) rfl) (by omega)
    subst hgK
    refine region_any (tch := [(10, 2, (fun _ => .mrowx _ _ _ _ _))]) (fun _ => mixed) hst6 hfr6 (by kernel_rfl) (by kernel_rfl) (by kernel_rfl) (.cons rfl (ob_fieldAddrO (off := 3) rfl Try.underlying28 rfl rfl Try.sizeOf23 rfl) <| .cons rfl (ob_loadL (j := 0) rfl rfl Try.isAgg23 rfl) <| .cons rfl (ob_move rfl) <| .cons rfl (ob_fieldAddrO (off := 3) rfl Try.underlying28 rfl rfl Try.sizeOf23 rfl) <| .cons rfl (ob_loadL (j := 0) rfl rfl Try.isAgg23 rfl) <| .cons rfl (ob_move rfl) <| .cons rfl (ob_indexAddr (k := y) rfl rfl Try.underlying23 Try.sizeOf28 rfl (by omega)) <| .cons rfl (ob_loadMX (R := (fun m vs t => TyR m t vs)) (i := y) (j := 2) (l := t.args) rfl rfl Try.isAgg28 Try.sizeOf28 hx9 (by decide)) <| .cons rfl (ob_imgE 21 rfl rfl rfl fun y21 => ob_call (φ := MP.ty x9) rfl (.cons rfl <| .nil) Try.call28 (fun w m hK => by have hle_ := KC.le hK; have hA := KC.agree hK; have hr0_ := hK.2; exact FnG.mono (ih _ hm9 hA hr0_ (by omega)) fun _ _ _ _ h => h)) <| .cons rfl (ob_indexAddr (k := y) rfl rfl Try.underlying23 Try.sizeOf28 rfl (by omega)) <| .consT rfl rfl (fun _ => rfl) rfl (ob_imgT 22 rfl rfl rfl fun y22 => ob_storeMX (R := (fun m vs t => TyR m t vs)) (i := y) (off := 0) (l := t.args) (b := x9) (ws := tyV x9 y22) rfl rfl rfl Try.sizeOf28 hx9 (by decide) (by show 0 + 6 ≤ 6; omega) (fun w m hK vs hv _ => by rw [splice_whole hv]; exact hK.2) (fun w m hK => hK.2.one)) <| .nil) ?_
    intro a7 w7 m7 hst7 hle7 hk7
    have hfr7 := hk7.fr (T' := [(11, _), (1, _), (2, _), (10, _)]) (.old rfl rfl <| .old rfl rfl <| .old rfl rfl <| .old rfl rfl <| .nil)
    replace hst7 := hst7.fin (L' := [_, _, _]) (.cons rfl <| .nil)
    try simp only [List.take_succ_cons, List.take_zero, List.drop_succ_cons, List.drop_zero, List.cons_append, List.nil_append, List.append_nil, List.length_cons, List.length_nil, Nat.zero_add, Nat.reduceAdd] at hst7
    have hlh7 := hlh6.trans hle7
    clear hst6 hfr6 hk7
    rw [set_same hx9] at hst7
    refine hK11 _ _ ?_; clear hK11
    refine rp0 hst7 hfr7 (.cons rfl (ob_add rfl rfl ⟨by omega, by omega⟩) <| .cons rfl (ob_move rfl) <| .nil) ?_
    intro a8 w8 m8 hst8 hle8 hk8
    have hfr8 := hk8.fr (T' := [(1, _), (2, _), (10, _), (11, _)]) (.old rfl rfl <| .old rfl rfl <| .old rfl rfl <| .new rfl <| .nil)
    have hlh8 := hlh7.trans hle8
    clear hst7 hfr7 hk8
    exact ⟨y + 1, m8, by show t.args.length - (y + 1) < t.args.length - y; omega, ⟨hst8, hlh8, hfr8.sub (.cons rfl <| .cons rfl <| .cons rfl <| .cons rfl <| .nil), by show y + 1 ≤ t.args.length; omega⟩⟩
  · try simp only [nq1, nq2, nq3, nq4, nq5, nq6, nq7, nq8, nq9, u8_eq] at hb12
    have hge : y = t.args.length := by omega
    refine wp_exit ?_
    refine hK6 _ _ ?_; clear hK6
    refine seq_any fun _ hK13 => ?_
    replace hst5 := hst5.more (r := .free) trivial List.nodup_nil (by simp [Res.blocks])
    refine ra0 (tch := [(3, 3, (fun v => .row (nz v) _ _ _ _)), (6, 0, (fun u => .blk _ (.cells (_ ++ [u] ++ _).toArray _)))]) hst5 hfr5 (.cons rfl (ob_fieldAddrO (off := 4) rfl Try.underlying28 rfl rfl Try.sizeOf26 rfl) <| .cons rfl (ob_fieldAddrO (off := 0) rfl Try.underlying26 rfl rfl Try.sizeOf24 rfl) <| .cons rfl (ob_loadL (k := 4) (j := 0) rfl rfl Try.isAgg24 rfl) <| .consT rfl rfl (fun _ => rfl) rfl (ob_callT rfl (.cons rfl <| .nil) Try.call29 (κ := .ex (MP.sl (t.labels).length ((t.labels).map S))) (fun σ w m hK hr hkn => by have hle_ := KC.le hK; have hA := KC.agree hK; have hM := hM.trans hle_; have h_t := h_t.mono hle_; have hk_t := hk_t.mono hle_; have hs_t := hs_t.mono hle_; have hrw_t := hrw_t.mono hle_; exact cloneR_t hA hs_t (by omega))) <| .cons rfl (ob_fieldAddrO (off := 4) rfl Try.underlying28 rfl rfl Try.sizeOf26 rfl) <| .cons rfl (ob_fieldAddrO (off := 0) rfl Try.underlying26 rfl rfl Try.sizeOf24 rfl) <| .consT rfl rfl (fun _ => rfl) rfl (ob_imgT 28 rfl rfl rfl fun y28 => ob_storeV (k := 4) rfl rfl rfl rfl rfl Try.sizeOf24 rfl rfl rfl) <| .nil) ?_
    intro a6 w6 m6 hst6 hle6 hk6
    have hfr6 := hk6.fr (T' := [(11, _), (1, _), (2, _)]) (.old rfl rfl <| .old rfl rfl <| .old rfl rfl <| .nil)
    obtain ⟨⟨oz14, cz14⟩, e15, hrz14, hcz14⟩ := hk6.ex 28 rfl
    replace hst6 := hst6.fin (L' := [_, _, _, _]) (.cons e15 <| .cons e15 <| .nil)
    try simp only [List.take_succ_cons, List.take_zero, List.drop_succ_cons, List.drop_zero, List.cons_append, List.nil_append, List.append_nil, List.length_cons, List.length_nil, Nat.zero_add, Nat.reduceAdd] at hst6
    have hlh6 := hlh5.trans hle6
    clear hst5 hfr5 hk6
    have hsz14 : Strs m6 oz14 (t.labels).length cz14 t.labels := Reads.sl (strs_reads t.labels) hrz14 (by decide) rfl hcz14 (by omega)
    refine hK13 _ _ ?_; clear hK13
    refine seq_any fun _ hK16 => ?_
    obtain ⟨m7, hle7, hst7, oX_K, cX_K, eX_K, hsl_K⟩ := hst6.freezeX (k := 2) rfl (rfl) (by decide) (by omega)
    simp only [List.set_cons_succ, List.set_cons_zero] at hst7
    injection eX_K with eX1_K _ eX2_K; subst eX1_K; subst eX2_K
    have hfr7 := hfr6; obtain ⟨a7, rfl⟩ : ∃ a, a = a6 := ⟨_, rfl⟩; obtain ⟨w7, rfl⟩ : ∃ w, w = w6 := ⟨_, rfl⟩
    replace hsz14 := hsz14.mono hle7
    have hlh7 := hlh6.trans hle7
    clear hst6 hfr6
    replace hsl_K : Tys m7 oK t.args.length cK t.args := hsl_K
    have hout : TyR m7 t (tyV t ((oK, cK), (oz14, cz14))) := by have h9 := TyR.build (k := t.kind) (s := t.name) (v := t.var) (r := t.rv) hsl_K hsz14 hi_t hj_t hr_t; rw [← Ty.eta] at h9; exact h9
    refine ra0 (tch := [(1, 1, (fun _ => .blk _ _))]) hst7 hfr7 (.cons rfl (ob_loadLA (j := 0) rfl rfl Try.isAgg28 Try.sizeOf28 rfl) <| .consT rfl rfl (fun _ => rfl) rfl (ob_store' rfl rfl rfl Try.sizeOf28 rfl rfl hout.one) <| .nil) ?_
    intro a8 w8 m8 hst8 hle8 hk8
    have hfr8 := hk8.fr (T' := [(11, _), (2, _)]) (.old rfl rfl <| .old rfl rfl <| .nil)
    replace hst8 := hst8.fin (L' := [_, _, _, _]) (.cons rfl <| .nil)
    try simp only [List.take_succ_cons, List.take_zero, List.drop_succ_cons, List.drop_zero, List.cons_append, List.nil_append, List.append_nil, List.length_cons, List.length_nil, Nat.zero_add, Nat.reduceAdd] at hst8
    replace hout := hout.mono hle8
    have hlh8 := hlh7.trans hle8
    clear hst7 hfr7 hk8
    refine hK16 _ _ ?_; clear hK16
    refine wp_ret ?_
    repeat (with_reducible first | refine then_ret ?_ | refine block_ret ?_)
    exact fn_ret hst8 hfr8 rfl (.cell rfl (load_blk (blk_heap (hst8.loc.at_ (k := 1) rfl)) Try.isAgg28 Try.sizeOf28) <| .nil) (⟨((oK, cK), (oz14, cz14)), rfl, hout⟩)
theorem copied_c (t : Ty) : copied_G t := Ty.rec_ (p := copied_G) (fun t ih => copied_s ih) t

set_option maxHeartbeats 800000 in
theorem setT_c {w : World} {m : Mem} {o : Option Nat} {l : List (Int × Ty)} {n : Int} {x : Ty} {vs_x : List Value} (hA : Agree w m) (h_l : MapO KI RTy m o l) (h_x : TyR m x vs_x) : FnV Try.prog 27 #[.map o, .int .i64 n, .agg vs_x.toArray] w m (fun _ m v => (MP.mapo RTy (aset n x l)).p m v) := by
  obtain ⟨o_x, c_x, oL_x, cL_x, rfl, hk_x, hs_x, hi_x, hj_x, hr_x⟩ := h_x.open_
  have hbg_x := hk_x.big; have hcp_x := hk_x.cap; have hbs_x := hs_x.big; have hcs_x := hs_x.cap
  have hrw_x : RwR _ ⟨x.labels, x.rv⟩ _ := ⟨_, _, rfl, hs_x, hr_x⟩
  refine fn_enter (vs := [_, _, _]) Try.func27 rfl rfl rfl fun a0 hfr0 => ?_
  have hst0 := st_enter hA (loc_nil [] _ w m)
  have hM : MLe m m := MLe.refl m
  refine seq_any fun _ hK1 => ?_
  refine rp0 hst0 hfr0 (.cons rfl (ob_box rfl rfl) <| .cons rfl (ob_assign rfl) <| .nil) ?_
  intro a1 w1 m1 hst1 hle1 hk1
  have hfr1 := hk1.fr (T' := [(0, _), (1, _)]) (.old rfl rfl <| .old rfl rfl <| .nil)
  obtain ⟨g2, e2, hc5⟩ := hk1.ex 5 rfl
  replace hfr1 := hfr1.cons e2
  replace h_l := h_l.mono hle1
  replace h_x := h_x.mono hle1
  replace hk_x := hk_x.mono hle1
  replace hs_x := hs_x.mono hle1
  replace hrw_x := hrw_x.mono hle1
  replace hM := hM.trans hle1
  clear hst0 hfr0 hk1
  refine hK1 _ _ ?_; clear hK1
  refine seq_any fun _ hK3 => ?_
  rcases o with _ | g
  · skip
    have hl0 := h_l.none_nil
    subst hl0
    refine rp0 hst1 hfr1 (.cons rfl (ob_move rfl) <| .cons rfl (ob_callE rfl (.cons rfl <| .nil) Try.call39 (fun w m hK => by have hle_ := KC.le hK; have hA := KC.agree hK; exact mcloneT_nil hA)) <| .cons rfl (ob_assign rfl) <| .nil) ?_
    intro a2 w2 m2 hst2 hle2 hk2
    have hfr2 := hk2.fr (T' := [(1, _), (5, _), (7, _)]) (.old rfl rfl <| .old rfl rfl <| .new rfl <| .nil)
    replace h_x := h_x.mono hle2
    replace hc5 := hc5.mono hle2
    clear hst1 hfr1 hk2
    refine hK3 _ _ ?_; clear hK3
    refine seq_any fun _ hK4 => ?_
    refine seq_any fun _ hK5 => ?_
    refine rp0 hst2 hfr2 (.cons rfl (ob_move rfl) <| .cons rfl (ob_mapnil rfl Try.underlying32) <| .nil) ?_
    intro a3 w3 m3 hst3 hle3 hk3
    have hfr3 := hk3.fr (T' := [(1, _), (5, _), (7, _), (11, _)]) (.old rfl rfl <| .old rfl rfl <| .old rfl rfl <| .new rfl <| .nil)
    replace h_x := h_x.mono hle3
    replace hc5 := hc5.mono hle3
    clear hst2 hfr2 hk3
    refine hK5 _ _ ?_; clear hK5
    refine cond_any hfr3 rfl rfl (fun hb11 => ?_) (fun hb11 => ?_)
    · try simp only [nq1, nq2, nq3, nq4, nq5, nq6, nq7, nq8, nq9, u8_eq] at hb11
      replace hst3 := hst3.more (r := .free) trivial List.nodup_nil (by simp [Res.blocks])
      refine ra0 (tch := [(0, 0, (fun v => .map v _))]) hst3 hfr3 (.consT rfl rfl (fun _ => rfl) rfl (ob_makeMapK (fun n : Int => Value.int .i64 n)) <| .consA 12 rfl rfl <| .nil) ?_
      intro a4 w4 m4 hst4 hle4 hk4
      have hfr4 := hk4.fr (T' := [(1, _), (5, _)]) (.old rfl rfl <| .old rfl rfl <| .nil)
      obtain ⟨gm, e6, _⟩ := hk4.ex 12 rfl
      replace hfr4 := hfr4.cons (hk4.same 7 rfl e6)
      replace hst4 := hst4.fin (L' := [_]) (.cons e6 <| .nil)
      replace h_x := h_x.mono hle4
      replace hc5 := hc5.mono hle4
      clear hst3 hfr3 hk4
      refine hK4 _ _ ?_; clear hK4
      refine seq_any fun _ hK7 => ?_
      refine ra0 (tch := [(3, 0, (fun _ => .map _ _))]) hst4 hfr4 (.cons rfl (ob_move rfl) <| .cons rfl (ob_move rfl) <| .cons rfl (ob_loadS' rfl hc5 Try.isAgg28 Try.sizeOf28 rfl rfl) <| .consT rfl rfl (fun _ => rfl) rfl (ob_mapUpdate keys_I rfl rfl rfl Try.underlying32 Try.underlying3) <| .nil) ?_
      intro a5 w5 m5 hst5 hle5 hk5
      have hfr5 := hk5.fr (T' := [(7, _)]) (.old rfl rfl <| .nil)
      replace hst5 := hst5.fin (L' := [_]) (.cons rfl <| .nil)
      replace h_x := h_x.mono hle5
      clear hst4 hfr4 hk5
      obtain ⟨m6, hle6, hst6, gF_M, eF_M, hm_M⟩ := hst5.freezeMap (k := 0) rfl
      simp only [List.set_cons_succ, List.set_cons_zero] at hst6
      injection eF_M with eF_M; injection eF_M with eF_M; subst eF_M
      have hfr6 := hfr5; obtain ⟨a6, rfl⟩ : ∃ a, a = a5 := ⟨_, rfl⟩; obtain ⟨w6, rfl⟩ : ∃ w, w = w5 := ⟨_, rfl⟩
      replace h_x := h_x.mono hle6
      clear hst5 hfr5
      refine hK7 _ _ ?_; clear hK7
      refine seq_any fun _ hK8 => ?_
      refine rp0 hst6 hfr6 (.cons rfl (ob_move rfl) <| .cons rfl (ob_assign rfl) <| .nil) ?_
      intro a7 w7 m7 hst7 hle7 hk7
      have hfr7 := hk7.fr (T' := [(6, _)]) (.new rfl <| .nil)
      replace h_x := h_x.mono hle7
      replace hm_M := hm_M.mono hle7
      clear hst6 hfr6 hk7
      refine hK8 _ _ ?_; clear hK8
      refine wp_ret ?_
      repeat (with_reducible first | refine then_ret ?_ | refine block_ret ?_)
      exact fn_ret hst7 hfr7 rfl (.tmp rfl <| .nil) (⟨gm, rfl, MapO.of_at hm_M (EntsR.nil.set n h_x)⟩)
    · exact absurd hb11 (by simp)
  · skip
    obtain ⟨es, hes0, hes⟩ := h_l.at_
    replace hst1 := hst1.more (r := .free) trivial List.nodup_nil (by simp [Res.blocks])
    refine ra0 (tch := [(1, 0, (fun v => .map v (encs KI es)))]) hst1 hfr1 (.cons rfl (ob_move rfl) <| .consT rfl rfl (fun _ => rfl) rfl (ob_callT rfl (.cons rfl <| .nil) Try.call39 (κ := .ex (MP.mapv)) (fun σ w m hK hr hkn => by have hle_ := KC.le hK; have hA := KC.agree hK; have hM := hM.trans hle_; have h_x := h_x.mono hle_; have hk_x := hk_x.mono hle_; have hs_x := hs_x.mono hle_; have hrw_x := hrw_x.mono hle_; have hc5 := hc5.mono hle_; have hes0 := hes0.mono hle_; have hes := hes.mono hle_; exact mcloneT_t hA hes0)) <| .consA 9 rfl rfl <| .nil) ?_
    intro a2 w2 m2 hst2 hle2 hk2
    have hfr2 := hk2.fr (T' := [(1, _), (5, _)]) (.old rfl rfl <| .old rfl rfl <| .nil)
    obtain ⟨gm, e10, _⟩ := hk2.ex 9 rfl
    replace hfr2 := hfr2.cons (hk2.same 7 rfl e10)
    replace hst2 := hst2.fin (L' := [_]) (.cons e10 <| .nil)
    replace h_x := h_x.mono hle2
    replace hc5 := hc5.mono hle2
    replace hes := hes.mono hle2
    clear hst1 hfr1 hk2
    refine hK3 _ _ ?_; clear hK3
    refine seq_any fun _ hK11 => ?_
    refine seq_any fun _ hK12 => ?_
    refine rp0 hst2 hfr2 (.cons rfl (ob_move rfl) <| .cons rfl (ob_mapnil rfl Try.underlying32) <| .nil) ?_
    intro a3 w3 m3 hst3 hle3 hk3
    have hfr3 := hk3.fr (T' := [(1, _), (5, _), (7, _), (11, _)]) (.old rfl rfl <| .old rfl rfl <| .old rfl rfl <| .new rfl <| .nil)
    replace h_x := h_x.mono hle3
    replace hc5 := hc5.mono hle3
    replace hes := hes.mono hle3
    clear hst2 hfr2 hk3
    refine hK12 _ _ ?_; clear hK12
    refine cond_any hfr3 rfl rfl (fun hb11 => ?_) (fun hb11 => ?_)
    · exact absurd hb11 (by simp)
    · try simp only [nq1, nq2, nq3, nq4, nq5, nq6, nq7, nq8, nq9, u8_eq] at hb11
      refine wp_skip ?_
      refine hK11 _ _ ?_; clear hK11
      refine seq_any fun _ hK13 => ?_
      refine ra0 (tch := [(3, 0, (fun _ => .map _ _))]) hst3 hfr3 (.cons rfl (ob_move rfl) <| .cons rfl (ob_move rfl) <| .cons rfl (ob_loadS' rfl hc5 Try.isAgg28 Try.sizeOf28 rfl rfl) <| .consT rfl rfl (fun _ => rfl) rfl (ob_mapUpdate keys_I rfl rfl rfl Try.underlying32 Try.underlying3) <| .nil) ?_
      intro a4 w4 m4 hst4 hle4 hk4
      have hfr4 := hk4.fr (T' := [(7, _)]) (.old rfl rfl <| .nil)
      replace hst4 := hst4.fin (L' := [_]) (.cons rfl <| .nil)
      replace h_x := h_x.mono hle4
      replace hes := hes.mono hle4
      clear hst3 hfr3 hk4
      obtain ⟨m5, hle5, hst5, gF_M, eF_M, hm_M⟩ := hst4.freezeMap (k := 0) rfl
      simp only [List.set_cons_succ, List.set_cons_zero] at hst5
      injection eF_M with eF_M; injection eF_M with eF_M; subst eF_M
      have hfr5 := hfr4; obtain ⟨a5, rfl⟩ : ∃ a, a = a4 := ⟨_, rfl⟩; obtain ⟨w5, rfl⟩ : ∃ w, w = w4 := ⟨_, rfl⟩
      replace h_x := h_x.mono hle5
      replace hes := hes.mono hle5
      clear hst4 hfr4
      refine hK13 _ _ ?_; clear hK13
      refine seq_any fun _ hK14 => ?_
      refine rp0 hst5 hfr5 (.cons rfl (ob_move rfl) <| .cons rfl (ob_assign rfl) <| .nil) ?_
      intro a6 w6 m6 hst6 hle6 hk6
      have hfr6 := hk6.fr (T' := [(6, _)]) (.new rfl <| .nil)
      replace h_x := h_x.mono hle6
      replace hes := hes.mono hle6
      replace hm_M := hm_M.mono hle6
      clear hst5 hfr5 hk6
      refine hK14 _ _ ?_; clear hK14
      refine wp_ret ?_
      repeat (with_reducible first | refine then_ret ?_ | refine block_ret ?_)
      exact fn_ret hst6 hfr6 rfl (.tmp rfl <| .nil) (⟨gm, rfl, MapO.of_at hm_M (hes.set n h_x)⟩)

set_option maxHeartbeats 800000 in
theorem setR_c {w : World} {m : Mem} {o : Option Nat} {l : List (Int × Rw)} {n : Int} {x : Rw} {vs_x : List Value} (hA : Agree w m) (h_l : MapO KI RRw m o l) (h_x : RwR m x vs_x) : FnV Try.prog 30 #[.map o, .int .i64 n, .agg vs_x.toArray] w m (fun _ m v => (MP.mapo RRw (aset n x l)).p m v) := by
  obtain ⟨o_x, c_x, rfl, hs_x, hr_x⟩ := h_x.open_
  have hbs_x := hs_x.big; have hcs_x := hs_x.cap
  refine fn_enter (vs := [_, _, _]) Try.func30 rfl rfl rfl fun a0 hfr0 => ?_
  have hst0 := st_enter hA (loc_nil [] _ w m)
  have hM : MLe m m := MLe.refl m
  refine seq_any fun _ hK1 => ?_
  refine rp0 hst0 hfr0 (.cons rfl (ob_box rfl rfl) <| .cons rfl (ob_assign rfl) <| .nil) ?_
  intro a1 w1 m1 hst1 hle1 hk1
  have hfr1 := hk1.fr (T' := [(0, _), (1, _)]) (.old rfl rfl <| .old rfl rfl <| .nil)
  obtain ⟨g2, e2, hc5⟩ := hk1.ex 5 rfl
  replace hfr1 := hfr1.cons e2
  replace h_l := h_l.mono hle1
  replace h_x := h_x.mono hle1
  replace hs_x := hs_x.mono hle1
  replace hM := hM.trans hle1
  clear hst0 hfr0 hk1
  refine hK1 _ _ ?_; clear hK1
  refine seq_any fun _ hK3 => ?_
  rcases o with _ | g
  · skip
    have hl0 := h_l.none_nil
    subst hl0
    refine rp0 hst1 hfr1 (.cons rfl (ob_move rfl) <| .cons rfl (ob_callE rfl (.cons rfl <| .nil) Try.call41 (fun w m hK => by have hle_ := KC.le hK; have hA := KC.agree hK; exact mcloneR_nil hA)) <| .cons rfl (ob_assign rfl) <| .nil) ?_
    intro a2 w2 m2 hst2 hle2 hk2
    have hfr2 := hk2.fr (T' := [(1, _), (5, _), (7, _)]) (.old rfl rfl <| .old rfl rfl <| .new rfl <| .nil)
    replace h_x := h_x.mono hle2
    replace hc5 := hc5.mono hle2
    clear hst1 hfr1 hk2
    refine hK3 _ _ ?_; clear hK3
    refine seq_any fun _ hK4 => ?_
    refine seq_any fun _ hK5 => ?_
    refine rp0 hst2 hfr2 (.cons rfl (ob_move rfl) <| .cons rfl (ob_mapnil rfl Try.underlying34) <| .nil) ?_
    intro a3 w3 m3 hst3 hle3 hk3
    have hfr3 := hk3.fr (T' := [(1, _), (5, _), (7, _), (11, _)]) (.old rfl rfl <| .old rfl rfl <| .old rfl rfl <| .new rfl <| .nil)
    replace h_x := h_x.mono hle3
    replace hc5 := hc5.mono hle3
    clear hst2 hfr2 hk3
    refine hK5 _ _ ?_; clear hK5
    refine cond_any hfr3 rfl rfl (fun hb11 => ?_) (fun hb11 => ?_)
    · try simp only [nq1, nq2, nq3, nq4, nq5, nq6, nq7, nq8, nq9, u8_eq] at hb11
      replace hst3 := hst3.more (r := .free) trivial List.nodup_nil (by simp [Res.blocks])
      refine ra0 (tch := [(0, 0, (fun v => .map v _))]) hst3 hfr3 (.consT rfl rfl (fun _ => rfl) rfl (ob_makeMapK (fun n : Int => Value.int .i64 n)) <| .consA 12 rfl rfl <| .nil) ?_
      intro a4 w4 m4 hst4 hle4 hk4
      have hfr4 := hk4.fr (T' := [(1, _), (5, _)]) (.old rfl rfl <| .old rfl rfl <| .nil)
      obtain ⟨gm, e6, _⟩ := hk4.ex 12 rfl
      replace hfr4 := hfr4.cons (hk4.same 7 rfl e6)
      replace hst4 := hst4.fin (L' := [_]) (.cons e6 <| .nil)
      replace h_x := h_x.mono hle4
      replace hc5 := hc5.mono hle4
      clear hst3 hfr3 hk4
      refine hK4 _ _ ?_; clear hK4
      refine seq_any fun _ hK7 => ?_
      refine ra0 (tch := [(3, 0, (fun _ => .map _ _))]) hst4 hfr4 (.cons rfl (ob_move rfl) <| .cons rfl (ob_move rfl) <| .cons rfl (ob_loadS' rfl hc5 Try.isAgg26 Try.sizeOf26 rfl rfl) <| .consT rfl rfl (fun _ => rfl) rfl (ob_mapUpdate keys_I rfl rfl rfl Try.underlying34 Try.underlying3) <| .nil) ?_
      intro a5 w5 m5 hst5 hle5 hk5
      have hfr5 := hk5.fr (T' := [(7, _)]) (.old rfl rfl <| .nil)
      replace hst5 := hst5.fin (L' := [_]) (.cons rfl <| .nil)
      replace h_x := h_x.mono hle5
      clear hst4 hfr4 hk5
      obtain ⟨m6, hle6, hst6, gF_M, eF_M, hm_M⟩ := hst5.freezeMap (k := 0) rfl
      simp only [List.set_cons_succ, List.set_cons_zero] at hst6
      injection eF_M with eF_M; injection eF_M with eF_M; subst eF_M
      have hfr6 := hfr5; obtain ⟨a6, rfl⟩ : ∃ a, a = a5 := ⟨_, rfl⟩; obtain ⟨w6, rfl⟩ : ∃ w, w = w5 := ⟨_, rfl⟩
      replace h_x := h_x.mono hle6
      clear hst5 hfr5
      refine hK7 _ _ ?_; clear hK7
      refine seq_any fun _ hK8 => ?_
      refine rp0 hst6 hfr6 (.cons rfl (ob_move rfl) <| .cons rfl (ob_assign rfl) <| .nil) ?_
      intro a7 w7 m7 hst7 hle7 hk7
      have hfr7 := hk7.fr (T' := [(6, _)]) (.new rfl <| .nil)
      replace h_x := h_x.mono hle7
      replace hm_M := hm_M.mono hle7
      clear hst6 hfr6 hk7
      refine hK8 _ _ ?_; clear hK8
      refine wp_ret ?_
      repeat (with_reducible first | refine then_ret ?_ | refine block_ret ?_)
      exact fn_ret hst7 hfr7 rfl (.tmp rfl <| .nil) (⟨gm, rfl, MapO.of_at hm_M (EntsR.nil.set n h_x)⟩)
    · exact absurd hb11 (by simp)
  · skip
    obtain ⟨es, hes0, hes⟩ := h_l.at_
    replace hst1 := hst1.more (r := .free) trivial List.nodup_nil (by simp [Res.blocks])
    refine ra0 (tch := [(1, 0, (fun v => .map v (encs KI es)))]) hst1 hfr1 (.cons rfl (ob_move rfl) <| .consT rfl rfl (fun _ => rfl) rfl (ob_callT rfl (.cons rfl <| .nil) Try.call41 (κ := .ex (MP.mapv)) (fun σ w m hK hr hkn => by have hle_ := KC.le hK; have hA := KC.agree hK; have hM := hM.trans hle_; have h_x := h_x.mono hle_; have hs_x := hs_x.mono hle_; have hc5 := hc5.mono hle_; have hes0 := hes0.mono hle_; have hes := hes.mono hle_; exact mcloneR_t hA hes0)) <| .consA 9 rfl rfl <| .nil) ?_
    intro a2 w2 m2 hst2 hle2 hk2
    have hfr2 := hk2.fr (T' := [(1, _), (5, _)]) (.old rfl rfl <| .old rfl rfl <| .nil)
    obtain ⟨gm, e10, _⟩ := hk2.ex 9 rfl
    replace hfr2 := hfr2.cons (hk2.same 7 rfl e10)
    replace hst2 := hst2.fin (L' := [_]) (.cons e10 <| .nil)
    replace h_x := h_x.mono hle2
    replace hc5 := hc5.mono hle2
    replace hes := hes.mono hle2
    clear hst1 hfr1 hk2
    refine hK3 _ _ ?_; clear hK3
    refine seq_any fun _ hK11 => ?_
    refine seq_any fun _ hK12 => ?_
    refine rp0 hst2 hfr2 (.cons rfl (ob_move rfl) <| .cons rfl (ob_mapnil rfl Try.underlying34) <| .nil) ?_
    intro a3 w3 m3 hst3 hle3 hk3
    have hfr3 := hk3.fr (T' := [(1, _), (5, _), (7, _), (11, _)]) (.old rfl rfl <| .old rfl rfl <| .old rfl rfl <| .new rfl <| .nil)
    replace h_x := h_x.mono hle3
    replace hc5 := hc5.mono hle3
    replace hes := hes.mono hle3
    clear hst2 hfr2 hk3
    refine hK12 _ _ ?_; clear hK12
    refine cond_any hfr3 rfl rfl (fun hb11 => ?_) (fun hb11 => ?_)
    · exact absurd hb11 (by simp)
    · try simp only [nq1, nq2, nq3, nq4, nq5, nq6, nq7, nq8, nq9, u8_eq] at hb11
      refine wp_skip ?_
      refine hK11 _ _ ?_; clear hK11
      refine seq_any fun _ hK13 => ?_
      refine ra0 (tch := [(3, 0, (fun _ => .map _ _))]) hst3 hfr3 (.cons rfl (ob_move rfl) <| .cons rfl (ob_move rfl) <| .cons rfl (ob_loadS' rfl hc5 Try.isAgg26 Try.sizeOf26 rfl rfl) <| .consT rfl rfl (fun _ => rfl) rfl (ob_mapUpdate keys_I rfl rfl rfl Try.underlying34 Try.underlying3) <| .nil) ?_
      intro a4 w4 m4 hst4 hle4 hk4
      have hfr4 := hk4.fr (T' := [(7, _)]) (.old rfl rfl <| .nil)
      replace hst4 := hst4.fin (L' := [_]) (.cons rfl <| .nil)
      replace h_x := h_x.mono hle4
      replace hes := hes.mono hle4
      clear hst3 hfr3 hk4
      obtain ⟨m5, hle5, hst5, gF_M, eF_M, hm_M⟩ := hst4.freezeMap (k := 0) rfl
      simp only [List.set_cons_succ, List.set_cons_zero] at hst5
      injection eF_M with eF_M; injection eF_M with eF_M; subst eF_M
      have hfr5 := hfr4; obtain ⟨a5, rfl⟩ : ∃ a, a = a4 := ⟨_, rfl⟩; obtain ⟨w5, rfl⟩ : ∃ w, w = w4 := ⟨_, rfl⟩
      replace h_x := h_x.mono hle5
      replace hes := hes.mono hle5
      clear hst4 hfr4
      refine hK13 _ _ ?_; clear hK13
      refine seq_any fun _ hK14 => ?_
      refine rp0 hst5 hfr5 (.cons rfl (ob_move rfl) <| .cons rfl (ob_assign rfl) <| .nil) ?_
      intro a6 w6 m6 hst6 hle6 hk6
      have hfr6 := hk6.fr (T' := [(6, _)]) (.new rfl <| .nil)
      replace h_x := h_x.mono hle6
      replace hes := hes.mono hle6
      replace hm_M := hm_M.mono hle6
      clear hst5 hfr5 hk6
      refine hK14 _ _ ?_; clear hK14
      refine wp_ret ?_
      repeat (with_reducible first | refine then_ret ?_ | refine block_ret ?_)
      exact fn_ret hst6 hfr6 rfl (.tmp rfl <| .nil) (⟨gm, rfl, MapO.of_at hm_M (hes.set n h_x)⟩)

set_option maxHeartbeats 400000 in
theorem none_c {w : World} {m : Mem}  (hA : Agree w m)  : FnV Try.prog 20 #[] w m (fun _ m v => (MP.sub ⟨[], []⟩).p m v) := by
  refine fn_enter (vs := []) Try.func20 rfl rfl rfl fun a0 hfr0 => ?_
  have hst0 := st_enter hA (loc_nil [] _ w m)
  have hM : MLe m m := MLe.refl m
  refine seq_any fun _ hK1 => ?_
  replace hst0 := hst0.more (r := .free) trivial List.nodup_nil (by simp [Res.blocks])
  refine ra0 (tch := [(0, 0, (fun v => .blk v _))]) hst0 hfr0 (.consT rfl rfl (fun _ => rfl) rfl (ob_allocL Try.zeroValue36 rfl) <| .nil) ?_
  intro a1 w1 m1 hst1 hle1 hk1
  have hfr1 := hk1.fr (T' := []) (.nil)
  obtain ⟨g2, e2, _⟩ := hk1.ex 0 rfl
  replace hfr1 := hfr1.cons e2
  replace hst1 := hst1.fin (L' := [_]) (.cons e2 <| .nil)
  clear hst0 hfr0 hk1
  refine hK1 _ _ ?_; clear hK1
  refine seq_any fun _ hK3 => ?_
  refine ra0 (tch := [(1, 0, (fun _ => .blk _ _))]) hst1 hfr1 (.cons rfl (ob_buildS (.nil) Try.underlying36 Try.zeroValue36 (.cons Try.sizeOf32 <| .cons Try.sizeOf34 <| .nil) rfl) <| .consT rfl rfl (fun _ => rfl) rfl (ob_store' rfl rfl rfl Try.sizeOf36 rfl rfl rfl) <| .nil) ?_
  intro a2 w2 m2 hst2 hle2 hk2
  have hfr2 := hk2.fr (T' := [(0, _)]) (.old rfl rfl <| .nil)
  replace hst2 := hst2.fin (L' := [_]) (.cons rfl <| .nil)
  try simp only [List.take_succ_cons, List.take_zero, List.drop_succ_cons, List.drop_zero, List.cons_append, List.nil_append, List.append_nil, List.length_cons, List.length_nil, Nat.zero_add, Nat.reduceAdd] at hst2
  clear hst1 hfr1 hk2
  refine hK3 _ _ ?_; clear hK3
  refine wp_ret ?_
  repeat (with_reducible first | refine then_ret ?_ | refine block_ret ?_)
  exact fn_ret hst2 hfr2 rfl (.cell rfl (load_blk (blk_heap (hst2.loc.at_ (k := 0) rfl)) Try.isAgg36 Try.sizeOf36) <| .nil) (⟨(none, none), rfl, _, _, rfl, MapO.nil, MapO.nil⟩)

set_option maxHeartbeats 400000 in
theorem setType_c {w : World} {m : Mem} {s : Sub} {vs_s : List Value} {n : Int} {t : Ty} {vs_t : List Value} (hA : Agree w m) (h_s : SubR m s vs_s) (h_t : TyR m t vs_t) (hb : wdT t ≤ 17592186044416) : FnV Try.prog 10 #[.agg vs_s.toArray, .int .i64 n, .agg vs_t.toArray] w m (fun _ m v => (MP.sub ⟨aset n t s.ts, s.rs⟩).p m v) := by
  obtain ⟨oT_s, oR_s, rfl, hst_s, hsr_s⟩ := id h_s
  obtain ⟨o_t, c_t, oL_t, cL_t, rfl, hk_t, hs_t, hi_t, hj_t, hr_t⟩ := h_t.open_
  have hbg_t := hk_t.big; have hcp_t := hk_t.cap; have hbs_t := hs_t.big; have hcs_t := hs_t.cap
  have hrw_t : RwR _ ⟨t.labels, t.rv⟩ _ := ⟨_, _, rfl, hs_t, hr_t⟩
  refine fn_enter (vs := [_, _, _]) Try.func10 rfl rfl rfl fun a0 hfr0 => ?_
  have hst0 := st_enter hA (loc_nil [] _ w m)
  have hM : MLe m m := MLe.refl m
  refine seq_any fun _ hK1 => ?_
  replace hst0 := hst0.more (r := .free) trivial List.nodup_nil (by simp [Res.blocks])
  replace hst0 := hst0.more (r := .free) trivial List.nodup_nil (by simp [Res.blocks])
  refine ra0 (tch := [(0, 0, (fun v => .blk v _)), (2, 1, (fun v => .blk v _))]) hst0 hfr0 (.consT rfl rfl (fun _ => rfl) rfl (ob_boxL rfl rfl) <| .cons rfl (ob_box rfl rfl) <| .consT rfl rfl (fun _ => rfl) rfl (ob_allocL Try.zeroValue36 rfl) <| .nil) ?_
  intro a1 w1 m1 hst1 hle1 hk1
  have hfr1 := hk1.fr (T' := [(1, _)]) (.old rfl rfl <| .nil)
  obtain ⟨g2, e2, _⟩ := hk1.ex 3 rfl
  replace hfr1 := hfr1.cons e2
  obtain ⟨g3, e3, hc5⟩ := hk1.ex 5 rfl
  replace hfr1 := hfr1.cons e3
  obtain ⟨g4, e4, _⟩ := hk1.ex 6 rfl
  replace hfr1 := hfr1.cons e4
  replace hst1 := hst1.fin (L' := [_, _]) (.cons e2 <| .cons e4 <| .nil)
  replace hst_s := hst_s.mono hle1
  replace hsr_s := hsr_s.mono hle1
  replace h_t := h_t.mono hle1
  clear hst0 hfr0 hk1
  refine hK1 _ _ ?_; clear hK1
  refine seq_any fun _ hK5 => ?_
  refine region_any (tch := [(7, 0, (fun u => .blk _ (.cells (_ ++ [u] ++ _).toArray _)))]) (fun _ => mixed) hst1 hfr1 (by kernel_rfl) (by kernel_rfl) (by kernel_rfl) (.cons rfl (ob_fieldAddrO (off := 0) rfl Try.underlying36 rfl rfl Try.sizeOf32 rfl) <| .cons rfl (ob_loadL (j := 0) rfl rfl Try.isAgg32 rfl) <| .cons rfl (ob_move rfl) <| .cons rfl (ob_loadS' rfl hc5 Try.isAgg28 Try.sizeOf28 rfl rfl) <| .cons rfl (ob_call (φ := MP.ty (t)) rfl (.cons rfl <| .nil) Try.call28 (fun w m hK => by have hle_ := KC.le hK; have hA := KC.agree hK; have h_t := h_t.mono hle_; exact FnG.mono (copied_c (t) hA h_t hb) fun _ _ _ _ h => h)) <| .cons rfl (ob_imgE 11 rfl rfl rfl fun y11 => ob_call (φ := MP.mapo RTy (aset n t s.ts)) rfl (.cons rfl <| .cons rfl <| .cons rfl <| .nil) Try.call27 (fun w m hK => by have hle_ := KC.le hK; have hA := KC.agree hK; have hr0_ := hK.2; have hst_s := hst_s.mono hle_; exact FnG.mono (setT_c (n := n) hA hst_s hr0_) fun _ _ _ _ h => h)) <| .cons rfl (ob_fieldAddrO (off := 0) rfl Try.underlying36 rfl rfl Try.sizeOf32 rfl) <| .consT rfl rfl (fun _ => rfl) rfl (ob_imgT 12 rfl rfl rfl fun y12 => ob_storeV rfl rfl rfl rfl rfl Try.sizeOf32 rfl rfl rfl) <| .nil) ?_
  intro a2 w2 m2 hst2 hle2 hk2
  have hfr2 := hk2.fr (T' := [(3, _), (6, _)]) (.old rfl rfl <| .old rfl rfl <| .nil)
  obtain ⟨gn, e6, hgn⟩ := hk2.ex 12 rfl
  replace hst2 := hst2.fin (L' := [_, _]) (.cons e6 <| .nil)
  try simp only [List.take_succ_cons, List.take_zero, List.drop_succ_cons, List.drop_zero, List.cons_append, List.nil_append, List.append_nil, List.length_cons, List.length_nil, Nat.zero_add, Nat.reduceAdd] at hst2
  replace hsr_s := hsr_s.mono hle2
  clear hst1 hfr1 hk2
  refine hK5 _ _ ?_; clear hK5
  refine seq_any fun _ hK7 => ?_
  refine ra0 (tch := [(1, 1, (fun _ => .blk _ _))]) hst2 hfr2 (.cons rfl (ob_loadLA (j := 0) rfl rfl Try.isAgg36 Try.sizeOf36 rfl) <| .consT rfl rfl (fun _ => rfl) rfl (ob_store' rfl rfl rfl Try.sizeOf36 rfl rfl rfl) <| .nil) ?_
  intro a3 w3 m3 hst3 hle3 hk3
  have hfr3 := hk3.fr (T' := [(6, _)]) (.old rfl rfl <| .nil)
  replace hst3 := hst3.fin (L' := [_, _]) (.cons rfl <| .nil)
  try simp only [List.take_succ_cons, List.take_zero, List.drop_succ_cons, List.drop_zero, List.cons_append, List.nil_append, List.append_nil, List.length_cons, List.length_nil, Nat.zero_add, Nat.reduceAdd] at hst3
  replace hsr_s := hsr_s.mono hle3
  replace hgn := hgn.mono hle3
  clear hst2 hfr2 hk3
  refine hK7 _ _ ?_; clear hK7
  refine wp_ret ?_
  repeat (with_reducible first | refine then_ret ?_ | refine block_ret ?_)
  exact fn_ret hst3 hfr3 rfl (.cell rfl (load_blk (blk_heap (hst3.loc.at_ (k := 1) rfl)) Try.isAgg36 Try.sizeOf36) <| .nil) (⟨(some gn, oR_s), rfl, _, _, rfl, hgn, hsr_s⟩)

set_option maxHeartbeats 400000 in
theorem setRow_c {w : World} {m : Mem} {s : Sub} {vs_s : List Value} {n : Int} {r : Rw} {vs_r : List Value} (hA : Agree w m) (h_s : SubR m s vs_s) (h_r : RwR m r vs_r) (hb : r.labels.length ≤ 8796093022208) : FnV Try.prog 11 #[.agg vs_s.toArray, .int .i64 n, .agg vs_r.toArray] w m (fun _ m v => (MP.sub ⟨s.ts, aset n r s.rs⟩).p m v) := by
  obtain ⟨oT_s, oR_s, rfl, hst_s, hsr_s⟩ := id h_s
  obtain ⟨o_r, c_r, rfl, hs_r, hr_r⟩ := h_r.open_
  have hbs_r := hs_r.big; have hcs_r := hs_r.cap
  refine fn_enter (vs := [_, _, _]) Try.func11 rfl rfl rfl fun a0 hfr0 => ?_
  have hst0 := st_enter hA (loc_nil [] _ w m)
  have hM : MLe m m := MLe.refl m
  refine seq_any fun _ hK1 => ?_
  replace hst0 := hst0.more (r := .free) trivial List.nodup_nil (by simp [Res.blocks])
  replace hst0 := hst0.more (r := .free) trivial List.nodup_nil (by simp [Res.blocks])
  replace hst0 := hst0.more (r := .free) trivial List.nodup_nil (by simp [Res.blocks])
  refine ra0 (tch := [(0, 0, (fun v => .blk v _)), (1, 1, (fun v => .blk v _)), (2, 2, (fun v => .blk v _))]) hst0 hfr0 (.consT rfl rfl (fun _ => rfl) rfl (ob_boxL rfl rfl) <| .consT rfl rfl (fun _ => rfl) rfl (ob_boxL rfl rfl) <| .consT rfl rfl (fun _ => rfl) rfl (ob_allocL Try.zeroValue36 rfl) <| .nil) ?_
  intro a1 w1 m1 hst1 hle1 hk1
  have hfr1 := hk1.fr (T' := [(1, _)]) (.old rfl rfl <| .nil)
  obtain ⟨g2, e2, _⟩ := hk1.ex 3 rfl
  replace hfr1 := hfr1.cons e2
  obtain ⟨g3, e3, _⟩ := hk1.ex 5 rfl
  replace hfr1 := hfr1.cons e3
  obtain ⟨g4, e4, _⟩ := hk1.ex 6 rfl
  replace hfr1 := hfr1.cons e4
  replace hst1 := hst1.fin (L' := [_, _, _]) (.cons e2 <| .cons e3 <| .cons e4 <| .nil)
  replace h_s := h_s.mono hle1
  replace hst_s := hst_s.mono hle1
  replace hsr_s := hsr_s.mono hle1
  replace h_r := h_r.mono hle1
  replace hs_r := hs_r.mono hle1
  replace hM := hM.trans hle1
  clear hst0 hfr0 hk1
  refine hK1 _ _ ?_; clear hK1
  refine seq_any fun _ hK5 => ?_
  replace hst1 := hst1.more (r := .free) trivial List.nodup_nil (by simp [Res.blocks])
  refine ra0 (tch := [(2, 3, (fun v => .row (nz v) _ _ _ _)), (4, 1, (fun u => .blk _ (.cells (_ ++ [u] ++ _).toArray _)))]) hst1 hfr1 (.cons rfl (ob_fieldAddrO (off := 0) rfl Try.underlying26 rfl rfl Try.sizeOf24 rfl) <| .cons rfl (ob_loadL (j := 1) rfl rfl Try.isAgg24 rfl) <| .consT rfl rfl (fun _ => rfl) rfl (ob_callT rfl (.cons rfl <| .nil) Try.call29 (κ := .ex (MP.sl (r.labels).length ((r.labels).map S))) (fun σ w m hK hr hkn => by have hle_ := KC.le hK; have hA := KC.agree hK; have hM := hM.trans hle_; have h_s := h_s.mono hle_; have hst_s := hst_s.mono hle_; have hsr_s := hsr_s.mono hle_; have h_r := h_r.mono hle_; have hs_r := hs_r.mono hle_; exact cloneR_t hA hs_r (by omega))) <| .cons rfl (ob_fieldAddrO (off := 0) rfl Try.underlying26 rfl rfl Try.sizeOf24 rfl) <| .consT rfl rfl (fun _ => rfl) rfl (ob_imgT 9 rfl rfl rfl fun y9 => ob_storeV rfl rfl rfl rfl rfl Try.sizeOf24 rfl rfl rfl) <| .nil) ?_
  intro a2 w2 m2 hst2 hle2 hk2
  have hfr2 := hk2.fr (T' := [(1, _), (3, _), (5, _), (6, _)]) (.old rfl rfl <| .old rfl rfl <| .old rfl rfl <| .old rfl rfl <| .nil)
  obtain ⟨⟨oz6, cz6⟩, e7, hrz6, hcz6⟩ := hk2.ex 9 rfl
  replace hst2 := hst2.fin (L' := [_, _, _, _]) (.cons e7 <| .cons e7 <| .nil)
  try simp only [List.take_succ_cons, List.take_zero, List.drop_succ_cons, List.drop_zero, List.cons_append, List.nil_append, List.append_nil, List.length_cons, List.length_nil, Nat.zero_add, Nat.reduceAdd] at hst2
  replace hst_s := hst_s.mono hle2
  replace hsr_s := hsr_s.mono hle2
  clear hst1 hfr1 hk2
  have hsz6 : Strs m2 oz6 (r.labels).length cz6 r.labels := Reads.sl (strs_reads r.labels) hrz6 (by decide) rfl hcz6 (by omega)
  refine hK5 _ _ ?_; clear hK5
  refine seq_any fun _ hK8 => ?_
  refine ra0 (tch := [(6, 0, (fun u => .blk _ (.cells (_ ++ [u] ++ _).toArray _)))]) hst2 hfr2 (.cons rfl (ob_fieldAddrO (off := 1) rfl Try.underlying36 rfl rfl Try.sizeOf34 rfl) <| .cons rfl (ob_loadL (j := 0) rfl rfl Try.isAgg34 rfl) <| .cons rfl (ob_move rfl) <| .cons rfl (ob_loadLA (j := 1) rfl rfl Try.isAgg26 Try.sizeOf26 rfl) <| .cons rfl (ob_call (φ := MP.mapo RRw (aset n r s.rs)) rfl (.cons rfl <| .cons rfl <| .cons rfl <| .nil) Try.call30 (fun w m hK => by have hle_ := KC.le hK; have hA := KC.agree hK; have hsr_s := hsr_s.mono hle_; have hsz6 := hsz6.mono hle_; exact FnG.mono (setR_c (n := n) (x := r) hA hsr_s ⟨_, _, rfl, hsz6, hr_r⟩) fun _ _ _ _ h => h)) <| .cons rfl (ob_fieldAddrO (off := 1) rfl Try.underlying36 rfl rfl Try.sizeOf34 rfl) <| .consT rfl rfl (fun _ => rfl) rfl (ob_imgT 15 rfl rfl rfl fun y15 => ob_storeV rfl rfl rfl rfl rfl Try.sizeOf34 rfl rfl rfl) <| .nil) ?_
  intro a3 w3 m3 hst3 hle3 hk3
  have hfr3 := hk3.fr (T' := [(3, _), (6, _)]) (.old rfl rfl <| .old rfl rfl <| .nil)
  obtain ⟨gn, e9, hgn⟩ := hk3.ex 15 rfl
  replace hst3 := hst3.fin (L' := [_, _, _, _]) (.cons e9 <| .nil)
  try simp only [List.take_succ_cons, List.take_zero, List.drop_succ_cons, List.drop_zero, List.cons_append, List.nil_append, List.append_nil, List.length_cons, List.length_nil, Nat.zero_add, Nat.reduceAdd] at hst3
  replace hst_s := hst_s.mono hle3
  clear hst2 hfr2 hk3
  refine hK8 _ _ ?_; clear hK8
  refine seq_any fun _ hK10 => ?_
  refine ra0 (tch := [(1, 2, (fun _ => .blk _ _))]) hst3 hfr3 (.cons rfl (ob_loadLA (j := 0) rfl rfl Try.isAgg36 Try.sizeOf36 rfl) <| .consT rfl rfl (fun _ => rfl) rfl (ob_store' rfl rfl rfl Try.sizeOf36 rfl rfl rfl) <| .nil) ?_
  intro a4 w4 m4 hst4 hle4 hk4
  have hfr4 := hk4.fr (T' := [(6, _)]) (.old rfl rfl <| .nil)
  replace hst4 := hst4.fin (L' := [_, _, _, _]) (.cons rfl <| .nil)
  try simp only [List.take_succ_cons, List.take_zero, List.drop_succ_cons, List.drop_zero, List.cons_append, List.nil_append, List.append_nil, List.length_cons, List.length_nil, Nat.zero_add, Nat.reduceAdd] at hst4
  replace hst_s := hst_s.mono hle4
  replace hgn := hgn.mono hle4
  clear hst3 hfr3 hk4
  refine hK10 _ _ ?_; clear hK10
  refine wp_ret ?_
  repeat (with_reducible first | refine then_ret ?_ | refine block_ret ?_)
  exact fn_ret hst4 hfr4 rfl (.cell rfl (load_blk (blk_heap (hst4.loc.at_ (k := 2) rfl)) Try.isAgg36 Try.sizeOf36) <| .nil) (⟨(oT_s, some gn), rfl, _, _, rfl, hst_s, hgn⟩)

set_option maxHeartbeats 400000 in
theorem type_c {w : World} {m : Mem} {s : Sub} {vs_s : List Value} {n : Int} (hA : Agree w m) (h_s : SubR m s vs_s) (hb : ∀ t, alook n s.ts = some t → wdT t ≤ 17592186044416) : FnV Try.prog 12 #[.agg vs_s.toArray, .int .i64 n] w m (fun _ m v => (MP.tyb ((alook n s.ts).getD zeroTy) (alook n s.ts).isSome).p m v) := by
  obtain ⟨oT_s, oR_s, rfl, hst_s, hsr_s⟩ := id h_s
  refine fn_enter (vs := [_, _]) Try.func12 rfl rfl rfl fun a0 hfr0 => ?_
  have hst0 := st_enter hA (loc_nil [] _ w m)
  have hM : MLe m m := MLe.refl m
  refine seq_any fun _ hK1 => ?_
  replace hst0 := hst0.more (r := .free) trivial List.nodup_nil (by simp [Res.blocks])
  refine ra0 (tch := [(1, 0, (fun v => .blk v _))]) hst0 hfr0 (.cons rfl (ob_box rfl rfl) <| .consT rfl rfl (fun _ => rfl) rfl (ob_allocL Try.zeroValue28 rfl) <| .cons rfl (ob_assign rfl) <| .nil) ?_
  intro a1 w1 m1 hst1 hle1 hk1
  have hfr1 := hk1.fr (T' := [(1, _)]) (.old rfl rfl <| .nil)
  obtain ⟨g2, e2, hc2⟩ := hk1.ex 2 rfl
  replace hfr1 := hfr1.cons e2
  obtain ⟨g3, e3, _⟩ := hk1.ex 4 rfl
  replace hfr1 := hfr1.cons e3
  replace hst1 := hst1.fin (L' := [_]) (.cons e3 <| .nil)
  replace hst_s := hst_s.mono hle1
  clear hst0 hfr0 hk1
  refine hK1 _ _ ?_; clear hK1
  refine seq_any fun _ hK4 => ?_
  obtain ⟨vs5, x5, b5, hlk5, hb5_, hx5_, hv5⟩ := hst_s.look (n) zeroTy_R
  obtain ⟨o5, c5, oL5, cL5, rfl, hkd5, hs5, hi5, hj5, hr5⟩ := hv5.open_
  have hbg5 := hkd5.big; have hcp5 := hkd5.cap; have hbs5 := hs5.big; have hcs5 := hs5.cap
  have hrw5 : RwR _ ⟨x5.labels, x5.rv⟩ _ := ⟨_, _, rfl, hs5, hr5⟩
  replace hst1 := hst1.more (r := .free) trivial List.nodup_nil (by simp [Res.blocks])
  refine ra0 (tch := [(7, 1, (fun v => .blk v _)), (8, 1, (fun v => .blk v _))]) hst1 hfr1 (.cons rfl (ob_fieldAddrO (off := 0) rfl Try.underlying36 rfl rfl Try.sizeOf32 rfl) <| .cons rfl (ob_load1 rfl hc2 Try.isAgg32 rfl) <| .cons rfl (ob_move rfl) <| .cons rfl (ob_lookupO keys_I rfl rfl (fun w m hK => hlk5.mono (KC.le hK)) Try.underlying32 Try.underlying3 Try.zeroValue28) <| .cons rfl (ob_move rfl) <| .cons rfl (ob_extract rfl rfl) <| .cons rfl (ob_extract rfl rfl) <| .consT rfl rfl (fun _ => rfl) rfl (ob_allocL Try.zeroValue28 rfl) <| .consT rfl rfl (fun _ => rfl) rfl (ob_imgT 6 rfl rfl rfl fun y6 => ob_storeF rfl rfl rfl rfl rfl Try.sizeOf28 rfl rfl rfl) <| .cons rfl (ob_assign rfl) <| .nil) ?_
  intro a2 w2 m2 hst2 hle2 hk2
  have hfr2 := hk2.fr (T' := [(4, _), (7, _)]) (.old rfl rfl <| .new rfl <| .nil)
  obtain ⟨g6, e6, _⟩ := hk2.ex 6 rfl
  replace hfr2 := hfr2.cons e6
  replace hst2 := hst2.fin (L' := [_, _]) (.cons e6 <| .cons e6 <| .nil)
  try simp only [List.take_succ_cons, List.take_zero, List.drop_succ_cons, List.drop_zero, List.cons_append, List.nil_append, List.append_nil, List.length_cons, List.length_nil, Nat.zero_add, Nat.reduceAdd] at hst2
  replace hv5 := hv5.mono hle2
  clear hst1 hfr1 hk2
  have hbx : wdT x5 ≤ 17592186044416 := by rw [hx5_]; cases hq : alook n s.ts with | none => (simp only [Option.getD_none]; decide) | some t => exact hb t hq
  refine hK4 _ _ ?_; clear hK4
  refine seq_any fun _ hK7 => ?_
  refine ra0 (tch := [(3, 0, (fun _ => .blkx _ _ _))]) hst2 hfr2 (.cons rfl (ob_loadLA (j := 1) rfl rfl Try.isAgg28 Try.sizeOf28 rfl) <| .cons rfl (ob_call (φ := MP.ty (x5)) rfl (.cons rfl <| .nil) Try.call28 (fun w m hK => by have hle_ := KC.le hK; have hA := KC.agree hK; have hv5 := hv5.mono hle_; exact FnG.mono (copied_c (x5) hA hv5 hbx) fun _ _ _ _ h => h)) <| .cons rfl (ob_move rfl) <| .consT rfl rfl (fun _ => rfl) rfl (ob_imgTX 16 rfl rfl rfl fun y16 => ob_store' rfl rfl rfl Try.sizeOf28 rfl rfl rfl) <| .cons rfl (ob_assign rfl) <| .nil) ?_
  intro a3 w3 m3 hst3 hle3 hk3
  have hfr3 := hk3.fr (T' := [(4, _), (5, _)]) (.old rfl rfl <| .new rfl <| .nil)
  replace hst3 := hst3.fin (L' := [_, _]) (.cons rfl <| .nil)
  try simp only [List.take_succ_cons, List.take_zero, List.drop_succ_cons, List.drop_zero, List.cons_append, List.nil_append, List.append_nil, List.length_cons, List.length_nil, Nat.zero_add, Nat.reduceAdd] at hst3
  obtain ⟨⟨⟨oa, ca⟩, ol, cl⟩, hcv, hst3⟩ := hst3.unx (k := 0) rfl (fun _ => rfl)
  clear hst2 hfr2 hk3
  refine hK7 _ _ ?_; clear hK7
  refine wp_ret ?_
  repeat (with_reducible first | refine then_ret ?_ | refine block_ret ?_)
  exact fn_ret hst3 hfr3 rfl (.cell rfl (load_blk (blk_heap (hst3.loc.at_ (k := 0) rfl)) Try.isAgg28 Try.sizeOf28) <| .tmp rfl <| .nil) (⟨((oa, ca), (ol, cl)), by rw [← hx5_, ← hb5_]; rfl, by rw [← hx5_]; exact hcv⟩)

set_option maxHeartbeats 400000 in
theorem row_c {w : World} {m : Mem} {s : Sub} {vs_s : List Value} {n : Int} (hA : Agree w m) (h_s : SubR m s vs_s) (hb : ∀ r, alook n s.rs = some r → r.labels.length ≤ 8796093022208) : FnV Try.prog 13 #[.agg vs_s.toArray, .int .i64 n] w m (fun _ m v => (MP.rwb ((alook n s.rs).getD zeroRw) (alook n s.rs).isSome).p m v) := by
  obtain ⟨oT_s, oR_s, rfl, hst_s, hsr_s⟩ := id h_s
  refine fn_enter (vs := [_, _]) Try.func13 rfl rfl rfl fun a0 hfr0 => ?_
  have hst0 := st_enter hA (loc_nil [] _ w m)
  have hM : MLe m m := MLe.refl m
  refine seq_any fun _ hK1 => ?_
  replace hst0 := hst0.more (r := .free) trivial List.nodup_nil (by simp [Res.blocks])
  refine ra0 (tch := [(1, 0, (fun v => .blk v _))]) hst0 hfr0 (.cons rfl (ob_box rfl rfl) <| .consT rfl rfl (fun _ => rfl) rfl (ob_allocL Try.zeroValue26 rfl) <| .cons rfl (ob_assign rfl) <| .nil) ?_
  intro a1 w1 m1 hst1 hle1 hk1
  have hfr1 := hk1.fr (T' := [(1, _)]) (.old rfl rfl <| .nil)
  obtain ⟨g2, e2, hc2⟩ := hk1.ex 2 rfl
  replace hfr1 := hfr1.cons e2
  obtain ⟨g3, e3, _⟩ := hk1.ex 4 rfl
  replace hfr1 := hfr1.cons e3
  replace hst1 := hst1.fin (L' := [_]) (.cons e3 <| .nil)
  replace h_s := h_s.mono hle1
  replace hst_s := hst_s.mono hle1
  replace hsr_s := hsr_s.mono hle1
  replace hM := hM.trans hle1
  clear hst0 hfr0 hk1
  refine hK1 _ _ ?_; clear hK1
  refine seq_any fun _ hK4 => ?_
  obtain ⟨vs5, x5, b5, hlk5, hb5_, hx5_, hv5⟩ := hsr_s.look (n) zeroRw_R
  obtain ⟨o5, c5, rfl, hs5, hr5⟩ := hv5.open_
  have hbs5 := hs5.big; have hcs5 := hs5.cap
  replace hst1 := hst1.more (r := .free) trivial List.nodup_nil (by simp [Res.blocks])
  refine ra0 (tch := [(7, 1, (fun v => .blk v _)), (8, 1, (fun v => .blk v _))]) hst1 hfr1 (.cons rfl (ob_fieldAddrO (off := 1) rfl Try.underlying36 rfl rfl Try.sizeOf34 rfl) <| .cons rfl (ob_load1 rfl hc2 Try.isAgg34 rfl) <| .cons rfl (ob_move rfl) <| .cons rfl (ob_lookupO keys_I rfl rfl (fun w m hK => hlk5.mono (KC.le hK)) Try.underlying34 Try.underlying3 Try.zeroValue26) <| .cons rfl (ob_move rfl) <| .cons rfl (ob_extract rfl rfl) <| .cons rfl (ob_extract rfl rfl) <| .consT rfl rfl (fun _ => rfl) rfl (ob_allocL Try.zeroValue26 rfl) <| .consT rfl rfl (fun _ => rfl) rfl (ob_imgT 6 rfl rfl rfl fun y6 => ob_storeF rfl rfl rfl rfl rfl Try.sizeOf26 rfl rfl rfl) <| .cons rfl (ob_assign rfl) <| .nil) ?_
  intro a2 w2 m2 hst2 hle2 hk2
  have hfr2 := hk2.fr (T' := [(4, _), (7, _)]) (.old rfl rfl <| .new rfl <| .nil)
  obtain ⟨g6, e6, _⟩ := hk2.ex 6 rfl
  replace hfr2 := hfr2.cons e6
  replace hst2 := hst2.fin (L' := [_, _]) (.cons e6 <| .cons e6 <| .nil)
  try simp only [List.take_succ_cons, List.take_zero, List.drop_succ_cons, List.drop_zero, List.cons_append, List.nil_append, List.append_nil, List.length_cons, List.length_nil, Nat.zero_add, Nat.reduceAdd] at hst2
  replace h_s := h_s.mono hle2
  replace hst_s := hst_s.mono hle2
  replace hsr_s := hsr_s.mono hle2
  replace hc2 := hc2.mono hle2
  replace hlk5 := hlk5.mono hle2
  replace hv5 := hv5.mono hle2
  replace hs5 := hs5.mono hle2
  replace hM := hM.trans hle2
  clear hst1 hfr1 hk2
  have hbx : x5.labels.length ≤ 8796093022208 := by rw [hx5_]; cases hq : alook n s.rs with | none => (simp only [Option.getD_none]; decide) | some t => exact hb t hq
  refine hK4 _ _ ?_; clear hK4
  refine seq_any fun _ hK7 => ?_
  replace hst2 := hst2.more (r := .free) trivial List.nodup_nil (by simp [Res.blocks])
  refine ra0 (tch := [(2, 2, (fun v => .row (nz v) _ _ _ _)), (4, 1, (fun u => .blk _ (.cells (_ ++ [u] ++ _).toArray _)))]) hst2 hfr2 (.cons rfl (ob_fieldAddrO (off := 0) rfl Try.underlying26 rfl rfl Try.sizeOf24 rfl) <| .cons rfl (ob_loadL (j := 1) rfl rfl Try.isAgg24 rfl) <| .consT rfl rfl (fun _ => rfl) rfl (ob_callT rfl (.cons rfl <| .nil) Try.call29 (κ := .ex (MP.sl (x5.labels).length ((x5.labels).map S))) (fun σ w m hK hr hkn => by have hle_ := KC.le hK; have hA := KC.agree hK; have hM := hM.trans hle_; have h_s := h_s.mono hle_; have hst_s := hst_s.mono hle_; have hsr_s := hsr_s.mono hle_; have hc2 := hc2.mono hle_; have hlk5 := hlk5.mono hle_; have hv5 := hv5.mono hle_; have hs5 := hs5.mono hle_; exact cloneR_t hA hs5 (by omega))) <| .cons rfl (ob_fieldAddrO (off := 0) rfl Try.underlying26 rfl rfl Try.sizeOf24 rfl) <| .consT rfl rfl (fun _ => rfl) rfl (ob_imgT 17 rfl rfl rfl fun y17 => ob_storeV rfl rfl rfl rfl rfl Try.sizeOf24 rfl rfl rfl) <| .nil) ?_
  intro a3 w3 m3 hst3 hle3 hk3
  have hfr3 := hk3.fr (T' := [(4, _), (7, _), (6, _)]) (.old rfl rfl <| .old rfl rfl <| .old rfl rfl <| .nil)
  obtain ⟨⟨oz8, cz8⟩, e9, hrz8, hcz8⟩ := hk3.ex 17 rfl
  replace hst3 := hst3.fin (L' := [_, _, _]) (.cons e9 <| .cons e9 <| .nil)
  try simp only [List.take_succ_cons, List.take_zero, List.drop_succ_cons, List.drop_zero, List.cons_append, List.nil_append, List.append_nil, List.length_cons, List.length_nil, Nat.zero_add, Nat.reduceAdd] at hst3
  clear hst2 hfr2 hk3
  have hsz8 : Strs m3 oz8 (x5.labels).length cz8 x5.labels := Reads.sl (strs_reads x5.labels) hrz8 (by decide) rfl hcz8 (by omega)
  refine hK7 _ _ ?_; clear hK7
  refine seq_any fun _ hK10 => ?_
  refine ra0 (tch := [(2, 0, (fun _ => .blk _ _))]) hst3 hfr3 (.cons rfl (ob_loadLA (j := 1) rfl rfl Try.isAgg26 Try.sizeOf26 rfl) <| .cons rfl (ob_move rfl) <| .consT rfl rfl (fun _ => rfl) rfl (ob_store' rfl rfl rfl Try.sizeOf26 rfl rfl rfl) <| .cons rfl (ob_assign rfl) <| .nil) ?_
  intro a4 w4 m4 hst4 hle4 hk4
  have hfr4 := hk4.fr (T' := [(4, _), (5, _)]) (.old rfl rfl <| .new rfl <| .nil)
  replace hst4 := hst4.fin (L' := [_, _, _]) (.cons rfl <| .nil)
  try simp only [List.take_succ_cons, List.take_zero, List.drop_succ_cons, List.drop_zero, List.cons_append, List.nil_append, List.append_nil, List.length_cons, List.length_nil, Nat.zero_add, Nat.reduceAdd] at hst4
  replace hsz8 := hsz8.mono hle4
  clear hst3 hfr3 hk4
  refine hK10 _ _ ?_; clear hK10
  refine wp_ret ?_
  repeat (with_reducible first | refine then_ret ?_ | refine block_ret ?_)
  exact fn_ret hst4 hfr4 rfl (.cell rfl (load_blk (blk_heap (hst4.loc.at_ (k := 0) rfl)) Try.isAgg26 Try.sizeOf26) <| .tmp rfl <| .nil) (⟨(oz8, cz8), by rw [← hx5_, ← hb5_]; rfl, by rw [← hx5_]; exact ⟨_, _, rfl, hsz8, hr5⟩⟩)

/-- Where a type's arguments lie. -/
def argsV : Value → Value
  | .agg a => a.getD 3 undef
  | v => v
def MP.tyA (t : Ty) : MP := MP.mem (fun y => .agg (tyV t y).toArray) (fun y m => t.args.length ≤ y.1.2 ∧ Strs m y.2.1 t.labels.length y.2.2 t.labels) fun hm h => ⟨h.1, h.2.mono hm⟩
/-- A row, and a type, with what is said in it. -/
def applyR (s : Sub) (r : Rw) : Rw := match alook r.var s.rs with
  | some x => if r.var = 0 then ⟨sortS r.labels, r.var⟩ else ⟨sortS (r.labels ++ x.labels), x.var⟩
  | none => ⟨sortS r.labels, r.var⟩
mutual
def applyT (s : Sub) : Ty → Ty
  | ⟨k, nm, v, ts, ls, rv⟩ => if k = 7 then (alook v s.ts).getD ⟨k, nm, v, ts, ls, rv⟩ else ⟨k, nm, v, applyTs s ts, if k = 5 then (applyR s ⟨ls, rv⟩).labels else ls, if k = 5 then (applyR s ⟨ls, rv⟩).var else rv⟩
def applyTs (s : Sub) : List Ty → List Ty
  | [] => []
  | t :: ts => applyT s t :: applyTs s ts
end
theorem applyT_var {s : Sub} {t : Ty} (h : t.kind = 7) : applyT s t = (alook t.var s.ts).getD t := by obtain ⟨k, n, v, ts, ls, r⟩ := t; rw [applyT]; exact if_pos h
theorem applyT_not {s : Sub} {t : Ty} (h : ¬ t.kind = 7) : applyT s t = ⟨t.kind, t.name, t.var, applyTs s t.args, if t.kind = 5 then (applyR s ⟨t.labels, t.rv⟩).labels else t.labels, if t.kind = 5 then (applyR s ⟨t.labels, t.rv⟩).var else t.rv⟩ := by obtain ⟨k, n, v, ts, ls, r⟩ := t; rw [applyT]; exact if_neg h
theorem applyTs_len (s : Sub) : ∀ l : List Ty, (applyTs s l).length = l.length
  | [] => rfl
  | t :: ts => by rw [applyTs, List.length_cons, List.length_cons, applyTs_len s ts]
/-- Nothing that is said is wider than B. -/
def SubW (B R : Nat) (s : Sub) : Prop := (∀ n t, alook n s.ts = some t → wdT t ≤ B) ∧ ∀ n r, alook n s.rs = some r → r.labels.length ≤ R
theorem get_midY {α : Type} {d l : List α} {x : α} {y : Nat} (h : d.length = y) : (d ++ x :: l)[y]? = some x := by subst h; exact get_mid d l x
theorem set_midY {α : Type} {d l : List α} {x z : α} {y : Nat} (h : d.length = y) : (d ++ x :: l).set y z = (d ++ [z]) ++ l := by subst h; exact set_mid d l x z

set_option maxHeartbeats 1600000 in
theorem copiedO_g {w : World} {m : Mem} {t : Ty} {vs_t : List Value} (hA : Agree w m) (h_t : TyR m t vs_t) (hb : wdT t ≤ 17592186044416) : FnG Try.prog 28 #[.agg vs_t.toArray] [] w m (fun w' m' v => Loc [] w.heap.size [.mrowx (argsV v) t.args.length 6 28 (MP.reads (fun m vs t => TyR m t vs) 6 t.args)] w' m' ∧ (MP.tyA t).p m' v) := by
  obtain ⟨o_t, c_t, oL_t, cL_t, rfl, hk_t, hs_t, hi_t, hj_t, hr_t⟩ := h_t.open_
  have hbg_t := hk_t.big; have hcp_t := hk_t.cap; have hbs_t := hs_t.big; have hcs_t := hs_t.cap
  have hrw_t : RwR _ ⟨t.labels, t.rv⟩ _ := ⟨_, _, rfl, hs_t, hr_t⟩
  refine fn_enter (vs := [_]) Try.func28 rfl rfl rfl fun a0 hfr0 => ?_
  have hst0 := st_enter hA (loc_nil [] _ w m)
  have hM : MLe m m := MLe.refl m
  have hbk := fun u (hu : u ∈ t.args) => wdT_arg hu
  have hbe := wdT_eq t
  refine seq_any fun _ hK1 => ?_
  replace hst0 := hst0.more (r := .free) trivial List.nodup_nil (by simp [Res.blocks])
  replace hst0 := hst0.more (r := .free) trivial List.nodup_nil (by simp [Res.blocks])
  refine ra0 (tch := [(0, 0, (fun v => .blk v _)), (1, 1, (fun v => .blk v _))]) hst0 hfr0 (.consT rfl rfl (fun _ => rfl) rfl (ob_boxL rfl rfl) <| .consT rfl rfl (fun _ => rfl) rfl (ob_allocL Try.zeroValue28 rfl) <| .nil) ?_
  intro a1 w1 m1 hst1 hle1 hk1
  have hfr1 := hk1.fr (T' := []) (.nil)
  obtain ⟨gB, e2, _⟩ := hk1.ex 1 rfl
  replace hfr1 := hfr1.cons e2
  obtain ⟨gT, e3, _⟩ := hk1.ex 2 rfl
  replace hfr1 := hfr1.cons e3
  replace hst1 := hst1.fin (L' := [_, _]) (.cons e2 <| .cons e3 <| .nil)
  replace h_t := h_t.mono hle1
  replace hk_t := hk_t.mono hle1
  replace hs_t := hs_t.mono hle1
  replace hrw_t := hrw_t.mono hle1
  replace hM := hM.trans hle1
  clear hst0 hfr0 hk1
  refine hK1 _ _ ?_; clear hK1
  refine seq_any fun _ hK4 => ?_
  replace hst1 := hst1.more (r := .free) trivial List.nodup_nil (by simp [Res.blocks])
  refine ra0 (tch := [(2, 2, (fun v => .mrowx v t.args.length 6 28 (MP.reads (fun m vs t => TyR m t vs) 6 t.args))), (4, 0, (fun u => .blk _ (.cells (_ ++ [u] ++ _).toArray _)))]) hst1 hfr1 (.cons rfl (ob_fieldAddrO (off := 3) rfl Try.underlying28 rfl rfl Try.sizeOf23 rfl) <| .cons rfl (ob_loadL (j := 0) rfl rfl Try.isAgg23 rfl) <| .consT rfl rfl (fun _ => rfl) rfl (ob_callT rfl (.cons rfl <| .nil) Try.call40 (κ := .ex (MP.made' t.args.length)) (fun σ w m hK hr hkn => by have hle_ := KC.le hK; have hA := KC.agree hK; have hM := hM.trans hle_; have h_t := h_t.mono hle_; have hk_t := hk_t.mono hle_; have hs_t := hs_t.mono hle_; have hrw_t := hrw_t.mono hle_; exact cloneTy_t hA hk_t (by omega))) <| .cons rfl (ob_fieldAddrO (off := 3) rfl Try.underlying28 rfl rfl Try.sizeOf23 rfl) <| .consT rfl rfl (fun _ => rfl) rfl (ob_imgT 6 rfl rfl rfl fun y6 => ob_storeV rfl rfl rfl rfl rfl Try.sizeOf23 rfl rfl rfl) <| .nil) ?_
  intro a2 w2 m2 hst2 hle2 hk2
  have hfr2 := hk2.fr (T' := [(1, _), (2, _)]) (.old rfl rfl <| .old rfl rfl <| .nil)
  obtain ⟨⟨oK, cK⟩, e5, hcK⟩ := hk2.ex 6 rfl
  replace hst2 := hst2.fin (L' := [_, _, _]) (.cons e5 <| .cons e5 <| .nil)
  try simp only [List.take_succ_cons, List.take_zero, List.drop_succ_cons, List.drop_zero, List.cons_append, List.nil_append, List.append_nil, List.length_cons, List.length_nil, Nat.zero_add, Nat.reduceAdd] at hst2
  replace h_t := h_t.mono hle2
  replace hk_t := hk_t.mono hle2
  replace hs_t := hs_t.mono hle2
  replace hrw_t := hrw_t.mono hle2
  replace hM := hM.trans hle2
  clear hst1 hfr1 hk2
  refine hK4 _ _ ?_; clear hK4
  refine seq_any fun _ hK6 => ?_
  refine seq_any fun _ hK7 => ?_
  refine rp0 hst2 hfr2 (.cons rfl (ob_fieldAddrO (off := 3) rfl Try.underlying28 rfl rfl Try.sizeOf23 rfl) <| .cons rfl (ob_loadL (j := 0) rfl rfl Try.isAgg23 rfl) <| .cons rfl (ob_len rfl Try.underlying23) <| .cons rfl (ob_move rfl) <| .nil) ?_
  intro a3 w3 m3 hst3 hle3 hk3
  have hfr3 := hk3.fr (T' := [(1, _), (2, _), (10, _), (11, _)]) (.old rfl rfl <| .old rfl rfl <| .new rfl <| .new rfl <| .nil)
  replace h_t := h_t.mono hle3
  replace hk_t := hk_t.mono hle3
  replace hs_t := hs_t.mono hle3
  replace hrw_t := hrw_t.mono hle3
  replace hM := hM.trans hle3
  clear hst2 hfr2 hk3
  refine hK7 _ _ ?_; clear hK7
  refine wp_block ?_
  refine loop_any (T := [(1, _), (2, _), (10, _)]) (fun (y : Nat) => ([(11, .int .i64 (y : Int))] : List (Nat × Value))) (fun y => [_, _, .mrowx (.slice oK t.args.length cK) t.args.length 6 28 (MP.reads (fun m vs t => TyR m t vs) 6 t.args)]) (fun (y : Nat) m => (y ≤ t.args.length)) (fun y => t.args.length - y) (0) ⟨hst3, MLe.refl _, hfr3.sub (.cons rfl <| .cons rfl <| .cons rfl <| .cons rfl <| .nil), Nat.zero_le _⟩ fun y a4 w4 m4 hh4 => ?_
  have hst4 := hh4.st; have hle4 := hh4.le; have hfr4 := hh4.fr; have hrel := hh4.rel; clear hh4
  replace h_t := h_t.mono hle4
  replace hk_t := hk_t.mono hle4
  replace hs_t := hs_t.mono hle4
  replace hrw_t := hrw_t.mono hle4
  clear hst3 hfr3
  replace hM := hM.trans hle4
  have hyn := hrel
  have hlh4 := hle4
  refine seq_any fun _ hK9 => ?_
  refine rp0 hst4 hfr4 (.cons rfl (ob_lss rfl rfl) <| .nil) ?_
  intro a5 w5 m5 hst5 hle5 hk5
  have hfr5 := hk5.fr (T' := [(11, _), (1, _), (2, _), (10, _), (12, _)]) (.old rfl rfl <| .old rfl rfl <| .old rfl rfl <| .old rfl rfl <| .new rfl <| .nil)
  replace h_t := h_t.mono hle5
  replace hk_t := hk_t.mono hle5
  replace hs_t := hs_t.mono hle5
  replace hrw_t := hrw_t.mono hle5
  have hlh5 := hlh4.trans hle5
  replace hM := hM.trans hle5
  clear hst4 hfr4 hk5
  refine hK9 _ _ ?_; clear hK9
  refine seq_any fun _ hK10 => ?_
  refine cond_any hfr5 rfl rfl (fun hb12 => ?_) (fun hb12 => ?_)
  · try simp only [nq1, nq2, nq3, nq4, nq5, nq6, nq7, nq8, nq9, u8_eq] at hb12
    refine wp_skip ?_
    refine hK10 _ _ ?_; clear hK10
    refine seq_any fun _ hK11 => ?_
    refine wp_block ?_
    refine seq_any fun _ hK12 => ?_
    refine rp0 hst5 hfr5 (.cons rfl (ob_move rfl) <| .cons rfl (ob_assign rfl) <| .nil) ?_
    intro a6 w6 m6 hst6 hle6 hk6
    have hfr6 := hk6.fr (T' := [(11, _), (1, _), (2, _), (10, _), (3, _)]) (.old rfl rfl <| .old rfl rfl <| .old rfl rfl <| .old rfl rfl <| .new rfl <| .nil)
    have hlh6 := hlh5.trans hle6
    clear hst5 hfr5 hk6
    refine hK12 _ _ ?_; clear hK12
    obtain ⟨x9, hx9, hd9⟩ : ∃ x, t.args[y]? = some x ∧ t.args.drop y = x :: t.args.drop (y + 1) := ⟨t.args[y]'(by omega), List.getElem?_eq_getElem (by omega), List.drop_eq_getElem_cons (by omega)⟩
    have hm9 : x9 ∈ t.args := List.mem_of_getElem? hx9
    have hbx9 := hbk x9 hm9
    obtain ⟨gK, hgK⟩ := MP.made_some (hst6.loc.at_ (k := 2) rfl) (by omega)
    subst hgK
    refine region_any (tch := [(10, 2, (fun _ => .mrowx _ _ _ _ _))]) (fun _ => mixed) hst6 hfr6 (by kernel_rfl) (by kernel_rfl) (by kernel_rfl) (.cons rfl (ob_fieldAddrO (off := 3) rfl Try.underlying28 rfl rfl Try.sizeOf23 rfl) <| .cons rfl (ob_loadL (j := 0) rfl rfl Try.isAgg23 rfl) <| .cons rfl (ob_move rfl) <| .cons rfl (ob_fieldAddrO (off := 3) rfl Try.underlying28 rfl rfl Try.sizeOf23 rfl) <| .cons rfl (ob_loadL (j := 0) rfl rfl Try.isAgg23 rfl) <| .cons rfl (ob_move rfl) <| .cons rfl (ob_indexAddr (k := y) rfl rfl Try.underlying23 Try.sizeOf28 rfl (by omega)) <| .cons rfl (ob_loadMX (R := (fun m vs t => TyR m t vs)) (i := y) (j := 2) (l := t.args) rfl rfl Try.isAgg28 Try.sizeOf28 hx9 (by decide)) <| .cons rfl (ob_imgE 21 rfl rfl rfl fun y21 => ob_call (φ := MP.ty (x9)) rfl (.cons rfl <| .nil) Try.call28 (fun w m hK => by have hle_ := KC.le hK; have hA := KC.agree hK; have hr0_ := hK.2; exact FnG.mono (copied_c (x9) hA hr0_ (by omega)) fun _ _ _ _ h => h)) <| .cons rfl (ob_indexAddr (k := y) rfl rfl Try.underlying23 Try.sizeOf28 rfl (by omega)) <| .consT rfl rfl (fun _ => rfl) rfl (ob_imgT 22 rfl rfl rfl fun y22 => ob_storeMX (R := (fun m vs t => TyR m t vs)) (i := y) (off := 0) (l := t.args) (b := x9) (ws := tyV x9 y22) rfl rfl rfl Try.sizeOf28 hx9 (by decide) (by show 0 + 6 ≤ 6; omega) (fun w m hK vs hv _ => by rw [splice_whole hv]; exact hK.2) (fun w m hK => hK.2.one)) <| .nil) ?_
    intro a7 w7 m7 hst7 hle7 hk7
    have hfr7 := hk7.fr (T' := [(11, _), (1, _), (2, _), (10, _)]) (.old rfl rfl <| .old rfl rfl <| .old rfl rfl <| .old rfl rfl <| .nil)
    replace hst7 := hst7.fin (L' := [_, _, _]) (.cons rfl <| .nil)
    try simp only [List.take_succ_cons, List.take_zero, List.drop_succ_cons, List.drop_zero, List.cons_append, List.nil_append, List.append_nil, List.length_cons, List.length_nil, Nat.zero_add, Nat.reduceAdd] at hst7
    have hlh7 := hlh6.trans hle7
    clear hst6 hfr6 hk7
    rw [set_same hx9] at hst7
    refine hK11 _ _ ?_; clear hK11
    refine rp0 hst7 hfr7 (.cons rfl (ob_add rfl rfl ⟨by omega, by omega⟩) <| .cons rfl (ob_move rfl) <| .nil) ?_
    intro a8 w8 m8 hst8 hle8 hk8
    have hfr8 := hk8.fr (T' := [(1, _), (2, _), (10, _), (11, _)]) (.old rfl rfl <| .old rfl rfl <| .old rfl rfl <| .new rfl <| .nil)
    have hlh8 := hlh7.trans hle8
    clear hst7 hfr7 hk8
    exact ⟨y + 1, m8, by show t.args.length - (y + 1) < t.args.length - y; omega, ⟨hst8, hlh8, hfr8.sub (.cons rfl <| .cons rfl <| .cons rfl <| .cons rfl <| .nil), by show y + 1 ≤ t.args.length; omega⟩⟩
  · try simp only [nq1, nq2, nq3, nq4, nq5, nq6, nq7, nq8, nq9, u8_eq] at hb12
    have hge : y = t.args.length := by omega
    refine wp_exit ?_
    refine hK6 _ _ ?_; clear hK6
    refine seq_any fun _ hK13 => ?_
    replace hst5 := hst5.more (r := .free) trivial List.nodup_nil (by simp [Res.blocks])
    refine ra0 (tch := [(3, 3, (fun v => .row (nz v) _ _ _ _)), (6, 0, (fun u => .blk _ (.cells (_ ++ [u] ++ _).toArray _)))]) hst5 hfr5 (.cons rfl (ob_fieldAddrO (off := 4) rfl Try.underlying28 rfl rfl Try.sizeOf26 rfl) <| .cons rfl (ob_fieldAddrO (off := 0) rfl Try.underlying26 rfl rfl Try.sizeOf24 rfl) <| .cons rfl (ob_loadL (k := 4) (j := 0) rfl rfl Try.isAgg24 rfl) <| .consT rfl rfl (fun _ => rfl) rfl (ob_callT rfl (.cons rfl <| .nil) Try.call29 (κ := .ex (MP.sl (t.labels).length ((t.labels).map S))) (fun σ w m hK hr hkn => by have hle_ := KC.le hK; have hA := KC.agree hK; have hM := hM.trans hle_; have h_t := h_t.mono hle_; have hk_t := hk_t.mono hle_; have hs_t := hs_t.mono hle_; have hrw_t := hrw_t.mono hle_; exact cloneR_t hA hs_t (by omega))) <| .cons rfl (ob_fieldAddrO (off := 4) rfl Try.underlying28 rfl rfl Try.sizeOf26 rfl) <| .cons rfl (ob_fieldAddrO (off := 0) rfl Try.underlying26 rfl rfl Try.sizeOf24 rfl) <| .consT rfl rfl (fun _ => rfl) rfl (ob_imgT 28 rfl rfl rfl fun y28 => ob_storeV (k := 4) rfl rfl rfl rfl rfl Try.sizeOf24 rfl rfl rfl) <| .nil) ?_
    intro a6 w6 m6 hst6 hle6 hk6
    have hfr6 := hk6.fr (T' := [(11, _), (1, _), (2, _)]) (.old rfl rfl <| .old rfl rfl <| .old rfl rfl <| .nil)
    obtain ⟨⟨oz14, cz14⟩, e15, hrz14, hcz14⟩ := hk6.ex 28 rfl
    replace hst6 := hst6.fin (L' := [_, _, _, _]) (.cons e15 <| .cons e15 <| .nil)
    try simp only [List.take_succ_cons, List.take_zero, List.drop_succ_cons, List.drop_zero, List.cons_append, List.nil_append, List.append_nil, List.length_cons, List.length_nil, Nat.zero_add, Nat.reduceAdd] at hst6
    have hlh6 := hlh5.trans hle6
    clear hst5 hfr5 hk6
    have hsz14 : Strs m6 oz14 (t.labels).length cz14 t.labels := Reads.sl (strs_reads t.labels) hrz14 (by decide) rfl hcz14 (by omega)
    refine hK13 _ _ ?_; clear hK13
    refine seq_any fun _ hK16 => ?_
    refine ra0 (tch := [(1, 1, (fun _ => .blk _ _))]) hst6 hfr6 (.cons rfl (ob_loadLA (j := 0) rfl rfl Try.isAgg28 Try.sizeOf28 rfl) <| .consT rfl rfl (fun _ => rfl) rfl (ob_store' rfl rfl rfl Try.sizeOf28 rfl rfl rfl) <| .nil) ?_
    intro a7 w7 m7 hst7 hle7 hk7
    have hfr7 := hk7.fr (T' := [(11, _), (2, _)]) (.old rfl rfl <| .old rfl rfl <| .nil)
    replace hst7 := hst7.fin (L' := [_, _, _, _]) (.cons rfl <| .nil)
    try simp only [List.take_succ_cons, List.take_zero, List.drop_succ_cons, List.drop_zero, List.cons_append, List.nil_append, List.append_nil, List.length_cons, List.length_nil, Nat.zero_add, Nat.reduceAdd] at hst7
    replace hsz14 := hsz14.mono hle7
    have hlh7 := hlh6.trans hle7
    clear hst6 hfr6 hk7
    refine hK16 _ _ ?_; clear hK16
    refine wp_ret ?_
    repeat (with_reducible first | refine then_ret ?_ | refine block_ret ?_)
    exact fn_ret hst7 hfr7 rfl (.cell rfl (load_blk (blk_heap (hst7.loc.at_ (k := 1) rfl)) Try.isAgg28 Try.sizeOf28) <| .nil) (⟨(St.tail2 (hst7.take 3)).loc, ((oK, cK), (oz14, cz14)), rfl, hcK, hsz14⟩)

theorem copiedO_t {w : World} {m : Mem} {t : Ty} {vs : List Value} (hA : Agree w m) (h : TyR m t vs) (hb : wdT t ≤ 17592186044416) :
    Calls Try.prog 28 #[.agg vs.toArray] w fun e w' => ∃ v m', e = .returned v ∧ Touch .free (.mrowx (argsV v) t.args.length 6 28 (MP.reads (fun m vs t => TyR m t vs) 6 t.args)) w m w' m' ∧ (Kn.ex (MP.tyA t)).holds m' v :=
  Calls.mono (copiedO_g hA h hb) fun e w' ⟨v, m', e1, hE, hL, hv⟩ => ⟨v, m', e1, touch_of hE hL, hv⟩

end Go.Proofs.Ytfphefkfbhjfdaa
