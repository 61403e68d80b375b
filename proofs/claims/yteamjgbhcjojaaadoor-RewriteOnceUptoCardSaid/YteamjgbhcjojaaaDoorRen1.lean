/-
  Names that are numbered; what names became. Conditions: those of each theorem.
-/
import Derived.Test.YteamjgbhcjojaaaDoorPairs2
import Derived.Test.YteamjgbhcjojaaaDoorPure5
import Derived.Sort.Grow
import Derived.Lib.ItoaLen
namespace Go.Proofs.YteamjgbhcjojaaaDoor
set_option linter.all false
set_option maxRecDepth 4000
open Go.RowKit
theorem below_grow' (w : World) (k : Nat) (os : Array Obj) : Below w.heap.size w (Go.Sort.grow (w.drewN k) os) :=
  ⟨rfl, rfl, rfl, by simp only [Go.Sort.grow, World.drewN, Array.size_append]; omega, fun b hb => by simp only [Go.Sort.grow, World.drewN]; rw [Array.getElem?_append_left hb]⟩
theorem fn_calls {P : Program} {f : FuncId} {args : Array Value} {w : World} {m : Mem} {c : Value} (hA : Agree w m) (h : Calls P f args w fun e w' => e = .returned c ∧ Below w.heap.size w w') : FnV P f args w m fun _ _ v => v = c :=
  Calls.mono h fun e w' ⟨e1, hb⟩ => ⟨c, m, e1, ExtG.of_below hA hb, rfl⟩
theorem itoa_len {n : Int} (h : InI64 n) : (Go.Lib.itoa n).length ≤ 21 := Go.Lib.itoa_length_le n h.1 h.2
def vS (es : List (Str × Str)) : List (Str × Value) := es.map fun p => (p.1, S p.2)
theorem alook_vS (k : Str) : ∀ es : List (Str × Str), alook k (vS es) = (aget k es).map S
  | [] => rfl
  | (a, v) :: es => by
    have := alook_vS k es
    simp only [vS, List.map_cons, alook, aget] at this ⊢
    by_cases h : k = a
    · rw [if_pos h, if_pos h]; rfl
    · rw [if_neg h, if_neg h]; exact this
theorem aset_vS (k v : Str) : ∀ es : List (Str × Str), aset k (S v) (vS es) = vS (aput k v es)
  | [] => rfl
  | (a, u) :: es => by
    have := aset_vS k v es
    simp only [vS, List.map_cons, aset, aput] at this ⊢
    by_cases h : k = a
    · rw [if_pos h, if_pos h]; rfl
    · rw [if_neg h, if_neg h, List.map_cons, this]
theorem mclone_t {w : World} {m : Mem} {g : Nat} {es : List (Str × Value)} (hA : Agree w m) (h : MapAt S m g es) :
    Calls Tryd.prog 46 #[.map (some g)] w fun e w' => ∃ v m', e = .returned v ∧ Touch .free (.map v (encs S es)) w m w' m' ∧ (Kn.ex MP.mapv).holds m' v := by
  obtain ⟨ents, cl, hh, he⟩ := hA.map g _ h
  exact Calls.mono (AnyW.maps_Clone Tryd.mcloneS g ents cl w hh) fun e w' ⟨e1, e2⟩ => ⟨_, m, e1, by rw [e2]; exact touch_newMap hA he, _, rfl, trivial⟩
set_option maxHeartbeats 400000 in
theorem cloneTm_g {w : World} {m : Mem} {o_l : Option Addr} {c_l : Nat} {l : List Tm} (hA : Agree w m) (h_l : Tms m o_l l.length c_l l) (hn9 : l.length ≤ 100000000000) : FnG Tryd.prog 33 #[.slice o_l l.length c_l] [] w m (fun w' m' v => Loc [] w.heap.size [.mrowx v l.length 21 33 (MP.reads (fun m vs t => TmR m t vs) 21 l)] w' m' ∧ (MP.made' l.length).p m' v) := by
  have hb_l := h_l.big; have hc_l := h_l.cap
  refine fn_enter (vs := [_]) Tryd.func33 rfl rfl rfl fun a0 hfr0 => ?_
  have hst0 := st_enter hA (loc_nil [] _ w m)
  have hM : MLe m m := MLe.refl m
  refine seq_any fun _ hK1 => ?_
  refine rp0 hst0 hfr0 (.cons rfl (ob_assign rfl) <| .nil) ?_
  intro a1 w1 m1 hst1 hle1 hk1
  have hfr1 := hk1.fr (T' := [(0, _)]) (.old rfl rfl <| .nil)
  replace h_l := h_l.mono hle1
  clear hst0 hfr0 hk1
  refine hK1 _ _ ?_; clear hK1
  refine seq_any fun _ hK2 => ?_
  refine seq_any fun _ hK3 => ?_
  refine rp0 hst1 hfr1 (.cons rfl (ob_move rfl) <| .cons rfl (ob_slnil rfl Tryd.underlying24) <| .nil) ?_
  intro a2 w2 m2 hst2 hle2 hk2
  have hfr2 := hk2.fr (T' := [(0, _), (4, _)]) (.old rfl rfl <| .new rfl <| .nil)
  replace h_l := h_l.mono hle2
  clear hst1 hfr1 hk2
  refine hK3 _ _ ?_; clear hK3
  refine cond_any hfr2 rfl rfl (fun hb4 => ?_) (fun hb4 => ?_)
  · try simp only [nq1, nq2, nq3, nq4, nq5, nq6, nq7, nq8, nq9, u8_eq] at hb4
    have ho9 : o_l = none := by cases o_l with | none => rfl | some p => simp at hb4
    subst ho9
    have hl9 := h_l.none_nil
    subst hl9
    refine seq_any fun _ hK4 => ?_
    refine rp0 hst2 hfr2 (.cons rfl (ob_assign rfl) <| .nil) ?_
    intro a3 w3 m3 hst3 hle3 hk3
    have hfr3 := hk3.fr (T' := [(2, _)]) (.new rfl <| .nil)
    clear hst2 hfr2 hk3
    have hst9 := hst3.more (r := .mrowx (.slice none 0 0) 0 21 33 (MP.reads (fun m vs t => TmR m t vs) 21 [])) mrowx_nil List.nodup_nil (by simp [Res.blocks, mBlock])
    refine hK4 _ _ ?_; clear hK4
    refine wp_ret ?_
    repeat (with_reducible first | refine then_ret ?_ | refine block_ret ?_)
    exact fn_ret hst3 hfr3 rfl (.tmp rfl <| .nil) (⟨hst9.loc, (none, 0), rfl, Nat.le_refl _⟩)
  · try simp only [nq1, nq2, nq3, nq4, nq5, nq6, nq7, nq8, nq9, u8_eq] at hb4
    refine wp_skip ?_
    refine hK2 _ _ ?_; clear hK2
    refine seq_any fun _ hK6 => ?_
    replace hst2 := hst2.more (r := .free) trivial List.nodup_nil (by simp [Res.blocks])
    refine ra0 (tch := [(2, 0, (fun v => .mrowx v _ _ _ _))]) hst2 hfr2 (.cons rfl (ob_buildSlice0 Tryd.underlying24 Tryd.sizeOf33) <| .cons rfl (ob_move rfl) <| .consT rfl rfl (fun _ => rfl) rfl (ob_imgT 5 rfl rfl rfl fun y5 => ob_appendM0 (size := 21) (bytes := 312) rfl rfl Tryd.underlying24 Tryd.type33 rfl rfl rfl rfl (fun w m hK => h_l.mono (KC.le hK)) (by decide) (by simp only [maxLen]; omega) (by omega)) <| .consA 7 rfl rfl <| .nil) ?_
    intro a3 w3 m3 hst3 hle3 hk3
    have hfr3 := hk3.fr (T' := []) (.nil)
    obtain ⟨⟨om7, cm7⟩, e7, hcm7⟩ := hk3.ex 7 rfl
    replace hfr3 := hfr3.cons (hk3.same 2 rfl e7)
    replace hst3 := hst3.fin (L' := [_]) (.cons e7 <| .nil)
    clear hst2 hfr2 hk3
    refine hK6 _ _ ?_; clear hK6
    refine wp_ret ?_
    repeat (with_reducible first | refine then_ret ?_ | refine block_ret ?_)
    exact fn_ret hst3 hfr3 rfl (.tmp rfl <| .nil) (⟨hst3.loc, (om7, cm7), rfl, hcm7⟩)

theorem cloneTm_t {w : World} {m : Mem} {o : Option Addr} {c : Nat} {l : List Tm} (hA : Agree w m) (h : Tms m o l.length c l) (hn : l.length ≤ 100000000000) :
    Calls Tryd.prog 33 #[.slice o l.length c] w fun e w' => ∃ v m', e = .returned v ∧ Touch .free (.mrowx v l.length 21 33 (MP.reads (fun m vs t => TmR m t vs) 21 l)) w m w' m' ∧ (Kn.ex (MP.made' l.length)).holds m' v :=
  Calls.mono (cloneTm_g hA h hn) fun e w' ⟨v, m', e1, hE, hL, hv⟩ => ⟨v, m', e1, touch_of hE hL, hv⟩

set_option maxHeartbeats 400000 in
theorem cloneAr_g {w : World} {m : Mem} {o_l : Option Addr} {c_l : Nat} {l : List Ar} (hA : Agree w m) (h_l : Ars m o_l l.length c_l l) (hn9 : l.length ≤ 100000000000) : FnG Tryd.prog 34 #[.slice o_l l.length c_l] [] w m (fun w' m' v => Loc [] w.heap.size [.mrowx v l.length 23 60 (MP.reads (fun m vs t => ArR m t vs) 23 l)] w' m' ∧ (MP.made' l.length).p m' v) := by
  have hb_l := h_l.big; have hc_l := h_l.cap
  refine fn_enter (vs := [_]) Tryd.func34 rfl rfl rfl fun a0 hfr0 => ?_
  have hst0 := st_enter hA (loc_nil [] _ w m)
  have hM : MLe m m := MLe.refl m
  refine seq_any fun _ hK1 => ?_
  refine rp0 hst0 hfr0 (.cons rfl (ob_assign rfl) <| .nil) ?_
  intro a1 w1 m1 hst1 hle1 hk1
  have hfr1 := hk1.fr (T' := [(0, _)]) (.old rfl rfl <| .nil)
  replace h_l := h_l.mono hle1
  clear hst0 hfr0 hk1
  refine hK1 _ _ ?_; clear hK1
  refine seq_any fun _ hK2 => ?_
  refine seq_any fun _ hK3 => ?_
  refine rp0 hst1 hfr1 (.cons rfl (ob_move rfl) <| .cons rfl (ob_slnil rfl Tryd.underlying25) <| .nil) ?_
  intro a2 w2 m2 hst2 hle2 hk2
  have hfr2 := hk2.fr (T' := [(0, _), (4, _)]) (.old rfl rfl <| .new rfl <| .nil)
  replace h_l := h_l.mono hle2
  clear hst1 hfr1 hk2
  refine hK3 _ _ ?_; clear hK3
  refine cond_any hfr2 rfl rfl (fun hb4 => ?_) (fun hb4 => ?_)
  · try simp only [nq1, nq2, nq3, nq4, nq5, nq6, nq7, nq8, nq9, u8_eq] at hb4
    have ho9 : o_l = none := by cases o_l with | none => rfl | some p => simp at hb4
    subst ho9
    have hl9 := h_l.none_nil
    subst hl9
    refine seq_any fun _ hK4 => ?_
    refine rp0 hst2 hfr2 (.cons rfl (ob_assign rfl) <| .nil) ?_
    intro a3 w3 m3 hst3 hle3 hk3
    have hfr3 := hk3.fr (T' := [(2, _)]) (.new rfl <| .nil)
    clear hst2 hfr2 hk3
    have hst9 := hst3.more (r := .mrowx (.slice none 0 0) 0 23 60 (MP.reads (fun m vs t => ArR m t vs) 23 [])) mrowx_nil List.nodup_nil (by simp [Res.blocks, mBlock])
    refine hK4 _ _ ?_; clear hK4
    refine wp_ret ?_
    repeat (with_reducible first | refine then_ret ?_ | refine block_ret ?_)
    exact fn_ret hst3 hfr3 rfl (.tmp rfl <| .nil) (⟨hst9.loc, (none, 0), rfl, Nat.le_refl _⟩)
  · try simp only [nq1, nq2, nq3, nq4, nq5, nq6, nq7, nq8, nq9, u8_eq] at hb4
    refine wp_skip ?_
    refine hK2 _ _ ?_; clear hK2
    refine seq_any fun _ hK6 => ?_
    replace hst2 := hst2.more (r := .free) trivial List.nodup_nil (by simp [Res.blocks])
    refine ra0 (tch := [(2, 0, (fun v => .mrowx v _ _ _ _))]) hst2 hfr2 (.cons rfl (ob_buildSlice0 Tryd.underlying25 Tryd.sizeOf60) <| .cons rfl (ob_move rfl) <| .consT rfl rfl (fun _ => rfl) rfl (ob_imgT 5 rfl rfl rfl fun y5 => ob_appendM0 (size := 23) (bytes := 352) rfl rfl Tryd.underlying25 Tryd.type60 rfl rfl rfl rfl (fun w m hK => h_l.mono (KC.le hK)) (by decide) (by simp only [maxLen]; omega) (by omega)) <| .consA 7 rfl rfl <| .nil) ?_
    intro a3 w3 m3 hst3 hle3 hk3
    have hfr3 := hk3.fr (T' := []) (.nil)
    obtain ⟨⟨om7, cm7⟩, e7, hcm7⟩ := hk3.ex 7 rfl
    replace hfr3 := hfr3.cons (hk3.same 2 rfl e7)
    replace hst3 := hst3.fin (L' := [_]) (.cons e7 <| .nil)
    clear hst2 hfr2 hk3
    refine hK6 _ _ ?_; clear hK6
    refine wp_ret ?_
    repeat (with_reducible first | refine then_ret ?_ | refine block_ret ?_)
    exact fn_ret hst3 hfr3 rfl (.tmp rfl <| .nil) (⟨hst3.loc, (om7, cm7), rfl, hcm7⟩)

theorem cloneAr_t {w : World} {m : Mem} {o : Option Addr} {c : Nat} {l : List Ar} (hA : Agree w m) (h : Ars m o l.length c l) (hn : l.length ≤ 100000000000) :
    Calls Tryd.prog 34 #[.slice o l.length c] w fun e w' => ∃ v m', e = .returned v ∧ Touch .free (.mrowx v l.length 23 60 (MP.reads (fun m vs t => ArR m t vs) 23 l)) w m w' m' ∧ (Kn.ex (MP.made' l.length)).holds m' v :=
  Calls.mono (cloneAr_g hA h hn) fun e w' ⟨v, m', e1, hE, hL, hv⟩ => ⟨v, m', e1, touch_of hE hL, hv⟩

set_option maxHeartbeats 800000 in
theorem scwith_c {w : World} {m : Mem} {g : Nat} {es : List (Str × Str)} {o_old : Option Addr} {c_old : Nat} {old : List Str} {o_now : Option Addr} {c_now : Nat} {now : List Str} (hA : Agree w m) (h_es : MapAt S m g (vS es)) (h_old : Strs m o_old old.length c_old old) (h_now : Strs m o_now now.length c_now now) (hln : old.length = now.length) : FnV Tryd.prog 36 #[.map (some g), .slice o_old old.length c_old, .slice o_now now.length c_now] w m (fun _ m v => (MP.mapAt S (vS (withM es old now))).p m v) := by
  have hb_old := h_old.big; have hc_old := h_old.cap
  have hb_now := h_now.big; have hc_now := h_now.cap
  refine fn_enter (vs := [_, _, _]) Tryd.func36 rfl rfl rfl fun a0 hfr0 => ?_
  have hst0 := st_enter hA (loc_nil [] _ w m)
  have hM : MLe m m := MLe.refl m
  refine seq_any fun _ hK1 => ?_
  refine rp0 hst0 hfr0 (.cons rfl (ob_assign rfl) <| .nil) ?_
  intro a1 w1 m1 hst1 hle1 hk1
  have hfr1 := hk1.fr (T' := [(0, _), (1, _), (2, _)]) (.old rfl rfl <| .old rfl rfl <| .old rfl rfl <| .nil)
  replace h_es := h_es.mono hle1
  replace h_old := h_old.mono hle1
  replace h_now := h_now.mono hle1
  replace hM := hM.trans hle1
  clear hst0 hfr0 hk1
  refine hK1 _ _ ?_; clear hK1
  refine seq_any fun _ hK2 => ?_
  replace hst1 := hst1.more (r := .free) trivial List.nodup_nil (by simp [Res.blocks])
  refine ra0 (tch := [(1, 0, (fun v => .map v (encs S (vS es))))]) hst1 hfr1 (.cons rfl (ob_move rfl) <| .consT rfl rfl (fun _ => rfl) rfl (ob_callT rfl (.cons rfl <| .nil) Tryd.call46 (κ := .ex (MP.mapv)) (fun σ w m hK hr hkn => by have hle_ := KC.le hK; have hA := KC.agree hK; have hM := hM.trans hle_; have h_es := h_es.mono hle_; have h_old := h_old.mono hle_; have h_now := h_now.mono hle_; exact mclone_t hA h_es)) <| .consA 11 rfl rfl <| .nil) ?_
  intro a2 w2 m2 hst2 hle2 hk2
  have hfr2 := hk2.fr (T' := [(1, _), (2, _)]) (.old rfl rfl <| .old rfl rfl <| .nil)
  obtain ⟨gm, e3, _⟩ := hk2.ex 11 rfl
  replace hfr2 := hfr2.cons (hk2.same 7 rfl e3)
  replace hst2 := hst2.fin (L' := [_]) (.cons e3 <| .nil)
  replace h_old := h_old.mono hle2
  replace h_now := h_now.mono hle2
  clear hst1 hfr1 hk2
  refine hK2 _ _ ?_; clear hK2
  refine seq_any fun _ hK4 => ?_
  refine seq_any fun _ hK5 => ?_
  refine rp0 hst2 hfr2 (.cons rfl (ob_move rfl) <| .cons rfl (ob_len rfl Tryd.underlying27) <| .cons rfl (ob_move rfl) <| .nil) ?_
  intro a3 w3 m3 hst3 hle3 hk3
  have hfr3 := hk3.fr (T' := [(2, _), (7, _), (12, _), (13, _), (14, _)]) (.old rfl rfl <| .old rfl rfl <| .new rfl <| .new rfl <| .new rfl <| .nil)
  replace h_old := h_old.mono hle3
  replace h_now := h_now.mono hle3
  clear hst2 hfr2 hk3
  refine hK5 _ _ ?_; clear hK5
  refine wp_block ?_
  refine loop_any (T := [(2, _), (7, _), (12, _), (13, _)]) (fun (y : Nat × List (Str × Str)) => ([(14, .int .i64 (y.1 : Int))] : List (Nat × Value))) (fun y => [.map (.map (some gm)) (encs S (vS y.2))]) (fun (y : Nat × List (Str × Str)) m => (fun (y : Nat) (ey : List (Str × Str)) => (y ≤ old.length) ∧ (withM es old now = withM ey (old.drop y) (now.drop y))) y.1 y.2) (fun y => old.length - y.1) ((0, es)) ⟨hst3, MLe.refl _, hfr3.sub (.cons rfl <| .cons rfl <| .cons rfl <| .cons rfl <| .cons rfl <| .nil), ⟨Nat.zero_le _, rfl⟩⟩ fun y a4 w4 m4 hh4 => ?_
  have hst4 := hh4.st; have hle4 := hh4.le; have hfr4 := hh4.fr; have hrel := hh4.rel; clear hh4
  replace h_old := h_old.mono hle4
  replace h_now := h_now.mono hle4
  clear hst3 hfr3
  obtain ⟨y, ey⟩ := y
  dsimp only at hrel hfr4 hst4
  obtain ⟨hyn, hj⟩ := hrel
  have hlh4 := hle4
  refine seq_any fun _ hK7 => ?_
  refine rp0 hst4 hfr4 (.cons rfl (ob_lss rfl rfl) <| .nil) ?_
  intro a5 w5 m5 hst5 hle5 hk5
  have hfr5 := hk5.fr (T' := [(14, _), (2, _), (7, _), (12, _), (13, _), (15, _)]) (.old rfl rfl <| .old rfl rfl <| .old rfl rfl <| .old rfl rfl <| .old rfl rfl <| .new rfl <| .nil)
  replace h_old := h_old.mono hle5
  replace h_now := h_now.mono hle5
  have hlh5 := hlh4.trans hle5
  clear hst4 hfr4 hk5
  refine hK7 _ _ ?_; clear hK7
  refine seq_any fun _ hK8 => ?_
  refine cond_any hfr5 rfl rfl (fun hb15 => ?_) (fun hb15 => ?_)
  · try simp only [nq1, nq2, nq3, nq4, nq5, nq6, nq7, nq8, nq9, u8_eq] at hb15
    refine wp_skip ?_
    refine hK8 _ _ ?_; clear hK8
    refine seq_any fun _ hK9 => ?_
    refine wp_block ?_
    refine seq_any fun _ hK10 => ?_
    obtain ⟨p11, vs11, x11, ho11, hd11, hm_x11, ht11, hcv11, hl11, hv11⟩ := h_old.nth (k := y) (by omega)
    cases ho11
    subst hv11
    refine rp0 hst5 hfr5 (.cons rfl (ob_move rfl) <| .cons rfl (ob_indexAddr (k := y) rfl rfl Tryd.underlying27 Tryd.sizeOf9 rfl (by omega)) <| .cons rfl (ob_load1' rfl hcv11 Tryd.isAgg9 rfl) <| .cons rfl (ob_assign rfl) <| .cons rfl (ob_assign rfl) <| .nil) ?_
    intro a6 w6 m6 hst6 hle6 hk6
    have hfr6 := hk6.fr (T' := [(14, _), (2, _), (7, _), (12, _), (13, _), (8, _), (9, _)]) (.old rfl rfl <| .old rfl rfl <| .old rfl rfl <| .old rfl rfl <| .old rfl rfl <| .new rfl <| .new rfl <| .nil)
    replace h_now := h_now.mono hle6
    have hlh6 := hlh5.trans hle6
    clear hst5 hfr5 hk6
    obtain ⟨p12, vs12, x12, ho12, hd12, hm_x12, ht12, hcv12, hl12, hv12⟩ := h_now.nth (k := y) (by omega)
    cases ho12
    subst hv12
    rw [hd11, hd12, withM] at hj
    refine hK10 _ _ ?_; clear hK10
    refine seq_any fun _ hK13 => ?_
    refine rp0 hst6 hfr6 (.cons rfl (ob_move rfl) <| .cons rfl (ob_sneq rfl rfl) <| .nil) ?_
    intro a7 w7 m7 hst7 hle7 hk7
    have hfr7 := hk7.fr (T' := [(14, _), (2, _), (7, _), (12, _), (13, _), (8, _), (9, _), (20, _)]) (.old rfl rfl <| .old rfl rfl <| .old rfl rfl <| .old rfl rfl <| .old rfl rfl <| .old rfl rfl <| .old rfl rfl <| .new rfl <| .nil)
    replace hcv12 := hcv12.mono hle7
    have hlh7 := hlh6.trans hle7
    clear hst6 hfr6 hk7
    refine hK13 _ _ ?_; clear hK13
    refine cond_any hfr7 rfl rfl (fun hb20 => ?_) (fun hb20 => ?_)
    · try simp only [nq1, nq2, nq3, nq4, nq5, nq6, nq7, nq8, nq9, u8_eq] at hb20
      rw [if_neg (show ¬ x11 = us from hb20)] at hj
      refine ra0 (tch := [(6, 0, (fun _ => .map _ _))]) hst7 hfr7 (.cons rfl (ob_move rfl) <| .cons rfl (ob_move rfl) <| .cons rfl (ob_move rfl) <| .cons rfl (ob_move rfl) <| .cons rfl (ob_indexAddr (k := y) rfl rfl Tryd.underlying27 Tryd.sizeOf9 rfl (by omega)) <| .cons rfl (ob_load1' rfl hcv12 Tryd.isAgg9 rfl) <| .consT rfl rfl (fun _ => rfl) rfl (ob_mapUpdate keys_S rfl rfl rfl Tryd.underlying66 Tryd.underlying9) <| .nil) ?_
      intro a8 w8 m8 hst8 hle8 hk8
      have hfr8 := hk8.fr (T' := [(14, _), (2, _), (7, _), (12, _), (13, _)]) (.old rfl rfl <| .old rfl rfl <| .old rfl rfl <| .old rfl rfl <| .old rfl rfl <| .nil)
      replace hst8 := hst8.fin (L' := [_]) (.cons rfl <| .nil)
      have hlh8 := hlh7.trans hle8
      clear hst7 hfr7 hk8
      rw [aset_vS] at hst8
      refine hK9 _ _ ?_; clear hK9
      refine rp0 hst8 hfr8 (.cons rfl (ob_add rfl rfl ⟨by omega, by omega⟩) <| .cons rfl (ob_move rfl) <| .nil) ?_
      intro a9 w9 m9 hst9 hle9 hk9
      have hfr9 := hk9.fr (T' := [(2, _), (7, _), (12, _), (13, _), (14, _)]) (.old rfl rfl <| .old rfl rfl <| .old rfl rfl <| .old rfl rfl <| .new rfl <| .nil)
      have hlh9 := hlh8.trans hle9
      clear hst8 hfr8 hk9
      exact ⟨(y + 1, (aput x11 x12 ey)), m9, by show old.length - (y + 1) < old.length - y; omega, ⟨hst9, hlh9, hfr9.sub (.cons rfl <| .cons rfl <| .cons rfl <| .cons rfl <| .cons rfl <| .nil), ⟨by show y + 1 ≤ old.length; omega, by rw [hj]⟩⟩⟩
    · try simp only [nq1, nq2, nq3, nq4, nq5, nq6, nq7, nq8, nq9, u8_eq] at hb20
      rw [if_pos (show x11 = us from hb20)] at hj
      refine wp_skip ?_
      refine hK9 _ _ ?_; clear hK9
      refine rp0 hst7 hfr7 (.cons rfl (ob_add rfl rfl ⟨by omega, by omega⟩) <| .cons rfl (ob_move rfl) <| .nil) ?_
      intro a8 w8 m8 hst8 hle8 hk8
      have hfr8 := hk8.fr (T' := [(2, _), (7, _), (12, _), (13, _), (14, _)]) (.old rfl rfl <| .old rfl rfl <| .old rfl rfl <| .old rfl rfl <| .new rfl <| .nil)
      have hlh8 := hlh7.trans hle8
      clear hst7 hfr7 hk8
      exact ⟨(y + 1, (ey)), m8, by show old.length - (y + 1) < old.length - y; omega, ⟨hst8, hlh8, hfr8.sub (.cons rfl <| .cons rfl <| .cons rfl <| .cons rfl <| .cons rfl <| .nil), ⟨by show y + 1 ≤ old.length; omega, by rw [hj]⟩⟩⟩
  · try simp only [nq1, nq2, nq3, nq4, nq5, nq6, nq7, nq8, nq9, u8_eq] at hb15
    have hge : y = old.length := by omega
    rw [List.drop_of_length_le (by omega), List.drop_of_length_le (by omega)] at hj
    have hfin : withM es old now = ey := by rw [hj]; simp only [withM]
    refine wp_exit ?_
    refine hK4 _ _ ?_; clear hK4
    refine seq_any fun _ hK14 => ?_
    refine rp0 hst5 hfr5 (.cons rfl (ob_move rfl) <| .cons rfl (ob_assign rfl) <| .nil) ?_
    intro a6 w6 m6 hst6 hle6 hk6
    have hfr6 := hk6.fr (T' := [(14, _), (6, _)]) (.old rfl rfl <| .new rfl <| .nil)
    have hlh6 := hlh5.trans hle6
    clear hst5 hfr5 hk6
    obtain ⟨m7, hle7, hst7, gF_M, eF_M, hm_M⟩ := hst6.freezeMap (k := 0) rfl
    simp only [List.set_cons_succ, List.set_cons_zero] at hst7
    injection eF_M with eF_M; injection eF_M with eF_M; subst eF_M
    have hfr7 := hfr6; obtain ⟨a7, rfl⟩ : ∃ a, a = a6 := ⟨_, rfl⟩; obtain ⟨w7, rfl⟩ : ∃ w, w = w6 := ⟨_, rfl⟩
    have hlh7 := hlh6.trans hle7
    clear hst6 hfr6
    refine hK14 _ _ ?_; clear hK14
    refine wp_ret ?_
    repeat (with_reducible first | refine then_ret ?_ | refine block_ret ?_)
    exact fn_ret hst7 hfr7 rfl (.tmp rfl <| .nil) (⟨gm, rfl, by rw [hfin]; exact hm_M⟩)

/-- The table of Itoa stands where it is laid. -/
abbrev Tab (w : World) : Prop := Go.Lib.TabIs Tryd.prog w "internal/strconv.uint64pow10" .u64 Go.Lib.pow10Tab
theorem tab_keep {W w : World} {mE m : Mem} (h : Tab W) (hX : ExtG [] W mE w m) : Tab w := by
  unfold Tab Go.Lib.TabIs World.var? at h ⊢
  cases hg : Tryd.prog.globalNamed "internal/strconv.uint64pow10" with
  | none => rw [hg] at h; cases h
  | some g =>
    rw [hg] at h
    simp only [Option.bind_some] at h ⊢
    cases hh : W.heap[g]? with
    | none => rw [hh] at h; cases h
    | some o => rw [hX.block g (lt_of_heap hh) (by simp), hh]; rw [hh] at h; exact h
/-- The block is not the table's. -/
def NotTab (r : Nat) : Prop := Tryd.prog.globalNamed "internal/strconv.uint64pow10" ≠ some r
theorem tab_keepG {G : List Nat} {W w : World} {mE m : Mem} (h : Tab W) (hX : ExtG G W mE w m) (hG : ∀ r ∈ G, NotTab r) : Tab w := by
  unfold Tab Go.Lib.TabIs World.var? at h ⊢
  unfold NotTab at hG
  cases hg : Tryd.prog.globalNamed "internal/strconv.uint64pow10" with
  | none => rw [hg] at h; cases h
  | some g =>
    rw [hg] at h hG
    simp only [Option.bind_some] at h ⊢
    have hnG : g ∉ G := fun hh => hG g hh rfl
    cases hh : W.heap[g]? with
    | none => rw [hh] at h; cases h
    | some o => rw [hX.block g (lt_of_heap hh) hnG, hh]; rw [hh] at h; exact h
theorem notTab_new {w : World} {r : Nat} (h : Tab w) (hr : w.heap.size ≤ r) : NotTab r := by
  unfold Tab Go.Lib.TabIs World.var? at h
  unfold NotTab
  intro e
  rw [e] at h
  simp only [Option.bind_some] at h
  rw [Array.getElem?_eq_none hr] at h; cases h
theorem itoa_c {w : World} {m : Mem} {n : Int} (hA : Agree w m) (hT : Tab w) (hn : InI64 n) : FnV Tryd.prog 45 #[.int .i64 n] w m fun _ _ v => v = S (Go.Lib.itoa n) :=
  fn_calls hA (Calls.mono (Tryd.strconv_Itoa n hn.1 hn.2 w hT) fun e w' ⟨e1, k, os, e2⟩ => ⟨e1, by rw [e2]; exact below_grow' w k os⟩)

theorem num_text (x : Str) (k : Nat) : (x ++ [39]) ++ Go.Lib.itoa (k : Int) = x ++ numT k := by
  unfold numT Go.Lib.itoa
  rw [if_neg (by omega)]
  simp

set_option maxHeartbeats 800000 in
theorem next_g {w : World} {m : Mem} {r n : Nat} {o_l : Option Addr} {c_l : Nat} {l : List Str} (hA : Agree w m) (hr : (Res.blk (.pointer (some ⟨r, 0, none⟩)) (.cells #[.int .i64 ((n : Nat) : Int)] 63)).holds w m) (h_l : Strs m o_l l.length c_l l) (hT : Tab w) (hnl : n + l.length ≤ 1000000000) (hsz : ∀ x ∈ l, x.length ≤ 1000000000) (hNT : NotTab r) : FnG Tryd.prog 35 #[.pointer (some ⟨r, 0, none⟩), .slice o_l l.length c_l] [r] w m (fun w' m' v => Loc [r] w.heap.size [.blk (.pointer (some ⟨r, 0, none⟩)) (.cells #[.int .i64 ((n + l.length : Nat) : Int)] 63)] w' m' ∧ (MP.strs (nextN n l)).p m' v) := by
  have hb_l := h_l.big; have hc_l := h_l.cap
  refine fn_enter (vs := [_, _]) Tryd.func35 rfl rfl rfl fun a0 hfr0 => ?_
  have hst0 := st_enter hA (loc_one hr (by simp [Res.blocks, ptrBlock]))
  have hM : MLe m m := MLe.refl m
  have hNTs : ∀ q ∈ [r], NotTab q := fun q hq => by rw [List.mem_singleton] at hq; rw [hq]; exact hNT
  refine seq_any fun _ hK1 => ?_
  refine rp0 hst0 hfr0 (.cons rfl (ob_assign rfl) <| .nil) ?_
  intro a1 w1 m1 hst1 hle1 hk1
  have hfr1 := hk1.fr (T' := [(0, _), (1, _)]) (.old rfl rfl <| .old rfl rfl <| .nil)
  replace h_l := h_l.mono hle1
  clear hst0 hfr0 hk1
  refine hK1 _ _ ?_; clear hK1
  refine seq_any fun _ hK2 => ?_
  refine rp0 hst1 hfr1 (.cons rfl (ob_assign rfl) <| .nil) ?_
  intro a2 w2 m2 hst2 hle2 hk2
  have hfr2 := hk2.fr (T' := [(0, _), (1, _), (5, _)]) (.old rfl rfl <| .old rfl rfl <| .new rfl <| .nil)
  replace h_l := h_l.mono hle2
  clear hst1 hfr1 hk2
  have hst2 := hst2.more (r := .row (.slice none 0 0) 0 1 9 []) ⟨rfl, .inl ⟨rfl, rfl⟩⟩ List.nodup_nil (by simp [Res.blocks, rowBlock])
  have hrow_O : RowAt m2 none (([] : List Str).map (fun x => S x)) := .inl rfl; have hcap_O : ([] : List Str).length ≤ 0 := Nat.le_refl _
  refine hK2 _ _ ?_; clear hK2
  refine seq_any fun _ hK3 => ?_
  refine seq_any fun _ hK4 => ?_
  refine rp0 hst2 hfr2 (.cons rfl (ob_move rfl) <| .cons rfl (ob_len rfl Tryd.underlying27) <| .cons rfl (ob_move rfl) <| .nil) ?_
  intro a3 w3 m3 hst3 hle3 hk3
  have hfr3 := hk3.fr (T' := [(0, _), (5, _), (8, _), (9, _), (10, _)]) (.old rfl rfl <| .old rfl rfl <| .new rfl <| .new rfl <| .new rfl <| .nil)
  replace h_l := h_l.mono hle3
  replace hrow_O := hrow_O.mono hle3
  clear hst2 hfr2 hk3
  refine hK4 _ _ ?_; clear hK4
  refine wp_block ?_
  refine loop_any (T := [(0, _), (8, _), (9, _)]) (fun (y : Nat × Option Addr × Nat × List Str) => ([(5, .slice y.2.1 y.2.2.2.length y.2.2.1), (10, .int .i64 (y.1 : Int))] : List (Nat × Value))) (fun y => [.blk (.pointer (some ⟨r, 0, none⟩)) (.cells #[.int .i64 ((n + y.1 : Nat) : Int)] 63), .row (.slice y.2.1 y.2.2.2.length y.2.2.1) y.2.2.2.length 1 9 (y.2.2.2.map (fun x => S x))]) (fun (y : Nat × Option Addr × Nat × List Str) m => (fun (y : Nat) (gao : Option Addr) (gap : Nat) (ga : List Str) => (y ≤ l.length) ∧ (RowAt m gao (ga.map (fun x => S x))) ∧ (ga.length ≤ gap) ∧ (nextN n l = ga ++ nextN (n + y) (l.drop y)) ∧ (ga.length = y)) y.1 y.2.1 y.2.2.1 y.2.2.2) (fun y => l.length - y.1) ((0, none, 0, ([] : List Str))) ⟨hst3, MLe.refl _, hfr3.sub (.cons rfl <| .cons rfl <| .cons rfl <| .cons rfl <| .cons rfl <| .nil), ⟨Nat.zero_le _, hrow_O, hcap_O, rfl, rfl⟩⟩ fun y a4 w4 m4 hh4 => ?_
  have hst4 := hh4.st; have hle4 := hh4.le; have hfr4 := hh4.fr; have hrel := hh4.rel; clear hh4
  replace h_l := h_l.mono hle4
  replace hrow_O := hrow_O.mono hle4
  clear hst3 hfr3
  obtain ⟨y, gao, gap, ga⟩ := y
  dsimp only at hrel hfr4 hst4
  obtain ⟨hyn, hrow_ga, hcap_ga, hlen_ga, hgl⟩ := hrel
  have hlh4 := hle4
  refine seq_any fun _ hK6 => ?_
  refine rp0 hst4 hfr4 (.cons rfl (ob_lss rfl rfl) <| .nil) ?_
  intro a5 w5 m5 hst5 hle5 hk5
  have hfr5 := hk5.fr (T' := [(5, _), (10, _), (0, _), (8, _), (9, _), (11, _)]) (.old rfl rfl <| .old rfl rfl <| .old rfl rfl <| .old rfl rfl <| .old rfl rfl <| .new rfl <| .nil)
  replace h_l := h_l.mono hle5
  replace hrow_O := hrow_O.mono hle5
  replace hrow_ga := hrow_ga.mono hle5
  have hlh5 := hlh4.trans hle5
  clear hst4 hfr4 hk5
  refine hK6 _ _ ?_; clear hK6
  refine seq_any fun _ hK7 => ?_
  refine cond_any hfr5 rfl rfl (fun hb11 => ?_) (fun hb11 => ?_)
  · try simp only [nq1, nq2, nq3, nq4, nq5, nq6, nq7, nq8, nq9, u8_eq] at hb11
    refine wp_skip ?_
    refine hK7 _ _ ?_; clear hK7
    refine seq_any fun _ hK8 => ?_
    refine wp_block ?_
    refine seq_any fun _ hK9 => ?_
    obtain ⟨p10, vs10, x10, ho10, hd10, hm_x10, ht10, hcv10, hl10, hv10⟩ := h_l.nth (k := y) (by omega)
    cases ho10
    subst hv10
    refine rp0 hst5 hfr5 (.cons rfl (ob_indexAddr (k := y) rfl rfl Tryd.underlying27 Tryd.sizeOf9 rfl (by omega)) <| .cons rfl (ob_load1' rfl hcv10 Tryd.isAgg9 rfl) <| .cons rfl (ob_assign rfl) <| .nil) ?_
    intro a6 w6 m6 hst6 hle6 hk6
    have hfr6 := hk6.fr (T' := [(5, _), (10, _), (0, _), (8, _), (9, _), (7, _)]) (.old rfl rfl <| .old rfl rfl <| .old rfl rfl <| .old rfl rfl <| .old rfl rfl <| .new rfl <| .nil)
    replace h_l := h_l.mono hle6
    replace hrow_O := hrow_O.mono hle6
    replace hrow_ga := hrow_ga.mono hle6
    replace hcv10 := hcv10.mono hle6
    have hlh6 := hlh5.trans hle6
    clear hst5 hfr5 hk6
    rw [hd10, nextN] at hlen_ga
    refine hK9 _ _ ?_; clear hK9
    refine seq_any fun _ hK11 => ?_
    refine ra0 (tch := [(7, 0, (fun _ => .blk _ _))]) hst6 hfr6 (.cons rfl (ob_move rfl) <| .cons rfl (ob_nilCheck rfl) <| .cons rfl (ob_fieldAddrO (off := 0) rfl Tryd.underlying63 rfl rfl Tryd.sizeOf3 rfl) <| .cons rfl (ob_loadL (j := 0) rfl rfl Tryd.isAgg3 rfl) <| .cons rfl (ob_add rfl rfl ⟨by omega, by omega⟩) <| .cons rfl (ob_nilCheck rfl) <| .cons rfl (ob_fieldAddrO (off := 0) rfl Tryd.underlying63 rfl rfl Tryd.sizeOf3 rfl) <| .consT rfl rfl (fun _ => rfl) rfl (ob_store rfl rfl rfl Tryd.sizeOf3 rfl rfl rfl) <| .nil) ?_
    intro a7 w7 m7 hst7 hle7 hk7
    have hfr7 := hk7.fr (T' := [(5, _), (10, _), (0, _), (8, _), (9, _), (7, _)]) (.old rfl rfl <| .old rfl rfl <| .old rfl rfl <| .old rfl rfl <| .old rfl rfl <| .old rfl rfl <| .nil)
    replace hst7 := hst7.fin (L' := [_, _]) (.cons rfl <| .nil)
    try simp only [List.take_succ_cons, List.take_zero, List.drop_succ_cons, List.drop_zero, List.cons_append, List.nil_append, List.append_nil, List.length_cons, List.length_nil, Nat.zero_add, Nat.reduceAdd] at hst7
    replace h_l := h_l.mono hle7
    replace hrow_O := hrow_O.mono hle7
    replace hrow_ga := hrow_ga.mono hle7
    replace hcv10 := hcv10.mono hle7
    have hlh7 := hlh6.trans hle7
    clear hst6 hfr6 hk7
    rw [show ((n + y : Nat) : Int) + 1 = ((n + (y + 1) : Nat) : Int) by omega] at hst7
    have hin9 : InI64 ((n + (y + 1) : Nat) : Int) := ⟨by omega, by omega⟩
    have hx9 := hsz _ hm_x10
    have hit9 : (Go.Lib.itoa ((n + (y + 1) : Nat) : Int)).length ≤ 21 := itoa_len hin9
    rw [show n + y + 1 = n + (y + 1) by omega, ← num_text] at hlen_ga
    refine hK11 _ _ ?_; clear hK11
    refine ra0 (tch := [(10, 1, (fun v => .row v _ _ _ _))]) hst7 hfr7 (.cons rfl (ob_move rfl) <| .cons rfl (ob_move rfl) <| .cons rfl (ob_sadd rfl rfl (by first | omega | (simp only [List.length_append, List.length_cons, List.length_nil, List.length_map]; omega))) <| .cons rfl (ob_move rfl) <| .cons rfl (ob_nilCheck rfl) <| .cons rfl (ob_fieldAddrO (off := 0) rfl Tryd.underlying63 rfl rfl Tryd.sizeOf3 rfl) <| .cons rfl (ob_loadL (j := 0) rfl rfl Tryd.isAgg3 rfl) <| .cons rfl (ob_callE rfl (.cons rfl <| .nil) Tryd.call45 (fun w m hK => by have hle_ := KC.le hK; have hA := KC.agree hK; have hT := tab_keepG hT hK.st.ext hNTs; have h_l := h_l.mono hle_; have hrow_O := hrow_O.mono hle_; have hrow_ga := hrow_ga.mono hle_; have hcv10 := hcv10.mono hle_; exact itoa_c hA hT (by assumption))) <| .cons rfl (ob_sadd rfl rfl (by first | omega | (simp only [List.length_append, List.length_cons, List.length_nil, List.length_map]; omega))) <| .cons rfl (ob_buildSlice (.cons rfl <| .nil) Tryd.underlying27 Tryd.sizeOf9 Tryd.zeroValue9 rfl rfl rfl rfl) <| .consT rfl rfl (fun _ => rfl) rfl (ob_imgT 30 rfl rfl rfl fun y30 => ob_append (size := 1) (bytes := 16) rfl rfl Tryd.underlying27 Tryd.type9 rfl rfl rfl rfl (fun w m hK => .inr ⟨_, rfl, hK.2⟩) rfl (by decide) rfl (by simp only [maxLen]; omega) (by omega)) <| .consA 31 rfl rfl <| .nil) ?_
    intro a8 w8 m8 hst8 hle8 hk8
    have hfr8 := hk8.fr (T' := [(10, _), (0, _), (8, _), (9, _)]) (.old rfl rfl <| .old rfl rfl <| .old rfl rfl <| .old rfl rfl <| .nil)
    obtain ⟨⟨O_12o, O_12p⟩, e13, hrow_O_12, hcap_O_12⟩ := hk8.ex 31 rfl
    replace e13 : envOf a8 31 = .slice O_12o (ga ++ [((x10 ++ [39]) ++ Go.Lib.itoa ((n + (y + 1) : Nat) : Int))]).length O_12p := by rw [e13]; refine congrArg (fun q => Value.slice _ q _) ?_; simp only [List.length_append, List.length_cons, List.length_nil]
    replace hfr8 := hfr8.cons (hk8.same 5 rfl e13)
    replace hst8 := hst8.fin (L' := [_, _]) (.cons e13 <| .nil)
    have en_O_12 : (ga).length + 1 = ((ga ++ [((x10 ++ [39]) ++ Go.Lib.itoa ((n + (y + 1) : Nat) : Int))])).length := by simp only [List.length_append, List.length_cons, List.length_nil]
    have em_O_12 : (ga).map (fun x => S x) ++ [S ((x10 ++ [39]) ++ Go.Lib.itoa ((n + (y + 1) : Nat) : Int))] = ((ga ++ [((x10 ++ [39]) ++ Go.Lib.itoa ((n + (y + 1) : Nat) : Int))])).map (fun x => S x) := by simp only [List.map_append, List.map_cons, List.map_nil]
    replace hst8 := hst8.row_eq (k := 1) rfl en_O_12 em_O_12
    simp only [List.set_cons_succ, List.set_cons_zero] at hst8
    change RowAt m8 O_12o ((ga).map (fun x => S x) ++ [S ((x10 ++ [39]) ++ Go.Lib.itoa ((n + (y + 1) : Nat) : Int))]) at hrow_O_12; rw [em_O_12] at hrow_O_12; change (ga).length + 1 ≤ O_12p at hcap_O_12; rw [en_O_12] at hcap_O_12
    have hlh8 := hlh7.trans hle8
    clear hst7 hfr7 hk8
    refine hK8 _ _ ?_; clear hK8
    refine rp0 hst8 hfr8 (.cons rfl (ob_add rfl rfl ⟨by omega, by omega⟩) <| .cons rfl (ob_move rfl) <| .nil) ?_
    intro a9 w9 m9 hst9 hle9 hk9
    have hfr9 := hk9.fr (T' := [(0, _), (8, _), (9, _), (5, _), (10, _)]) (.old rfl rfl <| .old rfl rfl <| .old rfl rfl <| .old rfl rfl <| .new rfl <| .nil)
    replace hrow_O_12 := hrow_O_12.mono hle9
    have hlh9 := hlh8.trans hle9
    clear hst8 hfr8 hk9
    exact ⟨(y + 1, O_12o, O_12p, (ga ++ [((x10 ++ [39]) ++ Go.Lib.itoa ((n + (y + 1) : Nat) : Int))])), m9, by show l.length - (y + 1) < l.length - y; omega, ⟨hst9, hlh9, hfr9.sub (.cons rfl <| .cons rfl <| .cons rfl <| .cons rfl <| .cons rfl <| .nil), ⟨by show y + 1 ≤ l.length; omega, hrow_O_12, hcap_O_12, by rw [hlen_ga]; show _ = (ga ++ [((x10 ++ [39]) ++ Go.Lib.itoa ((n + (y + 1) : Nat) : Int))]) ++ nextN (n + (y + 1)) (l.drop (y + 1)); simp, by show (ga ++ [((x10 ++ [39]) ++ Go.Lib.itoa ((n + (y + 1) : Nat) : Int))]).length = y + 1; rw [List.length_append, hgl]; rfl⟩⟩⟩
  · try simp only [nq1, nq2, nq3, nq4, nq5, nq6, nq7, nq8, nq9, u8_eq] at hb11
    have hge : y = l.length := by omega
    rw [List.drop_of_length_le (by omega), nextN, List.append_nil] at hlen_ga
    refine wp_exit ?_
    refine hK3 _ _ ?_; clear hK3
    refine seq_any fun _ hK14 => ?_
    refine rp0 hst5 hfr5 (.cons rfl (ob_move rfl) <| .cons rfl (ob_assign rfl) <| .nil) ?_
    intro a6 w6 m6 hst6 hle6 hk6
    have hfr6 := hk6.fr (T' := [(5, _), (10, _), (4, _)]) (.old rfl rfl <| .old rfl rfl <| .new rfl <| .nil)
    replace hrow_ga := hrow_ga.mono hle6
    have hlh6 := hlh5.trans hle6
    clear hst5 hfr5 hk6
    have hs_O : Strs m6 gao (ga).length gap ga := Strs.of_row (by simpa using hrow_ga) rfl hcap_ga (by omega)
    refine hK14 _ _ ?_; clear hK14
    refine wp_ret ?_
    repeat (with_reducible first | refine then_ret ?_ | refine block_ret ?_)
    exact fn_ret hst6 hfr6 rfl (.tmp rfl <| .nil) (⟨by have h9 := (hst6.take 1).loc; rw [hge] at h9; exact h9, (_, _), by rw [hlen_ga]; rfl, by rw [hlen_ga]; exact hs_O⟩)

theorem next_t {w : World} {m : Mem} {r n : Nat} {o : Option Addr} {c : Nat} {l : List Str} (hA : Agree w m) (hr : (Res.blk (.pointer (some ⟨r, 0, none⟩)) (.cells #[.int .i64 ((n : Nat) : Int)] 63)).holds w m) (h : Strs m o l.length c l) (hT : Tab w) (hnl : n + l.length ≤ 1000000000) (hsz : ∀ x ∈ l, x.length ≤ 1000000000) (hNT : NotTab r) :
    Calls Tryd.prog 35 #[.pointer (some ⟨r, 0, none⟩), .slice o l.length c] w fun e w' => ∃ v m', e = .returned v ∧ Touch (Res.blk (.pointer (some ⟨r, 0, none⟩)) (.cells #[.int .i64 ((n : Nat) : Int)] 63)) (Res.blk (.pointer (some ⟨r, 0, none⟩)) (.cells #[.int .i64 ((n + l.length : Nat) : Int)] 63)) w m w' m' ∧ (Kn.ex (MP.strs (nextN n l))).holds m' v :=
  Calls.mono (next_g hA hr h hT hnl hsz hNT) fun e w' ⟨v, m', e1, hE, hL, hv⟩ => ⟨v, m', e1, touch_of hE hL, hv⟩
theorem next1_t {w : World} {m : Mem} {r n : Nat} {o : Option Addr} {c : Nat} {l : List Str} (hA : Agree w m) (hr : (Res.blk (.pointer (some ⟨r, 0, none⟩)) (.cells #[.int .i64 ((n : Nat) : Int)] 63)).holds w m) (h : Strs m o l.length c l) (h0 : 0 < l.length) (hT : Tab w) (hnl : n + l.length ≤ 1000000000) (hsz : ∀ x ∈ l, x.length ≤ 1000000000) (hNT : NotTab r) :
    Calls Tryd.prog 35 #[.pointer (some ⟨r, 0, none⟩), .slice o l.length c] w fun e w' => ∃ v m', e = .returned v ∧ Touch (Res.blk (.pointer (some ⟨r, 0, none⟩)) (.cells #[.int .i64 ((n : Nat) : Int)] 63)) (Res.blk (.pointer (some ⟨r, 0, none⟩)) (.cells #[.int .i64 ((n + l.length : Nat) : Int)] 63)) w m w' m' ∧ (Kn.ex (MP.strsP (nextN n l))).holds m' v :=
  Calls.mono (next_t hA hr h hT hnl hsz hNT) fun e w' ⟨v, m', e1, ht, hv⟩ => ⟨v, m', e1, ht, MP.strs_P (by rw [nextN_len]; exact h0) hv⟩

end Go.Proofs.YteamjgbhcjojaaaDoor
