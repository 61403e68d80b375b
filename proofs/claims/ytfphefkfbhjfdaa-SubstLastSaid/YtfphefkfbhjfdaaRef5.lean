/-
  brocaderef05: what is said, as the document has it. Conditions: those of each theorem.
-/
import Derived.Test.YtfphefkfbhjfdaaSubst2
namespace Go.Proofs.Ytfphefkfbhjfdaa
set_option linter.all false
set_option maxRecDepth 4000
open Go.RowKit
abbrev RI : Mem → List Value → Int → Prop := fun _ vs x => vs = [Value.int .i64 x]
abbrev Rws (m : Mem) (o : Option Addr) (n c : Nat) (l : List Rw) : Prop := Sl (fun m vs t => RwR m t vs) 2 m o n c l
theorem Rws.mono {m m' : Mem} {o : Option Addr} {n c : Nat} {l : List Rw} (h : Rws m o n c l) (hm : MLe m m') : Rws m' o n c l := Sl.mono h (fun _ _ e => e.mono hm) hm
/-- The reference's: numbers and things, each in a list. -/
abbrev rsV (s : Sub) (y : ((Option Addr × Nat) × (Option Addr × Nat)) × ((Option Addr × Nat) × (Option Addr × Nat))) : List Value := [.slice y.1.1.1 (s.ts.map Prod.fst).length y.1.1.2, .slice y.1.2.1 (s.ts.map Prod.snd).length y.1.2.2, .slice y.2.1.1 (s.rs.map Prod.fst).length y.2.1.2, .slice y.2.2.1 (s.rs.map Prod.snd).length y.2.2.2]
def RSubR (m : Mem) (s : Sub) (vs : List Value) : Prop := ∃ y, vs = rsV s y ∧ Ints m y.1.1.1 (s.ts.map Prod.fst).length y.1.1.2 (s.ts.map Prod.fst) ∧ Tys m y.1.2.1 (s.ts.map Prod.snd).length y.1.2.2 (s.ts.map Prod.snd) ∧ Ints m y.2.1.1 (s.rs.map Prod.fst).length y.2.1.2 (s.rs.map Prod.fst) ∧ Rws m y.2.2.1 (s.rs.map Prod.snd).length y.2.2.2 (s.rs.map Prod.snd)
theorem RSubR.mono {m m' : Mem} {s : Sub} {vs : List Value} (h : RSubR m s vs) (hm : MLe m m') : RSubR m' s vs := by obtain ⟨y, e, h1, h2, h3, h4⟩ := h; exact ⟨y, e, h1.mono hm, h2.mono hm, h3.mono hm, h4.mono hm⟩
def MP.rsub (s : Sub) : MP := MP.mem (fun y => .agg (rsV s y).toArray) (fun y m => RSubR m s (rsV s y)) fun hm h => h.mono hm
/-- One of them is said anew: it stands last. -/
def rset {α : Type} (n : Int) (x : α) (l : List (Int × α)) : List (Int × α) := (l.filter fun p => !decide (p.1 = n)) ++ [(n, x)]
def others {α : Type} (n : Int) (l : List (Int × α)) : List (Int × α) := l.filter fun p => !decide (p.1 = n)
theorem others_in {α : Type} {n : Int} {l : List (Int × α)} {p : Int × α} {y : Nat} (hp : l[y]? = some p) (h : ¬ p.1 = n) : others n (l.take (y + 1)) = others n (l.take y) ++ [p] := by
  have hy := (List.getElem?_eq_some_iff.1 hp).1
  rw [List.take_succ, hp]; unfold others; rw [List.filter_append]; simp [h]
theorem others_out {α : Type} {n : Int} {l : List (Int × α)} {p : Int × α} {y : Nat} (hp : l[y]? = some p) (h : p.1 = n) : others n (l.take (y + 1)) = others n (l.take y) := by
  rw [List.take_succ, hp]; unfold others; rw [List.filter_append]; simp [h]
theorem others_len {α : Type} (n : Int) (l : List (Int × α)) : (others n l).length ≤ l.length := List.length_filter_le _ _
theorem at_map {α β : Type} {f : α → β} {l : List α} {y : Nat} {x : β} {p : α} (hp : l[y]? = some p) (hd : (l.map f).drop y = x :: (l.map f).drop (y + 1)) : x = f p := by
  have h : (l.map f)[y]? = some x := by rw [← List.head?_drop, hd]; rfl
  rw [List.getElem?_map, hp] at h; injection h with h; exact h.symm
set_option maxHeartbeats 1600000 in
theorem rsetType_c {w : World} {m : Mem} {s : Sub} {vs_s : List Value} {n : Int} {x : Ty} {vs_x : List Value} (hA : Agree w m) (h_s : RSubR m s vs_s) (h_x : TyR m x vs_x) (hl : s.ts.length ≤ 1000000) : FnV Try.prog 26 #[.agg vs_s.toArray, .int .i64 n, .agg vs_x.toArray] w m (fun _ m v => (MP.rsub ⟨rset n x s.ts, s.rs⟩).p m v) := by
  obtain ⟨⟨⟨⟨oA_s, cA_s⟩, oB_s, cB_s⟩, ⟨oC_s, cC_s⟩, oD_s, cD_s⟩, rfl, hqa_s, hqb_s, hqc_s, hqd_s⟩ := id h_s
  have hgb_s := hqa_s.big; have hgd_s := hqc_s.big; simp only [List.length_map] at hgb_s hgd_s
  obtain ⟨o_x, c_x, oL_x, cL_x, rfl, hk_x, hs_x, hi_x, hj_x, hr_x⟩ := h_x.open_
  have hbg_x := hk_x.big; have hcp_x := hk_x.cap; have hbs_x := hs_x.big; have hcs_x := hs_x.cap
  have hrw_x : RwR _ ⟨x.labels, x.rv⟩ _ := ⟨_, _, rfl, hs_x, hr_x⟩
  refine fn_enter (vs := [_, _, _]) Try.func26 rfl rfl rfl fun a0 hfr0 => ?_
  have hst0 := st_enter hA (loc_nil [] _ w m)
  have hM : MLe m m := MLe.refl m
  have hol := others_len n s.ts
  refine seq_any fun _ hK1 => ?_
  replace hst0 := hst0.more (r := .free) trivial List.nodup_nil (by simp [Res.blocks])
  refine ra0 (tch := [(2, 0, (fun v => .blk v _))]) hst0 hfr0 (.cons rfl (ob_box rfl rfl) <| .cons rfl (ob_box rfl rfl) <| .consT rfl rfl (fun _ => rfl) rfl (ob_allocL Try.zeroValue40 rfl) <| .nil) ?_
  intro a1 w1 m1 hst1 hle1 hk1
  have hfr1 := hk1.fr (T' := [(1, _)]) (.old rfl rfl <| .nil)
  obtain ⟨g2, e2, hc3⟩ := hk1.ex 3 rfl
  replace hfr1 := hfr1.cons e2
  obtain ⟨g3, e3, hc5⟩ := hk1.ex 5 rfl
  replace hfr1 := hfr1.cons e3
  obtain ⟨gT, e4, _⟩ := hk1.ex 6 rfl
  replace hfr1 := hfr1.cons e4
  replace hst1 := hst1.fin (L' := [_]) (.cons e4 <| .nil)
  replace hqa_s := hqa_s.mono hle1
  replace hqb_s := hqb_s.mono hle1
  replace hqc_s := hqc_s.mono hle1
  replace hqd_s := hqd_s.mono hle1
  replace h_x := h_x.mono hle1
  clear hst0 hfr0 hk1
  refine hK1 _ _ ?_; clear hK1
  refine seq_any fun _ hK5 => ?_
  replace hst1 := hst1.more (r := .free) trivial List.nodup_nil (by simp [Res.blocks])
  refine ra0 (tch := [(5, 1, (fun v => .blk v _)), (6, 1, (fun v => .blk v _))]) hst1 hfr1 (.cons rfl (ob_fieldAddrO (off := 2) rfl Try.underlying40 rfl rfl Try.sizeOf37 rfl) <| .cons rfl (ob_load1 rfl hc3 Try.isAgg37 rfl) <| .cons rfl (ob_fieldAddrO (off := 3) rfl Try.underlying40 rfl rfl Try.sizeOf38 rfl) <| .cons rfl (ob_load1 rfl hc3 Try.isAgg38 rfl) <| .cons rfl (ob_buildS (.cons rfl <| .cons rfl <| .nil) Try.underlying40 Try.zeroValue40 (.cons Try.sizeOf37 <| .cons Try.sizeOf23 <| .cons Try.sizeOf37 <| .cons Try.sizeOf38 <| .nil) rfl) <| .consT rfl rfl (fun _ => rfl) rfl (ob_allocL Try.zeroValue40 rfl) <| .consT rfl rfl (fun _ => rfl) rfl (ob_imgT 7 rfl rfl rfl fun y7 => ob_storeF rfl rfl rfl rfl rfl Try.sizeOf40 rfl rfl rfl) <| .nil) ?_
  intro a2 w2 m2 hst2 hle2 hk2
  have hfr2 := hk2.fr (T' := [(1, _), (3, _), (5, _), (6, _)]) (.old rfl rfl <| .old rfl rfl <| .old rfl rfl <| .old rfl rfl <| .nil)
  obtain ⟨gB, e6, _⟩ := hk2.ex 7 rfl
  replace hfr2 := hfr2.cons e6
  replace hst2 := hst2.fin (L' := [_, _]) (.cons e6 <| .cons e6 <| .nil)
  try simp only [List.take_succ_cons, List.take_zero, List.drop_succ_cons, List.drop_zero, List.cons_append, List.nil_append, List.append_nil, List.length_cons, List.length_nil, Nat.zero_add, Nat.reduceAdd] at hst2
  replace hqa_s := hqa_s.mono hle2
  replace hqb_s := hqb_s.mono hle2
  replace hqc_s := hqc_s.mono hle2
  replace hqd_s := hqd_s.mono hle2
  replace h_x := h_x.mono hle2
  replace hc3 := hc3.mono hle2
  replace hc5 := hc5.mono hle2
  clear hst1 hfr1 hk2
  have hst2 := hst2.more (r := .rowx (.slice none 0 0) 0 1 3 (MP.reads RI 1 [])) rowx_new List.nodup_nil (by simp [Res.blocks, rowBlock])
  have hsl_V : Ints m2 none ([] : List Int).length 0 ([] : List Int) := Sl.empty
  have hst2 := hst2.more (r := .rowx (.slice none 0 0) 0 6 28 (MP.reads (fun m vs t => TyR m t vs) 6 [])) rowx_new List.nodup_nil (by simp [Res.blocks, rowBlock])
  have hsl_Y : Tys m2 none ([] : List Ty).length 0 ([] : List Ty) := Sl.empty
  refine hK5 _ _ ?_; clear hK5
  refine seq_any fun _ hK7 => ?_
  refine seq_any fun _ hK8 => ?_
  refine rp0 hst2 hfr2 (.cons rfl (ob_assign rfl) <| .nil) ?_
  intro a3 w3 m3 hst3 hle3 hk3
  have hfr3 := hk3.fr (T' := [(1, _), (3, _), (5, _), (6, _), (7, _), (8, _)]) (.old rfl rfl <| .old rfl rfl <| .old rfl rfl <| .old rfl rfl <| .old rfl rfl <| .new rfl <| .nil)
  replace hqa_s := hqa_s.mono hle3
  replace hqb_s := hqb_s.mono hle3
  replace hqc_s := hqc_s.mono hle3
  replace hqd_s := hqd_s.mono hle3
  replace h_x := h_x.mono hle3
  replace hc3 := hc3.mono hle3
  replace hc5 := hc5.mono hle3
  replace hsl_V := hsl_V.mono hle3
  replace hsl_Y := hsl_Y.mono hle3
  clear hst2 hfr2 hk3
  refine hK8 _ _ ?_; clear hK8
  refine wp_block ?_
  refine loop_any (T := [(1, _), (3, _), (5, _), (6, _), (7, _)]) (fun (y : Nat × Option Addr × Nat × List Int × Option Addr × Nat × List Ty) => ([(8, .int .i64 (y.1 : Int))] : List (Nat × Value))) (fun y => [_, .blk (.pointer (some ⟨gB, 0, none⟩)) (.cells ([.slice y.2.1 y.2.2.2.1.length y.2.2.1, .slice y.2.2.2.2.1 y.2.2.2.2.2.2.length y.2.2.2.2.2.1, .slice oC_s (s.rs.map Prod.fst).length cC_s, .slice oD_s (s.rs.map Prod.snd).length cD_s] : List Value).toArray 40), .rowx (nz (.slice y.2.1 y.2.2.2.1.length y.2.2.1)) y.2.2.2.1.length 1 3 (MP.reads RI 1 y.2.2.2.1), .rowx (nz (.slice y.2.2.2.2.1 y.2.2.2.2.2.2.length y.2.2.2.2.2.1)) y.2.2.2.2.2.2.length 6 28 (MP.reads (fun m vs t => TyR m t vs) 6 y.2.2.2.2.2.2)]) (fun (y : Nat × Option Addr × Nat × List Int × Option Addr × Nat × List Ty) m => (fun (y : Nat) (gvo : Option Addr) (gvp : Nat) (gv : List Int) (gyo : Option Addr) (gyp : Nat) (gy : List Ty) => (y ≤ (s.ts.map Prod.fst).length) ∧ (Ints m gvo gv.length gvp gv) ∧ (gv = (others n (s.ts.take y)).map Prod.fst) ∧ (Tys m gyo gy.length gyp gy) ∧ (gy = (others n (s.ts.take y)).map Prod.snd)) y.1 y.2.1 y.2.2.1 y.2.2.2.1 y.2.2.2.2.1 y.2.2.2.2.2.1 y.2.2.2.2.2.2) (fun y => (s.ts.map Prod.fst).length - y.1) ((0, none, 0, ([] : List Int), none, 0, ([] : List Ty))) ⟨hst3, MLe.refl _, hfr3.sub (.cons rfl <| .cons rfl <| .cons rfl <| .cons rfl <| .cons rfl <| .cons rfl <| .nil), ⟨Nat.zero_le _, hsl_V, rfl, hsl_Y, rfl⟩⟩ fun y a4 w4 m4 hh4 => ?_
  have hst4 := hh4.st; have hle4 := hh4.le; have hfr4 := hh4.fr; have hrel := hh4.rel; clear hh4
  replace hqa_s := hqa_s.mono hle4
  replace hqb_s := hqb_s.mono hle4
  replace hqc_s := hqc_s.mono hle4
  replace hqd_s := hqd_s.mono hle4
  replace h_x := h_x.mono hle4
  replace hc3 := hc3.mono hle4
  replace hc5 := hc5.mono hle4
  clear hst3 hfr3
  obtain ⟨y, gvo, gvp, gv, gyo, gyp, gy⟩ := y
  dsimp only at hrel hfr4 hst4
  obtain ⟨hyn, hsl_gv, hlen_gv, hsl_gy, hlen_gy⟩ := hrel
  have hot9 := others_len n (s.ts.take y)
  rw [List.length_take] at hot9
  have hgv9 : gv.length ≤ 1000000 := by rw [hlen_gv, List.length_map]; omega
  have hgy9 : gy.length ≤ 1000000 := by rw [hlen_gy, List.length_map]; omega
  have hlh4 := hle4
  refine seq_any fun _ hK10 => ?_
  refine seq_any fun _ hK11 => ?_
  refine rp0 hst4 hfr4 (.cons rfl (ob_move rfl) <| .cons rfl (ob_fieldAddrO (off := 0) rfl Try.underlying40 rfl rfl Try.sizeOf37 rfl) <| .cons rfl (ob_load1 rfl hc3 Try.isAgg37 rfl) <| .cons rfl (ob_len rfl Try.underlying37) <| .cons rfl (ob_lss rfl rfl) <| .nil) ?_
  intro a5 w5 m5 hst5 hle5 hk5
  have hfr5 := hk5.fr (T' := [(8, _), (1, _), (3, _), (5, _), (6, _), (7, _), (18, _)]) (.old rfl rfl <| .old rfl rfl <| .old rfl rfl <| .old rfl rfl <| .old rfl rfl <| .old rfl rfl <| .new rfl <| .nil)
  replace hqa_s := hqa_s.mono hle5
  replace hqb_s := hqb_s.mono hle5
  replace hqc_s := hqc_s.mono hle5
  replace hqd_s := hqd_s.mono hle5
  replace h_x := h_x.mono hle5
  replace hc3 := hc3.mono hle5
  replace hc5 := hc5.mono hle5
  replace hsl_gv := hsl_gv.mono hle5
  replace hsl_gy := hsl_gy.mono hle5
  have hlh5 := hlh4.trans hle5
  clear hst4 hfr4 hk5
  refine hK11 _ _ ?_; clear hK11
  refine cond_any hfr5 rfl rfl (fun hb18 => ?_) (fun hb18 => ?_)
  · try simp only [nq1, nq2, nq3, nq4, nq5, nq6, nq7, nq8, nq9, u8_eq] at hb18
    refine wp_skip ?_
    refine hK10 _ _ ?_; clear hK10
    refine seq_any fun _ hK12 => ?_
    refine wp_block ?_
    refine seq_any fun _ hK13 => ?_
    have hyl : y < s.ts.length := by rw [← List.length_map (f := Prod.fst)]; omega
    obtain ⟨p9, hp9⟩ : ∃ p, s.ts[y]? = some p := ⟨_, List.getElem?_eq_getElem hyl⟩
    have hyl2 : y < (s.ts.map Prod.snd).length := by rw [List.length_map]; exact hyl
    obtain ⟨p14, vs14, x14, ho14, hd14, hm_x14, ht14, hcv14, hl14, hv14⟩ := hqa_s.nth (k := y) (by omega)
    cases ho14
    subst hv14
    refine rp0 hst5 hfr5 (.cons rfl (ob_fieldAddrO (off := 0) rfl Try.underlying40 rfl rfl Try.sizeOf37 rfl) <| .cons rfl (ob_load1 rfl hc3 Try.isAgg37 rfl) <| .cons rfl (ob_move rfl) <| .cons rfl (ob_indexAddr (k := y) rfl rfl Try.underlying37 Try.sizeOf3 rfl (by omega)) <| .cons rfl (ob_load1' rfl hcv14 Try.isAgg3 rfl) <| .cons rfl (ob_move rfl) <| .cons rfl (ob_neq rfl rfl) <| .nil) ?_
    intro a6 w6 m6 hst6 hle6 hk6
    have hfr6 := hk6.fr (T' := [(8, _), (1, _), (3, _), (5, _), (6, _), (7, _), (27, _)]) (.old rfl rfl <| .old rfl rfl <| .old rfl rfl <| .old rfl rfl <| .old rfl rfl <| .old rfl rfl <| .new rfl <| .nil)
    replace hqb_s := hqb_s.mono hle6
    replace hc3 := hc3.mono hle6
    replace hsl_gv := hsl_gv.mono hle6
    replace hsl_gy := hsl_gy.mono hle6
    replace hcv14 := hcv14.mono hle6
    have hlh6 := hlh5.trans hle6
    clear hst5 hfr5 hk6
    have e9 := at_map hp9 hd14
    refine hK13 _ _ ?_; clear hK13
    refine cond_any hfr6 rfl rfl (fun hb27 => ?_) (fun hb27 => ?_)
    · try simp only [nq1, nq2, nq3, nq4, nq5, nq6, nq7, nq8, nq9, u8_eq] at hb27
      have hoi := others_in (n := n) hp9 (by rw [← e9]; exact hb27)
      refine seq_any fun _ hK15 => ?_
      refine region_any (tch := [(8, 2, (fun v => .rowx (nz v) _ _ _ _)), (10, 1, (fun u => .blk _ (.cells (_ ++ [u] ++ _).toArray _)))]) (fun _ => mixed) hst6 hfr6 (by kernel_rfl) (by kernel_rfl) (by kernel_rfl) (.cons rfl (ob_fieldAddrO (off := 0) rfl Try.underlying40 rfl rfl Try.sizeOf37 rfl) <| .cons rfl (ob_loadL (j := 1) rfl rfl Try.isAgg37 rfl) <| .cons rfl (ob_fieldAddrO (off := 0) rfl Try.underlying40 rfl rfl Try.sizeOf37 rfl) <| .cons rfl (ob_load1 rfl hc3 Try.isAgg37 rfl) <| .cons rfl (ob_move rfl) <| .cons rfl (ob_indexAddr (k := y) rfl rfl Try.underlying37 Try.sizeOf3 rfl (by omega)) <| .cons rfl (ob_load1' rfl hcv14 Try.isAgg3 rfl) <| .cons rfl (ob_buildSlice (.cons rfl <| .nil) Try.underlying37 Try.sizeOf3 Try.zeroValue3 rfl rfl rfl rfl) <| .consT rfl rfl (fun _ => rfl) rfl (ob_imgT 35 rfl rfl rfl fun y35 => ob_appendX (size := 1) (bytes := 8) (l := gv) (l' := [x14]) rfl rfl (fun _ => by first | exact .inl rfl | exact .inr (.inl rfl)) Try.underlying37 Try.type3 rfl rfl rfl rfl (fun w m hK => Sl.one (vs := [_]) hK.2 rfl rfl) rfl (by decide) (by simp only [maxLen]; omega) (by omega)) <| .cons rfl (ob_fieldAddrO (off := 0) rfl Try.underlying40 rfl rfl Try.sizeOf37 rfl) <| .consT rfl rfl (fun _ => rfl) rfl (ob_imgT 36 rfl rfl rfl fun y36 => ob_storeV rfl rfl rfl rfl rfl Try.sizeOf37 rfl rfl rfl) <| .nil) ?_
      intro a7 w7 m7 hst7 hle7 hk7
      have hfr7 := hk7.fr (T' := [(8, _), (1, _), (3, _), (5, _), (6, _), (7, _)]) (.old rfl rfl <| .old rfl rfl <| .old rfl rfl <| .old rfl rfl <| .old rfl rfl <| .old rfl rfl <| .nil)
      obtain ⟨⟨V_16o, V_16p⟩, e17, hsl_V_16⟩ := hk7.ex 36 rfl
      replace hst7 := hst7.fin (L' := [_, _, _, _]) (.cons e17 <| .cons e17 <| .nil)
      try simp only [List.take_succ_cons, List.take_zero, List.drop_succ_cons, List.drop_zero, List.cons_append, List.nil_append, List.append_nil, List.length_cons, List.length_nil, Nat.zero_add, Nat.reduceAdd] at hst7
      replace hqb_s := hqb_s.mono hle7
      replace hc3 := hc3.mono hle7
      have hlh7 := hlh6.trans hle7
      clear hst6 hfr6 hk7
      replace hsl_V_16 : Ints m7 V_16o (gv ++ [x14]).length V_16p (gv ++ [x14]) := hsl_V_16
      refine hK15 _ _ ?_; clear hK15
      obtain ⟨p18, vs18, x18, ho18, hd18, hm_x18, ht18, hcv18, hl18, hv18⟩ := hqb_s.nth (k := y) (by omega)
      cases ho18
      obtain ⟨o18, c18, oL18, cL18, rfl, hkd18, hs18, hi18, hj18, hr18⟩ := hv18.open_
      have hbg18 := hkd18.big; have hcp18 := hkd18.cap; have hbs18 := hs18.big; have hcs18 := hs18.cap
      have hrw18 : RwR _ ⟨x18.labels, x18.rv⟩ _ := ⟨_, _, rfl, hs18, hr18⟩
      refine region_any (tch := [(8, 3, (fun v => .rowx (nz v) _ _ _ _)), (10, 1, (fun u => .blk _ (.cells (_ ++ [u] ++ _).toArray _)))]) (fun _ => mixed) hst7 hfr7 (by kernel_rfl) (by kernel_rfl) (by kernel_rfl) (.cons rfl (ob_fieldAddrO (off := 1) rfl Try.underlying40 rfl rfl Try.sizeOf23 rfl) <| .cons rfl (ob_loadL (j := 1) rfl rfl Try.isAgg23 rfl) <| .cons rfl (ob_fieldAddrO (off := 1) rfl Try.underlying40 rfl rfl Try.sizeOf23 rfl) <| .cons rfl (ob_load1 rfl hc3 Try.isAgg23 rfl) <| .cons rfl (ob_move rfl) <| .cons rfl (ob_indexAddr (k := y) rfl rfl Try.underlying23 Try.sizeOf28 rfl (by omega)) <| .cons rfl (ob_loadS' rfl hcv18 Try.isAgg28 Try.sizeOf28 rfl rfl) <| .cons rfl (ob_buildSlice1 rfl Try.underlying23 Try.sizeOf28 Try.zeroValue28 rfl rfl rfl rfl) <| .consT rfl rfl (fun _ => rfl) rfl (ob_imgT 45 rfl rfl rfl fun y45 => ob_appendX (size := 6) (bytes := 88) (l := gy) (l' := [x18]) rfl rfl (fun _ => by first | exact .inl rfl | exact .inr (.inl rfl)) Try.underlying23 Try.type28 rfl rfl rfl rfl (fun w m hK => Sl.one (vs := [_, _, _, _, _, _]) hK.2 rfl (hv18.mono (KC.le hK))) rfl (by decide) (by simp only [maxLen]; omega) (by omega)) <| .cons rfl (ob_fieldAddrO (off := 1) rfl Try.underlying40 rfl rfl Try.sizeOf23 rfl) <| .consT rfl rfl (fun _ => rfl) rfl (ob_imgT 46 rfl rfl rfl fun y46 => ob_storeV rfl rfl rfl rfl rfl Try.sizeOf23 rfl rfl rfl) <| .nil) ?_
      intro a8 w8 m8 hst8 hle8 hk8
      have hfr8 := hk8.fr (T' := [(8, _), (1, _), (3, _), (5, _), (6, _), (7, _)]) (.old rfl rfl <| .old rfl rfl <| .old rfl rfl <| .old rfl rfl <| .old rfl rfl <| .old rfl rfl <| .nil)
      obtain ⟨⟨Y_19o, Y_19p⟩, e20, hsl_Y_19⟩ := hk8.ex 46 rfl
      replace hst8 := hst8.fin (L' := [_, _, _, _]) (.cons e20 <| .cons e20 <| .nil)
      try simp only [List.take_succ_cons, List.take_zero, List.drop_succ_cons, List.drop_zero, List.cons_append, List.nil_append, List.append_nil, List.length_cons, List.length_nil, Nat.zero_add, Nat.reduceAdd] at hst8
      replace hsl_V_16 := hsl_V_16.mono hle8
      have hlh8 := hlh7.trans hle8
      clear hst7 hfr7 hk8
      replace hsl_Y_19 : Tys m8 Y_19o (gy ++ [x18]).length Y_19p (gy ++ [x18]) := hsl_Y_19
      have e8 := at_map hp9 hd18
      refine hK12 _ _ ?_; clear hK12
      refine rp0 hst8 hfr8 (.cons rfl (ob_move rfl) <| .cons rfl (ob_add rfl rfl ⟨by omega, by omega⟩) <| .cons rfl (ob_assign rfl) <| .nil) ?_
      intro a9 w9 m9 hst9 hle9 hk9
      have hfr9 := hk9.fr (T' := [(1, _), (3, _), (5, _), (6, _), (7, _), (8, _)]) (.old rfl rfl <| .old rfl rfl <| .old rfl rfl <| .old rfl rfl <| .old rfl rfl <| .new rfl <| .nil)
      replace hsl_V_16 := hsl_V_16.mono hle9
      replace hsl_Y_19 := hsl_Y_19.mono hle9
      have hlh9 := hlh8.trans hle9
      clear hst8 hfr8 hk9
      exact ⟨(y + 1, V_16o, V_16p, (gv ++ [x14]), Y_19o, Y_19p, (gy ++ [x18])), m9, by show (s.ts.map Prod.fst).length - (y + 1) < (s.ts.map Prod.fst).length - y; omega, ⟨hst9, hlh9, hfr9.sub (.cons rfl <| .cons rfl <| .cons rfl <| .cons rfl <| .cons rfl <| .cons rfl <| .nil), ⟨by show y + 1 ≤ (s.ts.map Prod.fst).length; omega, hsl_V_16, by rw [hoi, List.map_append, ← hlen_gv]; show _ = _ ++ [p9.1]; rw [← e9], hsl_Y_19, by rw [hoi, List.map_append, ← hlen_gy]; show _ = _ ++ [p9.2]; rw [← e8]⟩⟩⟩
    · try simp only [nq1, nq2, nq3, nq4, nq5, nq6, nq7, nq8, nq9, u8_eq] at hb27
      have hoi := others_out (n := n) hp9 (by rw [← e9]; omega)
      refine wp_skip ?_
      refine hK12 _ _ ?_; clear hK12
      refine rp0 hst6 hfr6 (.cons rfl (ob_move rfl) <| .cons rfl (ob_add rfl rfl ⟨by omega, by omega⟩) <| .cons rfl (ob_assign rfl) <| .nil) ?_
      intro a7 w7 m7 hst7 hle7 hk7
      have hfr7 := hk7.fr (T' := [(1, _), (3, _), (5, _), (6, _), (7, _), (8, _)]) (.old rfl rfl <| .old rfl rfl <| .old rfl rfl <| .old rfl rfl <| .old rfl rfl <| .new rfl <| .nil)
      replace hsl_gv := hsl_gv.mono hle7
      replace hsl_gy := hsl_gy.mono hle7
      have hlh7 := hlh6.trans hle7
      clear hst6 hfr6 hk7
      exact ⟨(y + 1, gvo, gvp, gv, gyo, gyp, gy), m7, by show (s.ts.map Prod.fst).length - (y + 1) < (s.ts.map Prod.fst).length - y; omega, ⟨hst7, hlh7, hfr7.sub (.cons rfl <| .cons rfl <| .cons rfl <| .cons rfl <| .cons rfl <| .cons rfl <| .nil), ⟨by show y + 1 ≤ (s.ts.map Prod.fst).length; omega, hsl_gv, by rw [hoi]; exact hlen_gv, hsl_gy, by rw [hoi]; exact hlen_gy⟩⟩⟩
  · try simp only [nq1, nq2, nq3, nq4, nq5, nq6, nq7, nq8, nq9, u8_eq] at hb18
    have hlm : (s.ts.map Prod.fst).length = s.ts.length := List.length_map _
    have hge : y = s.ts.length := by omega
    rw [List.take_of_length_le (by omega)] at hlen_gv hlen_gy
    refine wp_exit ?_
    refine hK7 _ _ ?_; clear hK7
    refine seq_any fun _ hK21 => ?_
    refine ra0 (tch := [(4, 2, (fun v => .rowx (nz v) _ _ _ _)), (6, 1, (fun u => .blk _ (.cells (_ ++ [u] ++ _).toArray _)))]) hst5 hfr5 (.cons rfl (ob_fieldAddrO (off := 0) rfl Try.underlying40 rfl rfl Try.sizeOf37 rfl) <| .cons rfl (ob_loadL (j := 1) rfl rfl Try.isAgg37 rfl) <| .cons rfl (ob_move rfl) <| .cons rfl (ob_buildSlice (.cons rfl <| .nil) Try.underlying37 Try.sizeOf3 Try.zeroValue3 rfl rfl rfl rfl) <| .consT rfl rfl (fun _ => rfl) rfl (ob_imgT 51 rfl rfl rfl fun y51 => ob_appendX (size := 1) (bytes := 8) (l := gv) (l' := [n]) rfl rfl (fun _ => by first | exact .inl rfl | exact .inr (.inl rfl)) Try.underlying37 Try.type3 rfl rfl rfl rfl (fun w m hK => Sl.one (vs := [_]) hK.2 rfl rfl) rfl (by decide) (by simp only [maxLen]; omega) (by omega)) <| .cons rfl (ob_fieldAddrO (off := 0) rfl Try.underlying40 rfl rfl Try.sizeOf37 rfl) <| .consT rfl rfl (fun _ => rfl) rfl (ob_imgT 52 rfl rfl rfl fun y52 => ob_storeV rfl rfl rfl rfl rfl Try.sizeOf37 rfl rfl rfl) <| .nil) ?_
    intro a6 w6 m6 hst6 hle6 hk6
    have hfr6 := hk6.fr (T' := [(8, _), (5, _), (6, _), (7, _)]) (.old rfl rfl <| .old rfl rfl <| .old rfl rfl <| .old rfl rfl <| .nil)
    obtain ⟨⟨V_22o, V_22p⟩, e23, hsl_V_22⟩ := hk6.ex 52 rfl
    replace hst6 := hst6.fin (L' := [_, _, _, _]) (.cons e23 <| .cons e23 <| .nil)
    try simp only [List.take_succ_cons, List.take_zero, List.drop_succ_cons, List.drop_zero, List.cons_append, List.nil_append, List.append_nil, List.length_cons, List.length_nil, Nat.zero_add, Nat.reduceAdd] at hst6
    replace hqc_s := hqc_s.mono hle6
    replace hqd_s := hqd_s.mono hle6
    replace h_x := h_x.mono hle6
    replace hc5 := hc5.mono hle6
    have hlh6 := hlh5.trans hle6
    clear hst5 hfr5 hk6
    replace hsl_V_22 : Ints m6 V_22o (gv ++ [n]).length V_22p (gv ++ [n]) := hsl_V_22
    refine hK21 _ _ ?_; clear hK21
    refine seq_any fun _ hK24 => ?_
    refine ra0 (tch := [(4, 3, (fun v => .rowx (nz v) _ _ _ _)), (6, 1, (fun u => .blk _ (.cells (_ ++ [u] ++ _).toArray _)))]) hst6 hfr6 (.cons rfl (ob_fieldAddrO (off := 1) rfl Try.underlying40 rfl rfl Try.sizeOf23 rfl) <| .cons rfl (ob_loadL (j := 1) rfl rfl Try.isAgg23 rfl) <| .cons rfl (ob_loadS' rfl hc5 Try.isAgg28 Try.sizeOf28 rfl rfl) <| .cons rfl (ob_buildSlice1 rfl Try.underlying23 Try.sizeOf28 Try.zeroValue28 rfl rfl rfl rfl) <| .consT rfl rfl (fun _ => rfl) rfl (ob_imgT 57 rfl rfl rfl fun y57 => ob_appendX (size := 6) (bytes := 88) (l := gy) (l' := [x]) rfl rfl (fun _ => by first | exact .inl rfl | exact .inr (.inl rfl)) Try.underlying23 Try.type28 rfl rfl rfl rfl (fun w m hK => Sl.one (vs := [_, _, _, _, _, _]) hK.2 rfl (h_x.mono (KC.le hK))) rfl (by decide) (by simp only [maxLen]; omega) (by omega)) <| .cons rfl (ob_fieldAddrO (off := 1) rfl Try.underlying40 rfl rfl Try.sizeOf23 rfl) <| .consT rfl rfl (fun _ => rfl) rfl (ob_imgT 58 rfl rfl rfl fun y58 => ob_storeV rfl rfl rfl rfl rfl Try.sizeOf23 rfl rfl rfl) <| .nil) ?_
    intro a7 w7 m7 hst7 hle7 hk7
    have hfr7 := hk7.fr (T' := [(8, _), (6, _), (7, _)]) (.old rfl rfl <| .old rfl rfl <| .old rfl rfl <| .nil)
    obtain ⟨⟨Y_25o, Y_25p⟩, e26, hsl_Y_25⟩ := hk7.ex 58 rfl
    replace hst7 := hst7.fin (L' := [_, _, _, _]) (.cons e26 <| .cons e26 <| .nil)
    try simp only [List.take_succ_cons, List.take_zero, List.drop_succ_cons, List.drop_zero, List.cons_append, List.nil_append, List.append_nil, List.length_cons, List.length_nil, Nat.zero_add, Nat.reduceAdd] at hst7
    replace hqc_s := hqc_s.mono hle7
    replace hqd_s := hqd_s.mono hle7
    replace hsl_V_22 := hsl_V_22.mono hle7
    have hlh7 := hlh6.trans hle7
    clear hst6 hfr6 hk7
    replace hsl_Y_25 : Tys m7 Y_25o (gy ++ [x]).length Y_25p (gy ++ [x]) := hsl_Y_25
    refine hK24 _ _ ?_; clear hK24
    refine seq_any fun _ hK27 => ?_
    have hV : (gv ++ [n]) = (rset n x s.ts).map Prod.fst := by show gv ++ [n] = _; rw [hlen_gv]; simp [rset, others]
    have hY : (gy ++ [x]) = (rset n x s.ts).map Prod.snd := by show gy ++ [x] = _; rw [hlen_gy]; simp [rset, others]
    have hq1 : Ints m7 V_22o ((rset n x s.ts).map Prod.fst).length V_22p ((rset n x s.ts).map Prod.fst) := by rw [← hV]; exact hsl_V_22
    have hq2 : Tys m7 Y_25o ((rset n x s.ts).map Prod.snd).length Y_25p ((rset n x s.ts).map Prod.snd) := by rw [← hY]; exact hsl_Y_25
    refine ra0 (tch := [(1, 0, (fun _ => .blk _ _))]) hst7 hfr7 (.cons rfl (ob_loadLA (j := 1) rfl rfl Try.isAgg40 Try.sizeOf40 rfl) <| .consT rfl rfl (fun _ => rfl) rfl (ob_store' rfl rfl rfl Try.sizeOf40 rfl rfl rfl) <| .nil) ?_
    intro a8 w8 m8 hst8 hle8 hk8
    have hfr8 := hk8.fr (T' := [(8, _), (6, _)]) (.old rfl rfl <| .old rfl rfl <| .nil)
    replace hst8 := hst8.fin (L' := [_, _, _, _]) (.cons rfl <| .nil)
    try simp only [List.take_succ_cons, List.take_zero, List.drop_succ_cons, List.drop_zero, List.cons_append, List.nil_append, List.append_nil, List.length_cons, List.length_nil, Nat.zero_add, Nat.reduceAdd] at hst8
    replace hqc_s := hqc_s.mono hle8
    replace hqd_s := hqd_s.mono hle8
    replace hq1 := hq1.mono hle8
    replace hq2 := hq2.mono hle8
    have hlh8 := hlh7.trans hle8
    clear hst7 hfr7 hk8
    refine hK27 _ _ ?_; clear hK27
    refine wp_ret ?_
    repeat (with_reducible first | refine then_ret ?_ | refine block_ret ?_)
    exact fn_ret hst8 hfr8 rfl (.cell rfl (load_blk (blk_heap (hst8.loc.at_ (k := 0) rfl)) Try.isAgg40 Try.sizeOf40) <| .nil) (⟨(((V_22o, V_22p), (Y_25o, Y_25p)), (oC_s, cC_s), (oD_s, cD_s)), by show _ = Value.agg (rsV _ _).toArray; simp only [rsV]; rw [← hV, ← hY]; rfl, ⟨_, rfl, hq1, hq2, hqc_s, hqd_s⟩⟩)

set_option maxHeartbeats 1600000 in
theorem rsetRow_c {w : World} {m : Mem} {s : Sub} {vs_s : List Value} {n : Int} {x : Rw} {vs_x : List Value} (hA : Agree w m) (h_s : RSubR m s vs_s) (h_x : RwR m x vs_x) (hl : s.rs.length ≤ 1000000) : FnV Try.prog 25 #[.agg vs_s.toArray, .int .i64 n, .agg vs_x.toArray] w m (fun _ m v => (MP.rsub ⟨s.ts, rset n x s.rs⟩).p m v) := by
  obtain ⟨⟨⟨⟨oA_s, cA_s⟩, oB_s, cB_s⟩, ⟨oC_s, cC_s⟩, oD_s, cD_s⟩, rfl, hqa_s, hqb_s, hqc_s, hqd_s⟩ := id h_s
  have hgb_s := hqa_s.big; have hgd_s := hqc_s.big; simp only [List.length_map] at hgb_s hgd_s
  obtain ⟨o_x, c_x, rfl, hs_x, hr_x⟩ := h_x.open_
  have hbs_x := hs_x.big; have hcs_x := hs_x.cap
  refine fn_enter (vs := [_, _, _]) Try.func25 rfl rfl rfl fun a0 hfr0 => ?_
  have hst0 := st_enter hA (loc_nil [] _ w m)
  have hM : MLe m m := MLe.refl m
  have hol := others_len n s.rs
  refine seq_any fun _ hK1 => ?_
  replace hst0 := hst0.more (r := .free) trivial List.nodup_nil (by simp [Res.blocks])
  refine ra0 (tch := [(2, 0, (fun v => .blk v _))]) hst0 hfr0 (.cons rfl (ob_box rfl rfl) <| .cons rfl (ob_box rfl rfl) <| .consT rfl rfl (fun _ => rfl) rfl (ob_allocL Try.zeroValue40 rfl) <| .nil) ?_
  intro a1 w1 m1 hst1 hle1 hk1
  have hfr1 := hk1.fr (T' := [(1, _)]) (.old rfl rfl <| .nil)
  obtain ⟨g2, e2, hc3⟩ := hk1.ex 3 rfl
  replace hfr1 := hfr1.cons e2
  obtain ⟨g3, e3, hc5⟩ := hk1.ex 5 rfl
  replace hfr1 := hfr1.cons e3
  obtain ⟨gT, e4, _⟩ := hk1.ex 6 rfl
  replace hfr1 := hfr1.cons e4
  replace hst1 := hst1.fin (L' := [_]) (.cons e4 <| .nil)
  replace hqa_s := hqa_s.mono hle1
  replace hqb_s := hqb_s.mono hle1
  replace hqc_s := hqc_s.mono hle1
  replace hqd_s := hqd_s.mono hle1
  replace h_x := h_x.mono hle1
  clear hst0 hfr0 hk1
  refine hK1 _ _ ?_; clear hK1
  refine seq_any fun _ hK5 => ?_
  replace hst1 := hst1.more (r := .free) trivial List.nodup_nil (by simp [Res.blocks])
  refine ra0 (tch := [(5, 1, (fun v => .blk v _)), (6, 1, (fun v => .blk v _))]) hst1 hfr1 (.cons rfl (ob_fieldAddrO (off := 0) rfl Try.underlying40 rfl rfl Try.sizeOf37 rfl) <| .cons rfl (ob_load1 rfl hc3 Try.isAgg37 rfl) <| .cons rfl (ob_fieldAddrO (off := 1) rfl Try.underlying40 rfl rfl Try.sizeOf23 rfl) <| .cons rfl (ob_load1 rfl hc3 Try.isAgg23 rfl) <| .cons rfl (ob_buildS (.cons rfl <| .cons rfl <| .nil) Try.underlying40 Try.zeroValue40 (.cons Try.sizeOf37 <| .cons Try.sizeOf23 <| .cons Try.sizeOf37 <| .cons Try.sizeOf38 <| .nil) rfl) <| .consT rfl rfl (fun _ => rfl) rfl (ob_allocL Try.zeroValue40 rfl) <| .consT rfl rfl (fun _ => rfl) rfl (ob_imgT 7 rfl rfl rfl fun y7 => ob_storeF rfl rfl rfl rfl rfl Try.sizeOf40 rfl rfl rfl) <| .nil) ?_
  intro a2 w2 m2 hst2 hle2 hk2
  have hfr2 := hk2.fr (T' := [(1, _), (3, _), (5, _), (6, _)]) (.old rfl rfl <| .old rfl rfl <| .old rfl rfl <| .old rfl rfl <| .nil)
  obtain ⟨gB, e6, _⟩ := hk2.ex 7 rfl
  replace hfr2 := hfr2.cons e6
  replace hst2 := hst2.fin (L' := [_, _]) (.cons e6 <| .cons e6 <| .nil)
  try simp only [List.take_succ_cons, List.take_zero, List.drop_succ_cons, List.drop_zero, List.cons_append, List.nil_append, List.append_nil, List.length_cons, List.length_nil, Nat.zero_add, Nat.reduceAdd] at hst2
  replace hqa_s := hqa_s.mono hle2
  replace hqb_s := hqb_s.mono hle2
  replace hqc_s := hqc_s.mono hle2
  replace hqd_s := hqd_s.mono hle2
  replace h_x := h_x.mono hle2
  replace hc3 := hc3.mono hle2
  replace hc5 := hc5.mono hle2
  clear hst1 hfr1 hk2
  have hst2 := hst2.more (r := .rowx (.slice none 0 0) 0 1 3 (MP.reads RI 1 [])) rowx_new List.nodup_nil (by simp [Res.blocks, rowBlock])
  have hsl_V : Ints m2 none ([] : List Int).length 0 ([] : List Int) := Sl.empty
  have hst2 := hst2.more (r := .rowx (.slice none 0 0) 0 2 26 (MP.reads (fun m vs t => RwR m t vs) 2 [])) rowx_new List.nodup_nil (by simp [Res.blocks, rowBlock])
  have hsl_Y : Rws m2 none ([] : List Rw).length 0 ([] : List Rw) := Sl.empty
  refine hK5 _ _ ?_; clear hK5
  refine seq_any fun _ hK7 => ?_
  refine seq_any fun _ hK8 => ?_
  refine rp0 hst2 hfr2 (.cons rfl (ob_assign rfl) <| .nil) ?_
  intro a3 w3 m3 hst3 hle3 hk3
  have hfr3 := hk3.fr (T' := [(1, _), (3, _), (5, _), (6, _), (7, _), (8, _)]) (.old rfl rfl <| .old rfl rfl <| .old rfl rfl <| .old rfl rfl <| .old rfl rfl <| .new rfl <| .nil)
  replace hqa_s := hqa_s.mono hle3
  replace hqb_s := hqb_s.mono hle3
  replace hqc_s := hqc_s.mono hle3
  replace hqd_s := hqd_s.mono hle3
  replace h_x := h_x.mono hle3
  replace hc3 := hc3.mono hle3
  replace hc5 := hc5.mono hle3
  replace hsl_V := hsl_V.mono hle3
  replace hsl_Y := hsl_Y.mono hle3
  clear hst2 hfr2 hk3
  refine hK8 _ _ ?_; clear hK8
  refine wp_block ?_
  refine loop_any (T := [(1, _), (3, _), (5, _), (6, _), (7, _)]) (fun (y : Nat × Option Addr × Nat × List Int × Option Addr × Nat × List Rw) => ([(8, .int .i64 (y.1 : Int))] : List (Nat × Value))) (fun y => [_, .blk (.pointer (some ⟨gB, 0, none⟩)) (.cells ([.slice oA_s (s.ts.map Prod.fst).length cA_s, .slice oB_s (s.ts.map Prod.snd).length cB_s, .slice y.2.1 y.2.2.2.1.length y.2.2.1, .slice y.2.2.2.2.1 y.2.2.2.2.2.2.length y.2.2.2.2.2.1] : List Value).toArray 40), .rowx (nz (.slice y.2.1 y.2.2.2.1.length y.2.2.1)) y.2.2.2.1.length 1 3 (MP.reads RI 1 y.2.2.2.1), .rowx (nz (.slice y.2.2.2.2.1 y.2.2.2.2.2.2.length y.2.2.2.2.2.1)) y.2.2.2.2.2.2.length 2 26 (MP.reads (fun m vs t => RwR m t vs) 2 y.2.2.2.2.2.2)]) (fun (y : Nat × Option Addr × Nat × List Int × Option Addr × Nat × List Rw) m => (fun (y : Nat) (gvo : Option Addr) (gvp : Nat) (gv : List Int) (gyo : Option Addr) (gyp : Nat) (gy : List Rw) => (y ≤ (s.rs.map Prod.fst).length) ∧ (Ints m gvo gv.length gvp gv) ∧ (gv = (others n (s.rs.take y)).map Prod.fst) ∧ (Rws m gyo gy.length gyp gy) ∧ (gy = (others n (s.rs.take y)).map Prod.snd)) y.1 y.2.1 y.2.2.1 y.2.2.2.1 y.2.2.2.2.1 y.2.2.2.2.2.1 y.2.2.2.2.2.2) (fun y => (s.rs.map Prod.fst).length - y.1) ((0, none, 0, ([] : List Int), none, 0, ([] : List Rw))) ⟨hst3, MLe.refl _, hfr3.sub (.cons rfl <| .cons rfl <| .cons rfl <| .cons rfl <| .cons rfl <| .cons rfl <| .nil), ⟨Nat.zero_le _, hsl_V, rfl, hsl_Y, rfl⟩⟩ fun y a4 w4 m4 hh4 => ?_
  have hst4 := hh4.st; have hle4 := hh4.le; have hfr4 := hh4.fr; have hrel := hh4.rel; clear hh4
  replace hqa_s := hqa_s.mono hle4
  replace hqb_s := hqb_s.mono hle4
  replace hqc_s := hqc_s.mono hle4
  replace hqd_s := hqd_s.mono hle4
  replace h_x := h_x.mono hle4
  replace hc3 := hc3.mono hle4
  replace hc5 := hc5.mono hle4
  clear hst3 hfr3
  obtain ⟨y, gvo, gvp, gv, gyo, gyp, gy⟩ := y
  dsimp only at hrel hfr4 hst4
  obtain ⟨hyn, hsl_gv, hlen_gv, hsl_gy, hlen_gy⟩ := hrel
  have hot9 := others_len n (s.rs.take y)
  rw [List.length_take] at hot9
  have hgv9 : gv.length ≤ 1000000 := by rw [hlen_gv, List.length_map]; omega
  have hgy9 : gy.length ≤ 1000000 := by rw [hlen_gy, List.length_map]; omega
  have hlh4 := hle4
  refine seq_any fun _ hK10 => ?_
  refine seq_any fun _ hK11 => ?_
  refine rp0 hst4 hfr4 (.cons rfl (ob_move rfl) <| .cons rfl (ob_fieldAddrO (off := 2) rfl Try.underlying40 rfl rfl Try.sizeOf37 rfl) <| .cons rfl (ob_load1 rfl hc3 Try.isAgg37 rfl) <| .cons rfl (ob_len rfl Try.underlying37) <| .cons rfl (ob_lss rfl rfl) <| .nil) ?_
  intro a5 w5 m5 hst5 hle5 hk5
  have hfr5 := hk5.fr (T' := [(8, _), (1, _), (3, _), (5, _), (6, _), (7, _), (18, _)]) (.old rfl rfl <| .old rfl rfl <| .old rfl rfl <| .old rfl rfl <| .old rfl rfl <| .old rfl rfl <| .new rfl <| .nil)
  replace hqa_s := hqa_s.mono hle5
  replace hqb_s := hqb_s.mono hle5
  replace hqc_s := hqc_s.mono hle5
  replace hqd_s := hqd_s.mono hle5
  replace h_x := h_x.mono hle5
  replace hc3 := hc3.mono hle5
  replace hc5 := hc5.mono hle5
  replace hsl_gv := hsl_gv.mono hle5
  replace hsl_gy := hsl_gy.mono hle5
  have hlh5 := hlh4.trans hle5
  clear hst4 hfr4 hk5
  refine hK11 _ _ ?_; clear hK11
  refine cond_any hfr5 rfl rfl (fun hb18 => ?_) (fun hb18 => ?_)
  · try simp only [nq1, nq2, nq3, nq4, nq5, nq6, nq7, nq8, nq9, u8_eq] at hb18
    refine wp_skip ?_
    refine hK10 _ _ ?_; clear hK10
    refine seq_any fun _ hK12 => ?_
    refine wp_block ?_
    refine seq_any fun _ hK13 => ?_
    have hyl : y < s.rs.length := by rw [← List.length_map (f := Prod.fst)]; omega
    obtain ⟨p9, hp9⟩ : ∃ p, s.rs[y]? = some p := ⟨_, List.getElem?_eq_getElem hyl⟩
    have hyl2 : y < (s.rs.map Prod.snd).length := by rw [List.length_map]; exact hyl
    obtain ⟨p14, vs14, x14, ho14, hd14, hm_x14, ht14, hcv14, hl14, hv14⟩ := hqc_s.nth (k := y) (by omega)
    cases ho14
    subst hv14
    refine rp0 hst5 hfr5 (.cons rfl (ob_fieldAddrO (off := 2) rfl Try.underlying40 rfl rfl Try.sizeOf37 rfl) <| .cons rfl (ob_load1 rfl hc3 Try.isAgg37 rfl) <| .cons rfl (ob_move rfl) <| .cons rfl (ob_indexAddr (k := y) rfl rfl Try.underlying37 Try.sizeOf3 rfl (by omega)) <| .cons rfl (ob_load1' rfl hcv14 Try.isAgg3 rfl) <| .cons rfl (ob_move rfl) <| .cons rfl (ob_neq rfl rfl) <| .nil) ?_
    intro a6 w6 m6 hst6 hle6 hk6
    have hfr6 := hk6.fr (T' := [(8, _), (1, _), (3, _), (5, _), (6, _), (7, _), (27, _)]) (.old rfl rfl <| .old rfl rfl <| .old rfl rfl <| .old rfl rfl <| .old rfl rfl <| .old rfl rfl <| .new rfl <| .nil)
    replace hqd_s := hqd_s.mono hle6
    replace hc3 := hc3.mono hle6
    replace hsl_gv := hsl_gv.mono hle6
    replace hsl_gy := hsl_gy.mono hle6
    replace hcv14 := hcv14.mono hle6
    have hlh6 := hlh5.trans hle6
    clear hst5 hfr5 hk6
    have e9 := at_map hp9 hd14
    refine hK13 _ _ ?_; clear hK13
    refine cond_any hfr6 rfl rfl (fun hb27 => ?_) (fun hb27 => ?_)
    · try simp only [nq1, nq2, nq3, nq4, nq5, nq6, nq7, nq8, nq9, u8_eq] at hb27
      have hoi := others_in (n := n) hp9 (by rw [← e9]; exact hb27)
      refine seq_any fun _ hK15 => ?_
      refine region_any (tch := [(8, 2, (fun v => .rowx (nz v) _ _ _ _)), (10, 1, (fun u => .blk _ (.cells (_ ++ [u] ++ _).toArray _)))]) (fun _ => mixed) hst6 hfr6 (by kernel_rfl) (by kernel_rfl) (by kernel_rfl) (.cons rfl (ob_fieldAddrO (off := 2) rfl Try.underlying40 rfl rfl Try.sizeOf37 rfl) <| .cons rfl (ob_loadL (j := 1) rfl rfl Try.isAgg37 rfl) <| .cons rfl (ob_fieldAddrO (off := 2) rfl Try.underlying40 rfl rfl Try.sizeOf37 rfl) <| .cons rfl (ob_load1 rfl hc3 Try.isAgg37 rfl) <| .cons rfl (ob_move rfl) <| .cons rfl (ob_indexAddr (k := y) rfl rfl Try.underlying37 Try.sizeOf3 rfl (by omega)) <| .cons rfl (ob_load1' rfl hcv14 Try.isAgg3 rfl) <| .cons rfl (ob_buildSlice (.cons rfl <| .nil) Try.underlying37 Try.sizeOf3 Try.zeroValue3 rfl rfl rfl rfl) <| .consT rfl rfl (fun _ => rfl) rfl (ob_imgT 35 rfl rfl rfl fun y35 => ob_appendX (size := 1) (bytes := 8) (l := gv) (l' := [x14]) rfl rfl (fun _ => by first | exact .inl rfl | exact .inr (.inl rfl)) Try.underlying37 Try.type3 rfl rfl rfl rfl (fun w m hK => Sl.one (vs := [_]) hK.2 rfl rfl) rfl (by decide) (by simp only [maxLen]; omega) (by omega)) <| .cons rfl (ob_fieldAddrO (off := 2) rfl Try.underlying40 rfl rfl Try.sizeOf37 rfl) <| .consT rfl rfl (fun _ => rfl) rfl (ob_imgT 36 rfl rfl rfl fun y36 => ob_storeV rfl rfl rfl rfl rfl Try.sizeOf37 rfl rfl rfl) <| .nil) ?_
      intro a7 w7 m7 hst7 hle7 hk7
      have hfr7 := hk7.fr (T' := [(8, _), (1, _), (3, _), (5, _), (6, _), (7, _)]) (.old rfl rfl <| .old rfl rfl <| .old rfl rfl <| .old rfl rfl <| .old rfl rfl <| .old rfl rfl <| .nil)
      obtain ⟨⟨V_16o, V_16p⟩, e17, hsl_V_16⟩ := hk7.ex 36 rfl
      replace hst7 := hst7.fin (L' := [_, _, _, _]) (.cons e17 <| .cons e17 <| .nil)
      try simp only [List.take_succ_cons, List.take_zero, List.drop_succ_cons, List.drop_zero, List.cons_append, List.nil_append, List.append_nil, List.length_cons, List.length_nil, Nat.zero_add, Nat.reduceAdd] at hst7
      replace hqd_s := hqd_s.mono hle7
      replace hc3 := hc3.mono hle7
      have hlh7 := hlh6.trans hle7
      clear hst6 hfr6 hk7
      replace hsl_V_16 : Ints m7 V_16o (gv ++ [x14]).length V_16p (gv ++ [x14]) := hsl_V_16
      refine hK15 _ _ ?_; clear hK15
      obtain ⟨p18, vs18, x18, ho18, hd18, hm_x18, ht18, hcv18, hl18, hv18⟩ := hqd_s.nth (k := y) (by omega)
      cases ho18
      obtain ⟨o18, c18, rfl, hs18, hr18⟩ := hv18.open_
      have hbs18 := hs18.big; have hcs18 := hs18.cap
      refine region_any (tch := [(8, 3, (fun v => .rowx (nz v) _ _ _ _)), (10, 1, (fun u => .blk _ (.cells (_ ++ [u] ++ _).toArray _)))]) (fun _ => mixed) hst7 hfr7 (by kernel_rfl) (by kernel_rfl) (by kernel_rfl) (.cons rfl (ob_fieldAddrO (off := 3) rfl Try.underlying40 rfl rfl Try.sizeOf38 rfl) <| .cons rfl (ob_loadL (j := 1) rfl rfl Try.isAgg38 rfl) <| .cons rfl (ob_fieldAddrO (off := 3) rfl Try.underlying40 rfl rfl Try.sizeOf38 rfl) <| .cons rfl (ob_load1 rfl hc3 Try.isAgg38 rfl) <| .cons rfl (ob_move rfl) <| .cons rfl (ob_indexAddr (k := y) rfl rfl Try.underlying38 Try.sizeOf26 rfl (by omega)) <| .cons rfl (ob_loadS' rfl hcv18 Try.isAgg26 Try.sizeOf26 rfl rfl) <| .cons rfl (ob_buildSlice1 rfl Try.underlying38 Try.sizeOf26 Try.zeroValue26 rfl rfl rfl rfl) <| .consT rfl rfl (fun _ => rfl) rfl (ob_imgT 45 rfl rfl rfl fun y45 => ob_appendX (size := 2) (bytes := 32) (l := gy) (l' := [x18]) rfl rfl (fun _ => by first | exact .inl rfl | exact .inr (.inl rfl)) Try.underlying38 Try.type26 rfl rfl rfl rfl (fun w m hK => Sl.one (vs := [_, _]) hK.2 rfl (hv18.mono (KC.le hK))) rfl (by decide) (by simp only [maxLen]; omega) (by omega)) <| .cons rfl (ob_fieldAddrO (off := 3) rfl Try.underlying40 rfl rfl Try.sizeOf38 rfl) <| .consT rfl rfl (fun _ => rfl) rfl (ob_imgT 46 rfl rfl rfl fun y46 => ob_storeV rfl rfl rfl rfl rfl Try.sizeOf38 rfl rfl rfl) <| .nil) ?_
      intro a8 w8 m8 hst8 hle8 hk8
      have hfr8 := hk8.fr (T' := [(8, _), (1, _), (3, _), (5, _), (6, _), (7, _)]) (.old rfl rfl <| .old rfl rfl <| .old rfl rfl <| .old rfl rfl <| .old rfl rfl <| .old rfl rfl <| .nil)
      obtain ⟨⟨Y_19o, Y_19p⟩, e20, hsl_Y_19⟩ := hk8.ex 46 rfl
      replace hst8 := hst8.fin (L' := [_, _, _, _]) (.cons e20 <| .cons e20 <| .nil)
      try simp only [List.take_succ_cons, List.take_zero, List.drop_succ_cons, List.drop_zero, List.cons_append, List.nil_append, List.append_nil, List.length_cons, List.length_nil, Nat.zero_add, Nat.reduceAdd] at hst8
      replace hsl_V_16 := hsl_V_16.mono hle8
      have hlh8 := hlh7.trans hle8
      clear hst7 hfr7 hk8
      replace hsl_Y_19 : Rws m8 Y_19o (gy ++ [x18]).length Y_19p (gy ++ [x18]) := hsl_Y_19
      have e8 := at_map hp9 hd18
      refine hK12 _ _ ?_; clear hK12
      refine rp0 hst8 hfr8 (.cons rfl (ob_move rfl) <| .cons rfl (ob_add rfl rfl ⟨by omega, by omega⟩) <| .cons rfl (ob_assign rfl) <| .nil) ?_
      intro a9 w9 m9 hst9 hle9 hk9
      have hfr9 := hk9.fr (T' := [(1, _), (3, _), (5, _), (6, _), (7, _), (8, _)]) (.old rfl rfl <| .old rfl rfl <| .old rfl rfl <| .old rfl rfl <| .old rfl rfl <| .new rfl <| .nil)
      replace hsl_V_16 := hsl_V_16.mono hle9
      replace hsl_Y_19 := hsl_Y_19.mono hle9
      have hlh9 := hlh8.trans hle9
      clear hst8 hfr8 hk9
      exact ⟨(y + 1, V_16o, V_16p, (gv ++ [x14]), Y_19o, Y_19p, (gy ++ [x18])), m9, by show (s.rs.map Prod.fst).length - (y + 1) < (s.rs.map Prod.fst).length - y; omega, ⟨hst9, hlh9, hfr9.sub (.cons rfl <| .cons rfl <| .cons rfl <| .cons rfl <| .cons rfl <| .cons rfl <| .nil), ⟨by show y + 1 ≤ (s.rs.map Prod.fst).length; omega, hsl_V_16, by rw [hoi, List.map_append, ← hlen_gv]; show _ = _ ++ [p9.1]; rw [← e9], hsl_Y_19, by rw [hoi, List.map_append, ← hlen_gy]; show _ = _ ++ [p9.2]; rw [← e8]⟩⟩⟩
    · try simp only [nq1, nq2, nq3, nq4, nq5, nq6, nq7, nq8, nq9, u8_eq] at hb27
      have hoi := others_out (n := n) hp9 (by rw [← e9]; omega)
      refine wp_skip ?_
      refine hK12 _ _ ?_; clear hK12
      refine rp0 hst6 hfr6 (.cons rfl (ob_move rfl) <| .cons rfl (ob_add rfl rfl ⟨by omega, by omega⟩) <| .cons rfl (ob_assign rfl) <| .nil) ?_
      intro a7 w7 m7 hst7 hle7 hk7
      have hfr7 := hk7.fr (T' := [(1, _), (3, _), (5, _), (6, _), (7, _), (8, _)]) (.old rfl rfl <| .old rfl rfl <| .old rfl rfl <| .old rfl rfl <| .old rfl rfl <| .new rfl <| .nil)
      replace hsl_gv := hsl_gv.mono hle7
      replace hsl_gy := hsl_gy.mono hle7
      have hlh7 := hlh6.trans hle7
      clear hst6 hfr6 hk7
      exact ⟨(y + 1, gvo, gvp, gv, gyo, gyp, gy), m7, by show (s.rs.map Prod.fst).length - (y + 1) < (s.rs.map Prod.fst).length - y; omega, ⟨hst7, hlh7, hfr7.sub (.cons rfl <| .cons rfl <| .cons rfl <| .cons rfl <| .cons rfl <| .cons rfl <| .nil), ⟨by show y + 1 ≤ (s.rs.map Prod.fst).length; omega, hsl_gv, by rw [hoi]; exact hlen_gv, hsl_gy, by rw [hoi]; exact hlen_gy⟩⟩⟩
  · try simp only [nq1, nq2, nq3, nq4, nq5, nq6, nq7, nq8, nq9, u8_eq] at hb18
    have hlm : (s.rs.map Prod.fst).length = s.rs.length := List.length_map _
    have hge : y = s.rs.length := by omega
    rw [List.take_of_length_le (by omega)] at hlen_gv hlen_gy
    refine wp_exit ?_
    refine hK7 _ _ ?_; clear hK7
    refine seq_any fun _ hK21 => ?_
    refine ra0 (tch := [(4, 2, (fun v => .rowx (nz v) _ _ _ _)), (6, 1, (fun u => .blk _ (.cells (_ ++ [u] ++ _).toArray _)))]) hst5 hfr5 (.cons rfl (ob_fieldAddrO (off := 2) rfl Try.underlying40 rfl rfl Try.sizeOf37 rfl) <| .cons rfl (ob_loadL (j := 1) rfl rfl Try.isAgg37 rfl) <| .cons rfl (ob_move rfl) <| .cons rfl (ob_buildSlice (.cons rfl <| .nil) Try.underlying37 Try.sizeOf3 Try.zeroValue3 rfl rfl rfl rfl) <| .consT rfl rfl (fun _ => rfl) rfl (ob_imgT 51 rfl rfl rfl fun y51 => ob_appendX (size := 1) (bytes := 8) (l := gv) (l' := [n]) rfl rfl (fun _ => by first | exact .inl rfl | exact .inr (.inl rfl)) Try.underlying37 Try.type3 rfl rfl rfl rfl (fun w m hK => Sl.one (vs := [_]) hK.2 rfl rfl) rfl (by decide) (by simp only [maxLen]; omega) (by omega)) <| .cons rfl (ob_fieldAddrO (off := 2) rfl Try.underlying40 rfl rfl Try.sizeOf37 rfl) <| .consT rfl rfl (fun _ => rfl) rfl (ob_imgT 52 rfl rfl rfl fun y52 => ob_storeV rfl rfl rfl rfl rfl Try.sizeOf37 rfl rfl rfl) <| .nil) ?_
    intro a6 w6 m6 hst6 hle6 hk6
    have hfr6 := hk6.fr (T' := [(8, _), (5, _), (6, _), (7, _)]) (.old rfl rfl <| .old rfl rfl <| .old rfl rfl <| .old rfl rfl <| .nil)
    obtain ⟨⟨V_22o, V_22p⟩, e23, hsl_V_22⟩ := hk6.ex 52 rfl
    replace hst6 := hst6.fin (L' := [_, _, _, _]) (.cons e23 <| .cons e23 <| .nil)
    try simp only [List.take_succ_cons, List.take_zero, List.drop_succ_cons, List.drop_zero, List.cons_append, List.nil_append, List.append_nil, List.length_cons, List.length_nil, Nat.zero_add, Nat.reduceAdd] at hst6
    replace hqa_s := hqa_s.mono hle6
    replace hqb_s := hqb_s.mono hle6
    replace h_x := h_x.mono hle6
    replace hc5 := hc5.mono hle6
    have hlh6 := hlh5.trans hle6
    clear hst5 hfr5 hk6
    replace hsl_V_22 : Ints m6 V_22o (gv ++ [n]).length V_22p (gv ++ [n]) := hsl_V_22
    refine hK21 _ _ ?_; clear hK21
    refine seq_any fun _ hK24 => ?_
    refine ra0 (tch := [(4, 3, (fun v => .rowx (nz v) _ _ _ _)), (6, 1, (fun u => .blk _ (.cells (_ ++ [u] ++ _).toArray _)))]) hst6 hfr6 (.cons rfl (ob_fieldAddrO (off := 3) rfl Try.underlying40 rfl rfl Try.sizeOf38 rfl) <| .cons rfl (ob_loadL (j := 1) rfl rfl Try.isAgg38 rfl) <| .cons rfl (ob_loadS' rfl hc5 Try.isAgg26 Try.sizeOf26 rfl rfl) <| .cons rfl (ob_buildSlice1 rfl Try.underlying38 Try.sizeOf26 Try.zeroValue26 rfl rfl rfl rfl) <| .consT rfl rfl (fun _ => rfl) rfl (ob_imgT 57 rfl rfl rfl fun y57 => ob_appendX (size := 2) (bytes := 32) (l := gy) (l' := [x]) rfl rfl (fun _ => by first | exact .inl rfl | exact .inr (.inl rfl)) Try.underlying38 Try.type26 rfl rfl rfl rfl (fun w m hK => Sl.one (vs := [_, _]) hK.2 rfl (h_x.mono (KC.le hK))) rfl (by decide) (by simp only [maxLen]; omega) (by omega)) <| .cons rfl (ob_fieldAddrO (off := 3) rfl Try.underlying40 rfl rfl Try.sizeOf38 rfl) <| .consT rfl rfl (fun _ => rfl) rfl (ob_imgT 58 rfl rfl rfl fun y58 => ob_storeV rfl rfl rfl rfl rfl Try.sizeOf38 rfl rfl rfl) <| .nil) ?_
    intro a7 w7 m7 hst7 hle7 hk7
    have hfr7 := hk7.fr (T' := [(8, _), (6, _), (7, _)]) (.old rfl rfl <| .old rfl rfl <| .old rfl rfl <| .nil)
    obtain ⟨⟨Y_25o, Y_25p⟩, e26, hsl_Y_25⟩ := hk7.ex 58 rfl
    replace hst7 := hst7.fin (L' := [_, _, _, _]) (.cons e26 <| .cons e26 <| .nil)
    try simp only [List.take_succ_cons, List.take_zero, List.drop_succ_cons, List.drop_zero, List.cons_append, List.nil_append, List.append_nil, List.length_cons, List.length_nil, Nat.zero_add, Nat.reduceAdd] at hst7
    replace hqa_s := hqa_s.mono hle7
    replace hqb_s := hqb_s.mono hle7
    replace hsl_V_22 := hsl_V_22.mono hle7
    have hlh7 := hlh6.trans hle7
    clear hst6 hfr6 hk7
    replace hsl_Y_25 : Rws m7 Y_25o (gy ++ [x]).length Y_25p (gy ++ [x]) := hsl_Y_25
    refine hK24 _ _ ?_; clear hK24
    refine seq_any fun _ hK27 => ?_
    have hV : (gv ++ [n]) = (rset n x s.rs).map Prod.fst := by show gv ++ [n] = _; rw [hlen_gv]; simp [rset, others]
    have hY : (gy ++ [x]) = (rset n x s.rs).map Prod.snd := by show gy ++ [x] = _; rw [hlen_gy]; simp [rset, others]
    have hq1 : Ints m7 V_22o ((rset n x s.rs).map Prod.fst).length V_22p ((rset n x s.rs).map Prod.fst) := by rw [← hV]; exact hsl_V_22
    have hq2 : Rws m7 Y_25o ((rset n x s.rs).map Prod.snd).length Y_25p ((rset n x s.rs).map Prod.snd) := by rw [← hY]; exact hsl_Y_25
    refine ra0 (tch := [(1, 0, (fun _ => .blk _ _))]) hst7 hfr7 (.cons rfl (ob_loadLA (j := 1) rfl rfl Try.isAgg40 Try.sizeOf40 rfl) <| .consT rfl rfl (fun _ => rfl) rfl (ob_store' rfl rfl rfl Try.sizeOf40 rfl rfl rfl) <| .nil) ?_
    intro a8 w8 m8 hst8 hle8 hk8
    have hfr8 := hk8.fr (T' := [(8, _), (6, _)]) (.old rfl rfl <| .old rfl rfl <| .nil)
    replace hst8 := hst8.fin (L' := [_, _, _, _]) (.cons rfl <| .nil)
    try simp only [List.take_succ_cons, List.take_zero, List.drop_succ_cons, List.drop_zero, List.cons_append, List.nil_append, List.append_nil, List.length_cons, List.length_nil, Nat.zero_add, Nat.reduceAdd] at hst8
    replace hqa_s := hqa_s.mono hle8
    replace hqb_s := hqb_s.mono hle8
    replace hq1 := hq1.mono hle8
    replace hq2 := hq2.mono hle8
    have hlh8 := hlh7.trans hle8
    clear hst7 hfr7 hk8
    refine hK27 _ _ ?_; clear hK27
    refine wp_ret ?_
    repeat (with_reducible first | refine then_ret ?_ | refine block_ret ?_)
    exact fn_ret hst8 hfr8 rfl (.cell rfl (load_blk (blk_heap (hst8.loc.at_ (k := 0) rfl)) Try.isAgg40 Try.sizeOf40) <| .nil) (⟨(((oA_s, cA_s), (oB_s, cB_s)), (V_22o, V_22p), (Y_25o, Y_25p)), by show _ = Value.agg (rsV _ _).toArray; simp only [rsV]; rw [← hV, ← hY]; rfl, ⟨_, rfl, hqa_s, hqb_s, hq1, hq2⟩⟩)

end Go.Proofs.Ytfphefkfbhjfdaa
