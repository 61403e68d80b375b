/-
  A law of chapter 15, walked. Conditions: those of the theorem.
-/
import Derived.Test.YtlihpgjabohebaaDoorCshown
import Derived.Test.YtlihpgjabohebaaDoorCref
namespace Go.Proofs.YtlihpgjabohebaaDoor
set_option linter.all false
set_option maxRecDepth 4000
open Go.RowKit
theorem right_kind {t : Cd} (h : rightC t = true) : 1 ≤ t.kind ∧ t.kind ≤ 15 := by
  rcases kind_cases t with hk | hk
  · omega
  · rw [rightC_eq] at h
    have : headC t = false := by
      obtain ⟨h1, h2, h3, h4, h5, h6, h7, h8, h9, h10, h11, h12, h13, h14, h15⟩ := hk
      unfold headC; simp [*]
    rw [this] at h; cases h
theorem atom_right {t : Cd} (h : rightC t = true) : atomC t = decide (t.kind ≤ 5) := by
  have := (right_kind h).1
  unfold atomC; simp [this]
theorem right_node (k : Int) (s p : Str) (l : List Cd) (az : List Ca) : rightC (nodeC k s p l az) = (headC (nodeC k s p l az) && armsOk k 0 az && l.all rightC && az.all fun a => rightC a.body) := rightC_eq _
theorem right_unit : rightC unitC = true := by decide
theorem atom_unit : atomC unitC = true := by decide
theorem cds_cells {m : Mem} {g : Nat} (l : List (Cd × List Value)) (hc : CellsAt m ⟨g, 0, none⟩ (l.map Prod.snd).flatten) (h : ∀ x ∈ l, CdR m x.1 x.2) (hb : l.length ≤ 100) : Cds m (some ⟨g, 0, none⟩) l.length l.length (l.map Prod.fst) := by
  have h1 := Sl.of_row (R := fun m vs (x : Cd × List Value) => CdR m x.1 vs) (sz := 6) (f := Prod.snd) (.inr ⟨_, rfl, by rw [List.flatMap_def]; exact hc⟩) rfl (Nat.le_refl _) (by omega) (by omega) fun x hx => ⟨(h x hx).len, h x hx⟩
  refine ⟨by simp, h1.cap, h1.big, fun i x hx => ?_⟩
  rw [List.getElem?_map] at hx
  cases e : l[i]? with
  | none => rw [e] at hx; cases hx
  | some y =>
    rw [e] at hx; simp only [Option.map_some, Option.some.injEq] at hx; subst hx
    exact h1.at_ i y e
def AllR (m : Mem) : List (Cd × List Value) → Prop
  | [] => True
  | x :: l => CdR m x.1 x.2 ∧ AllR m l
theorem allR {m : Mem} : ∀ (l : List (Cd × List Value)), AllR m l → ∀ x ∈ l, CdR m x.1 x.2
  | [], _, x, hx => by cases hx
  | y :: l, h, x, hx => by
    rcases List.mem_cons.1 hx with rfl | hx
    · exact h.1
    · exact allR l h.2 x hx
theorem node3_R {m : Mem} {k : Int} {s p : Str} {t u v : Cd} {g : Nat} {vs us ws : List Value} (hk : InI64 k) (hc : CellsAt m ⟨g, 0, none⟩ [vs, us, ws].flatten) (h : CdR m t vs) (h2 : CdR m u us) (h3 : CdR m v ws) : CdR m (nodeC k s p [t, u, v] []) (cdV (nodeC k s p [t, u, v] []) ⟨some ⟨g, 0, none⟩, 3, none, 0⟩) :=
  CdR.build hk i0 (cds_cells [(t, vs), (u, us), (v, ws)] hc (fun x hx => by simp only [List.mem_cons, List.not_mem_nil, or_false] at hx; rcases hx with rfl | rfl | rfl <;> assumption) (Nat.le_of_ble_eq_true rfl)) Sl.empty
def armU : Ca := ⟨[67], [], false, unitC⟩
def matchT (t : Cd) : Cd := nodeC 13 [] [] [t] [armU]
def mustL (t : Cd) : List Cd := [nodeC 6 [] [] [t, unitC] [], nodeC 6 [] [] [unitC, t] [], nodeC 10 [] [] [t, unitC, unitC] [], nodeC 11 [112, 114, 105, 110, 116] [] [t] [], nodeC 12 [67] [] [unitC, t] [], nodeC 14 [103, 101, 116] [] [t] [], matchT t]
def mayL (t : Cd) : List Cd := [nodeC 5 [120] [] [t] [], nodeC 7 [120] [] [t, t] [], nodeC 8 [120] [] [t, t] [], nodeC 9 [102] [120] [t, t] [], nodeC 10 [] [] [unitC, t, t] []]
theorem must_right {t : Cd} (h : rightC t = true) : ∀ u ∈ mustL t, rightC u = decide (t.kind ≤ 5) := by
  intro u hu
  rw [← atom_right h]
  simp only [mustL, List.mem_cons, List.not_mem_nil, or_false] at hu
  rcases hu with rfl | rfl | rfl | rfl | rfl | rfl | rfl
  all_goals
    try unfold matchT
    rw [right_node]
    simp [headC, nodeC, Cd.kind, Cd.kids, Cd.arms, Cd.name, Cd.param, Cd.n, atomsC, h, right_unit, atom_unit, armsOk, armOk, armU, nameOk, primN, Ca.vars, Ca.name, Ca.tail, Ca.body]
theorem may_right {t : Cd} (h : rightC t = true) : ∀ u ∈ mayL t, rightC u = true := by
  intro u hu
  simp only [mayL, List.mem_cons, List.not_mem_nil, or_false] at hu
  rcases hu with rfl | rfl | rfl | rfl | rfl
  all_goals
    rw [right_node]
    simp [headC, nodeC, Cd.kind, Cd.kids, Cd.arms, Cd.name, Cd.param, Cd.n, atomsC, h, right_unit, atom_unit, armsOk]
theorem armU_R {m : Mem} : CaR m armU [S [67], .slice none 0 0, .bool false, .int .i64 4, S [], S [], .int .i64 0, .slice none 0 0, .slice none 0 0] := ⟨none, 0, cdV unitC noY, rfl, Sl.empty, unit_R⟩
theorem match_R {m : Mem} {t : Cd} {g q : Nat} {vs : List Value} (hc : CellsAt m ⟨g, 0, none⟩ vs) (h : CdR m t vs) (ha : CellsAt m ⟨q, 0, none⟩ [S [67], .slice none 0 0, .bool false, .int .i64 4, S [], S [], .int .i64 0, .slice none 0 0, .slice none 0 0]) : CdR m (matchT t) (cdV (matchT t) ⟨some ⟨g, 0, none⟩, 1, some ⟨q, 0, none⟩, 1⟩) :=
  CdR.build (show InI64 13 from ⟨by decide, by decide⟩) i0 (Sl.one (R := fun m vs t => CdR m t vs) hc h.len h) (Sl.one (R := fun m vs t => CaR m t vs) ha rfl armU_R)
set_option maxHeartbeats 3200000 in
theorem codeAtoms_c {w : World} {m : Mem} {t : Cd} {vs_t : List Value} (hA : Agree w m) (h_t : CdR m t vs_t) (hT : Tab w) : FnV Tryd.prog 9 #[.agg vs_t.toArray] w m (fun _ _ v => v = .bool true) := by
  obtain ⟨⟨oK_t, cK_t, oA_t, cA_t⟩, rfl, ⟨hik_t, hin_t⟩, hkk_t, haa_t⟩ := h_t.open_
  dsimp only at hkk_t haa_t
  have hbg_t := hkk_t.big; have hcp_t := hkk_t.cap; have hbh_t := haa_t.big; have hcq_t := haa_t.cap
  refine fn_enter (vs := [_]) Tryd.func9 rfl rfl rfl fun a0 hfr0 => ?_
  have hst0 := st_enter hA (loc_nil [] _ w m)
  have hM : MLe m m := MLe.refl m
  refine seq_any fun _ hK1 => ?_
  refine rp0 hst0 hfr0 (.cons rfl (ob_box rfl rfl) <| .cons rfl (ob_assign rfl) <| .nil) ?_
  intro a1 w1 m1 hst1 hle1 hk1
  have hfr1 := hk1.fr (T' := []) (.nil)
  obtain ⟨g2, e2, hc1⟩ := hk1.ex 1 rfl
  replace hfr1 := hfr1.cons e2
  replace h_t := h_t.mono hle1
  clear hst0 hfr0 hk1
  refine hK1 _ _ ?_; clear hK1
  refine seq_any fun _ hK3 => ?_
  refine rp0 hst1 hfr1 (.cons rfl (ob_callE rfl (.nil) Tryd.call10 (fun w m hK => by have hle_ := KC.le hK; have hA := KC.agree hK; have hT := tab_keep hT hK.st.ext; exact shown_c hA hT)) <| .cons rfl (ob_assign rfl) <| .nil) ?_
  intro a2 w2 m2 hst2 hle2 hk2
  have hfr2 := hk2.fr (T' := [(1, _), (3, _)]) (.old rfl rfl <| .new rfl <| .nil)
  replace h_t := h_t.mono hle2
  replace hc1 := hc1.mono hle2
  clear hst1 hfr1 hk2
  refine hK3 _ _ ?_; clear hK3
  refine seq_any fun _ hK4 => ?_
  refine seq_any fun _ hK5 => ?_
  refine rp0 hst2 hfr2 (.cons rfl (ob_loadS' rfl hc1 Tryd.isAgg25 Tryd.sizeOf25 rfl rfl) <| .cons rfl (ob_callE rfl (.cons rfl <| .nil) Tryd.call11 (fun w m hK => by have hle_ := KC.le hK; have hA := KC.agree hK; have h_t := h_t.mono hle_; exact count_c t hA h_t)) <| .cons rfl (ob_gtr rfl rfl) <| .cons rfl (ob_move rfl) <| .cons rfl (ob_loadS' rfl hc1 Tryd.isAgg25 Tryd.sizeOf25 rfl rfl) <| .cons rfl (ob_callE rfl (.cons rfl <| .nil) Tryd.call12 (fun w m hK => by have hle_ := KC.le hK; have hA := KC.agree hK; have h_t := h_t.mono hle_; exact right_c t hA h_t)) <| .cons rfl (ob_not rfl) <| .cons rfl (ob_or rfl rfl rfl) <| .nil) ?_
  intro a3 w3 m3 hst3 hle3 hk3
  have hfr3 := hk3.fr (T' := [(1, _), (3, _), (19, _)]) (.old rfl rfl <| .old rfl rfl <| .new rfl <| .nil)
  replace h_t := h_t.mono hle3
  replace hc1 := hc1.mono hle3
  clear hst2 hfr2 hk3
  refine hK5 _ _ ?_; clear hK5
  refine cond_any hfr3 rfl rfl (fun hb19 => ?_) (fun hb19 => ?_)
  · try simp only [nq1, nq2, nq3, nq4, nq5, nq6, nq7, nq8, nq9, u8_eq] at hb19
    refine seq_any fun _ hK6 => ?_
    refine rp0 hst3 hfr3 (.cons rfl (ob_move rfl) <| .cons rfl (ob_assign rfl) <| .nil) ?_
    intro a4 w4 m4 hst4 hle4 hk4
    have hfr4 := hk4.fr (T' := [(2, _)]) (.new rfl <| .nil)
    clear hst3 hfr3 hk4
    refine hK6 _ _ ?_; clear hK6
    refine wp_ret ?_
    repeat (with_reducible first | refine then_ret ?_ | refine block_ret ?_)
    exact fn_ret hst4 hfr4 rfl (.tmp rfl <| .nil) (rfl)
  · try simp only [nq1, nq2, nq3, nq4, nq5, nq6, nq7, nq8, nq9, u8_eq] at hb19
    have hrt : rightC t = true := hb19.2
    refine wp_skip ?_
    refine hK4 _ _ ?_; clear hK4
    refine seq_any fun _ hK8 => ?_
    refine rp0 hst3 hfr3 (.cons rfl (ob_fieldAddrO (off := 0) rfl Tryd.underlying25 rfl rfl Tryd.sizeOf3 rfl) <| .cons rfl (ob_load1 rfl hc1 Tryd.isAgg3 rfl) <| .cons rfl (ob_leq rfl rfl) <| .cons rfl (ob_assign rfl) <| .nil) ?_
    intro a4 w4 m4 hst4 hle4 hk4
    have hfr4 := hk4.fr (T' := [(1, _), (3, _), (4, _)]) (.old rfl rfl <| .old rfl rfl <| .new rfl <| .nil)
    replace h_t := h_t.mono hle4
    replace hc1 := hc1.mono hle4
    clear hst3 hfr3 hk4
    refine hK8 _ _ ?_; clear hK8
    refine seq_any fun _ hK9 => ?_
    replace hst4 := hst4.more (r := .free) trivial List.nodup_nil (by simp [Res.blocks])
    refine ra0 (tch := [(1, 0, (fun v => .blk v _)), (2, 0, (fun v => .blk v _))]) hst4 hfr4 (.cons rfl (ob_buildS (cs := cdV unitC noY) (.cons rfl <| .nil) Tryd.underlying25 Tryd.zeroValue25 (.cons Tryd.sizeOf3 <| .cons Tryd.sizeOf9 <| .cons Tryd.sizeOf9 <| .cons Tryd.sizeOf3 <| .cons Tryd.sizeOf22 <| .cons Tryd.sizeOf23 <| .nil) (rfl)) <| .consT rfl rfl (fun _ => rfl) rfl (ob_allocL Tryd.zeroValue25 rfl) <| .consT rfl rfl (fun _ => rfl) rfl (ob_imgT 5 rfl rfl rfl fun y5 => ob_storeF rfl rfl rfl rfl rfl Tryd.sizeOf25 rfl rfl rfl) <| .nil) ?_
    intro a5 w5 m5 hst5 hle5 hk5
    have hfr5 := hk5.fr (T' := [(1, _), (3, _), (4, _)]) (.old rfl rfl <| .old rfl rfl <| .old rfl rfl <| .nil)
    obtain ⟨g5, e10, _⟩ := hk5.ex 5 rfl
    replace hfr5 := hfr5.cons e10
    replace hst5 := hst5.fin (L' := [_]) (.cons e10 <| .cons e10 <| .nil)
    try simp only [List.take_succ_cons, List.take_zero, List.drop_succ_cons, List.drop_zero, List.cons_append, List.nil_append, List.append_nil, List.length_cons, List.length_nil, Nat.zero_add, Nat.reduceAdd] at hst5
    replace h_t := h_t.mono hle5
    replace hc1 := hc1.mono hle5
    clear hst4 hfr4 hk5
    refine hK9 _ _ ?_; clear hK9
    refine seq_any fun _ hK11 => ?_
    refine region_cut 5 (by kernel_rfl) ?_
    refine ops_seq (tch := []) hst5 hfr5 (by kernel_rfl) (by kernel_rfl) (by kernel_rfl) (.cons rfl (ob_loadS' rfl hc1 Tryd.isAgg25 Tryd.sizeOf25 rfl rfl) <| .cons rfl (ob_buildSlice1 rfl Tryd.underlying22 Tryd.sizeOf25 Tryd.zeroValue25 rfl rfl rfl rfl) <| .cons rfl (ob_loadLA (j := 0) rfl rfl Tryd.isAgg25 Tryd.sizeOf25 rfl) <| .cons rfl (ob_buildS (cs := [S [67], .slice none 0 0, .bool false, .int .i64 4, S [], S [], .int .i64 0, .slice none 0 0, .slice none 0 0]) (.cons rfl <| .cons rfl <| .nil) Tryd.underlying35 Tryd.zeroValue35 (.cons Tryd.sizeOf9 <| .cons Tryd.sizeOf29 <| .cons Tryd.sizeOf4 <| .cons Tryd.sizeOf25 <| .nil) (rfl)) <| .cons rfl (ob_buildSlice1 rfl Tryd.underlying23 Tryd.sizeOf35 Tryd.zeroValue35 rfl rfl rfl rfl) <| .nil) ?_
    intro a6 w6 m6 hst6 hle6 hk6
    have hfr6 := hk6.fr (T' := [(1, _), (3, _), (4, _), (5, _)]) (.old rfl rfl <| .old rfl rfl <| .old rfl rfl <| .old rfl rfl <| .nil)
    obtain ⟨gK, e12, hK9⟩ := hk6.ex 26 rfl
    replace hfr6 := hfr6.cons e12
    obtain ⟨gR, e13, hR9⟩ := hk6.ex 29 rfl
    replace hfr6 := hfr6.cons e13
    replace h_t := h_t.mono hle6
    replace hc1 := hc1.mono hle6
    clear hst5 hfr5 hk6
    have hmt : CdR m6 (matchT t) _ := match_R hK9 h_t hR9
    replace hst6 := hst6.more (r := .free) trivial List.nodup_nil (by simp [Res.blocks])
    refine ops_seq (tch := [(1, 1, (fun v => .blk v _)), (2, 1, (fun v => .blk v _))]) hst6 hfr6 (by kernel_rfl) (by kernel_rfl) (by kernel_rfl) (.cons rfl (ob_buildS (cs := cdV (matchT t) ⟨some ⟨gK, 0, none⟩, 1, some ⟨gR, 0, none⟩, 1⟩) (.cons rfl <| .cons rfl <| .cons rfl <| .nil) Tryd.underlying25 Tryd.zeroValue25 (.cons Tryd.sizeOf3 <| .cons Tryd.sizeOf9 <| .cons Tryd.sizeOf9 <| .cons Tryd.sizeOf3 <| .cons Tryd.sizeOf22 <| .cons Tryd.sizeOf23 <| .nil) (rfl)) <| .consT rfl rfl (fun _ => rfl) rfl (ob_allocL Tryd.zeroValue25 rfl) <| .consT rfl rfl (fun _ => rfl) rfl (ob_imgT 6 rfl rfl rfl fun y6 => ob_storeF rfl rfl rfl rfl rfl Tryd.sizeOf25 rfl rfl rfl) <| .nil) ?_
    intro a7 w7 m7 hst7 hle7 hk7
    have hfr7 := hk7.fr (T' := [(1, _), (3, _), (4, _), (5, _), (26, _), (29, _)]) (.old rfl rfl <| .old rfl rfl <| .old rfl rfl <| .old rfl rfl <| .old rfl rfl <| .old rfl rfl <| .nil)
    obtain ⟨g6, e14, _⟩ := hk7.ex 6 rfl
    replace hfr7 := hfr7.cons e14
    replace hst7 := hst7.fin (L' := [_, _]) (.cons e14 <| .cons e14 <| .nil)
    try simp only [List.take_succ_cons, List.take_zero, List.drop_succ_cons, List.drop_zero, List.cons_append, List.nil_append, List.append_nil, List.length_cons, List.length_nil, Nat.zero_add, Nat.reduceAdd] at hst7
    replace h_t := h_t.mono hle7
    replace hc1 := hc1.mono hle7
    replace hmt := hmt.mono hle7
    clear hst6 hfr6 hk7
    refine hK11 _ _ ?_; clear hK11
    refine seq_any fun _ hK15 => ?_
    refine region_cut 24 (by kernel_rfl) ?_
    refine ops_seq (tch := []) hst7 hfr7 (by kernel_rfl) (by kernel_rfl) (by kernel_rfl) (.cons rfl (ob_loadS' rfl hc1 Tryd.isAgg25 Tryd.sizeOf25 rfl rfl) <| .cons rfl (ob_loadLA (j := 0) rfl rfl Tryd.isAgg25 Tryd.sizeOf25 rfl) <| .cons rfl (ob_buildSlice2 rfl rfl Tryd.underlying22 Tryd.sizeOf25 Tryd.zeroValue25 rfl rfl rfl rfl rfl) <| .cons rfl (ob_imgV 33 rfl rfl rfl fun y33 => ob_buildS (cs := cdV (nodeC 6 [] [] [t, unitC] []) ⟨some ⟨y33, 0, none⟩, 2, none, 0⟩) (.cons rfl <| .cons rfl <| .nil) Tryd.underlying25 Tryd.zeroValue25 (.cons Tryd.sizeOf3 <| .cons Tryd.sizeOf9 <| .cons Tryd.sizeOf9 <| .cons Tryd.sizeOf3 <| .cons Tryd.sizeOf22 <| .cons Tryd.sizeOf23 <| .nil) (rfl)) <| .cons rfl (ob_loadLA (j := 0) rfl rfl Tryd.isAgg25 Tryd.sizeOf25 rfl) <| .cons rfl (ob_loadS' rfl hc1 Tryd.isAgg25 Tryd.sizeOf25 rfl rfl) <| .cons rfl (ob_buildSlice2 rfl rfl Tryd.underlying22 Tryd.sizeOf25 Tryd.zeroValue25 rfl rfl rfl rfl rfl) <| .cons rfl (ob_imgV 37 rfl rfl rfl fun y37 => ob_buildS (cs := cdV (nodeC 6 [] [] [unitC, t] []) ⟨some ⟨y37, 0, none⟩, 2, none, 0⟩) (.cons rfl <| .cons rfl <| .nil) Tryd.underlying25 Tryd.zeroValue25 (.cons Tryd.sizeOf3 <| .cons Tryd.sizeOf9 <| .cons Tryd.sizeOf9 <| .cons Tryd.sizeOf3 <| .cons Tryd.sizeOf22 <| .cons Tryd.sizeOf23 <| .nil) (rfl)) <| .cons rfl (ob_loadS' rfl hc1 Tryd.isAgg25 Tryd.sizeOf25 rfl rfl) <| .cons rfl (ob_loadLA (j := 0) rfl rfl Tryd.isAgg25 Tryd.sizeOf25 rfl) <| .cons rfl (ob_loadLA (j := 0) rfl rfl Tryd.isAgg25 Tryd.sizeOf25 rfl) <| .cons rfl (ob_buildSliceN [_, _, _] (.cons rfl <| .cons rfl <| .cons rfl <| .nil) rfl Tryd.underlying22 Tryd.sizeOf25 Tryd.zeroValue25 rfl rfl rfl rfl rfl) <| .cons rfl (ob_imgV 42 rfl rfl rfl fun y42 => ob_buildS (cs := cdV (nodeC 10 [] [] [t, unitC, unitC] []) ⟨some ⟨y42, 0, none⟩, 3, none, 0⟩) (.cons rfl <| .cons rfl <| .nil) Tryd.underlying25 Tryd.zeroValue25 (.cons Tryd.sizeOf3 <| .cons Tryd.sizeOf9 <| .cons Tryd.sizeOf9 <| .cons Tryd.sizeOf3 <| .cons Tryd.sizeOf22 <| .cons Tryd.sizeOf23 <| .nil) (rfl)) <| .cons rfl (ob_loadS' rfl hc1 Tryd.isAgg25 Tryd.sizeOf25 rfl rfl) <| .cons rfl (ob_buildSlice1 rfl Tryd.underlying22 Tryd.sizeOf25 Tryd.zeroValue25 rfl rfl rfl rfl) <| .cons rfl (ob_imgV 45 rfl rfl rfl fun y45 => ob_buildS (cs := cdV (nodeC 11 [112, 114, 105, 110, 116] [] [t] []) ⟨some ⟨y45, 0, none⟩, 1, none, 0⟩) (.cons rfl <| .cons rfl <| .cons rfl <| .nil) Tryd.underlying25 Tryd.zeroValue25 (.cons Tryd.sizeOf3 <| .cons Tryd.sizeOf9 <| .cons Tryd.sizeOf9 <| .cons Tryd.sizeOf3 <| .cons Tryd.sizeOf22 <| .cons Tryd.sizeOf23 <| .nil) (rfl)) <| .cons rfl (ob_loadLA (j := 0) rfl rfl Tryd.isAgg25 Tryd.sizeOf25 rfl) <| .cons rfl (ob_loadS' rfl hc1 Tryd.isAgg25 Tryd.sizeOf25 rfl rfl) <| .cons rfl (ob_buildSlice2 rfl rfl Tryd.underlying22 Tryd.sizeOf25 Tryd.zeroValue25 rfl rfl rfl rfl rfl) <| .cons rfl (ob_imgV 49 rfl rfl rfl fun y49 => ob_buildS (cs := cdV (nodeC 12 [67] [] [unitC, t] []) ⟨some ⟨y49, 0, none⟩, 2, none, 0⟩) (.cons rfl <| .cons rfl <| .cons rfl <| .nil) Tryd.underlying25 Tryd.zeroValue25 (.cons Tryd.sizeOf3 <| .cons Tryd.sizeOf9 <| .cons Tryd.sizeOf9 <| .cons Tryd.sizeOf3 <| .cons Tryd.sizeOf22 <| .cons Tryd.sizeOf23 <| .nil) (rfl)) <| .cons rfl (ob_loadS' rfl hc1 Tryd.isAgg25 Tryd.sizeOf25 rfl rfl) <| .cons rfl (ob_buildSlice1 rfl Tryd.underlying22 Tryd.sizeOf25 Tryd.zeroValue25 rfl rfl rfl rfl) <| .cons rfl (ob_imgV 52 rfl rfl rfl fun y52 => ob_buildS (cs := cdV (nodeC 14 [103, 101, 116] [] [t] []) ⟨some ⟨y52, 0, none⟩, 1, none, 0⟩) (.cons rfl <| .cons rfl <| .cons rfl <| .nil) Tryd.underlying25 Tryd.zeroValue25 (.cons Tryd.sizeOf3 <| .cons Tryd.sizeOf9 <| .cons Tryd.sizeOf9 <| .cons Tryd.sizeOf3 <| .cons Tryd.sizeOf22 <| .cons Tryd.sizeOf23 <| .nil) (rfl)) <| .cons rfl (ob_loadLA (j := 1) rfl rfl Tryd.isAgg25 Tryd.sizeOf25 rfl) <| .nil) ?_
    intro a8 w8 m8 hst8 hle8 hk8
    have hfr8 := hk8.fr (T' := [(1, _), (3, _), (4, _), (5, _), (26, _), (29, _), (6, _), (54, _)]) (.old rfl rfl <| .old rfl rfl <| .old rfl rfl <| .old rfl rfl <| .old rfl rfl <| .old rfl rfl <| .old rfl rfl <| .new rfl <| .nil)
    obtain ⟨gA34, e16, hA34⟩ := hk8.ex 34 rfl
    replace hfr8 := hfr8.cons e16
    obtain ⟨gA38, e17, hA38⟩ := hk8.ex 38 rfl
    replace hfr8 := hfr8.cons e17
    obtain ⟨gA43, e18, hA43⟩ := hk8.ex 43 rfl
    replace hfr8 := hfr8.cons e18
    obtain ⟨gA46, e19, hA46⟩ := hk8.ex 46 rfl
    replace hfr8 := hfr8.cons e19
    obtain ⟨gA50, e20, hA50⟩ := hk8.ex 50 rfl
    replace hfr8 := hfr8.cons e20
    obtain ⟨gA53, e21, hA53⟩ := hk8.ex 53 rfl
    replace hfr8 := hfr8.cons e21
    replace h_t := h_t.mono hle8
    replace hc1 := hc1.mono hle8
    replace hmt := hmt.mono hle8
    clear hst7 hfr7 hk8
    have hC34 : CdR m8 (nodeC 6 [] [] [t, unitC] []) _ := node2_R ⟨by decide, by decide⟩ hA34 h_t unit_R
    have hC38 : CdR m8 (nodeC 6 [] [] [unitC, t] []) _ := node2_R ⟨by decide, by decide⟩ hA38 unit_R h_t
    have hC43 : CdR m8 (nodeC 10 [] [] [t, unitC, unitC] []) _ := node3_R ⟨by decide, by decide⟩ hA43 h_t unit_R unit_R
    have hC46 : CdR m8 (nodeC 11 [112, 114, 105, 110, 116] [] [t] []) _ := node1_R ⟨by decide, by decide⟩ hA46 h_t
    have hC50 : CdR m8 (nodeC 12 [67] [] [unitC, t] []) _ := node2_R ⟨by decide, by decide⟩ hA50 unit_R h_t
    have hC53 : CdR m8 (nodeC 14 [103, 101, 116] [] [t] []) _ := node1_R ⟨by decide, by decide⟩ hA53 h_t
    refine ops_seq (tch := []) hst8 hfr8 (by kernel_rfl) (by kernel_rfl) (by kernel_rfl) (.cons rfl (ob_buildSliceN [_, _, _, _, _, _, _] (.cons rfl <| .cons rfl <| .cons rfl <| .cons rfl <| .cons rfl <| .cons rfl <| .cons rfl <| .nil) rfl Tryd.underlying22 Tryd.sizeOf25 Tryd.zeroValue25 rfl rfl rfl rfl rfl) <| .consA 55 rfl rfl <| .nil) ?_
    intro a9 w9 m9 hst9 hle9 hk9
    have hfr9 := hk9.fr (T' := [(1, _), (3, _), (4, _), (5, _), (26, _), (29, _), (6, _), (54, _), (34, _), (38, _), (43, _), (46, _), (50, _), (53, _)]) (.old rfl rfl <| .old rfl rfl <| .old rfl rfl <| .old rfl rfl <| .old rfl rfl <| .old rfl rfl <| .old rfl rfl <| .old rfl rfl <| .old rfl rfl <| .old rfl rfl <| .old rfl rfl <| .old rfl rfl <| .old rfl rfl <| .old rfl rfl <| .nil)
    obtain ⟨gM, e22, hMM⟩ := hk9.ex 55 rfl
    replace hfr9 := hfr9.cons e22
    replace hfr9 := hfr9.cons (hk9.same 7 rfl e22)
    replace h_t := h_t.mono hle9
    replace hc1 := hc1.mono hle9
    replace hmt := hmt.mono hle9
    replace hC34 := hC34.mono hle9
    replace hC38 := hC38.mono hle9
    replace hC43 := hC43.mono hle9
    replace hC46 := hC46.mono hle9
    replace hC50 := hC50.mono hle9
    replace hC53 := hC53.mono hle9
    clear hst8 hfr8 hk9
    have hmust : Cds m9 (some ⟨gM, 0, none⟩) 7 7 (mustL t) := cds_cells [((nodeC 6 [] [] [t, unitC] []), _), ((nodeC 6 [] [] [unitC, t] []), _), ((nodeC 10 [] [] [t, unitC, unitC] []), _), ((nodeC 11 [112, 114, 105, 110, 116] [] [t] []), _), ((nodeC 12 [67] [] [unitC, t] []), _), ((nodeC 14 [103, 101, 116] [] [t] []), _), (matchT t, _)] hMM (allR _ ⟨hC34, hC38, hC43, hC46, hC50, hC53, hmt, trivial⟩) (Nat.le_of_ble_eq_true rfl)
    have hl7 : (mustL t).length = 7 := rfl
    refine hK15 _ _ ?_; clear hK15
    refine seq_any fun _ hK23 => ?_
    refine seq_any fun _ hK24 => ?_
    refine rp0 hst9 hfr9 (.cons rfl (ob_assign rfl) <| .nil) ?_
    intro a10 w10 m10 hst10 hle10 hk10
    have hfr10 := hk10.fr (T' := [(1, _), (3, _), (4, _), (5, _), (7, _), (8, _)]) (.old rfl rfl <| .old rfl rfl <| .old rfl rfl <| .old rfl rfl <| .old rfl rfl <| .new rfl <| .nil)
    replace h_t := h_t.mono hle10
    replace hc1 := hc1.mono hle10
    replace hmust := hmust.mono hle10
    clear hst9 hfr9 hk10
    refine hK24 _ _ ?_; clear hK24
    refine wp_block ?_
    refine loop_any (T := [(1, _), (3, _), (4, _), (5, _), (7, _)]) (fun (y : Nat) => ([(8, .int .i64 (y : Int))] : List (Nat × Value))) (fun _ => _) (fun (y : Nat) m => (y ≤ 7)) (fun y => 7 - y) (0) ⟨hst10, MLe.refl _, hfr10.sub (.cons rfl <| .cons rfl <| .cons rfl <| .cons rfl <| .cons rfl <| .cons rfl <| .nil), Nat.zero_le _⟩ fun y a11 w11 m11 hh11 => ?_
    have hst11 := hh11.st; have hle11 := hh11.le; have hfr11 := hh11.fr; have hrel := hh11.rel; clear hh11
    replace h_t := h_t.mono hle11
    replace hc1 := hc1.mono hle11
    replace hmust := hmust.mono hle11
    clear hst10 hfr10
    have hyn := hrel
    have hlh11 := hle11
    refine seq_any fun _ hK26 => ?_
    refine seq_any fun _ hK27 => ?_
    refine rp0 hst11 hfr11 (.cons rfl (ob_move rfl) <| .cons rfl (ob_move rfl) <| .cons rfl (ob_len rfl Tryd.underlying22) <| .cons rfl (ob_lss rfl rfl) <| .nil) ?_
    intro a12 w12 m12 hst12 hle12 hk12
    have hfr12 := hk12.fr (T' := [(8, _), (1, _), (3, _), (4, _), (5, _), (7, _), (59, _)]) (.old rfl rfl <| .old rfl rfl <| .old rfl rfl <| .old rfl rfl <| .old rfl rfl <| .old rfl rfl <| .new rfl <| .nil)
    replace h_t := h_t.mono hle12
    replace hc1 := hc1.mono hle12
    replace hmust := hmust.mono hle12
    have hlh12 := hlh11.trans hle12
    clear hst11 hfr11 hk12
    refine hK27 _ _ ?_; clear hK27
    refine cond_any hfr12 rfl rfl (fun hb59 => ?_) (fun hb59 => ?_)
    · try simp only [nq1, nq2, nq3, nq4, nq5, nq6, nq7, nq8, nq9, u8_eq] at hb59
      refine wp_skip ?_
      refine hK26 _ _ ?_; clear hK26
      refine seq_any fun _ hK28 => ?_
      refine wp_block ?_
      refine seq_any fun _ hK29 => ?_
      obtain ⟨p30, vs30, x30, ho30, hd30, hm_x30, ht30, hcv30, hl30, hv30⟩ := hmust.nth (k := y) (by omega)
      cases ho30
      obtain ⟨⟨oK30, cK30, oA30, cA30⟩, rfl, ⟨hik30, hin30⟩, hkk30, haa30⟩ := hv30.open_
      dsimp only at hkk30 haa30
      have hbg30 := hkk30.big; have hcp30 := hkk30.cap; have hbh30 := haa30.big; have hcq30 := haa30.cap
      refine rp0 hst12 hfr12 (.cons rfl (ob_move rfl) <| .cons rfl (ob_move rfl) <| .cons rfl (ob_indexAddr (k := y) rfl rfl Tryd.underlying22 Tryd.sizeOf25 rfl (by omega)) <| .cons rfl (ob_loadS' rfl hcv30 Tryd.isAgg25 Tryd.sizeOf25 rfl rfl) <| .cons rfl (ob_callE rfl (.cons rfl <| .nil) Tryd.call12 (fun w m hK => by have hle_ := KC.le hK; have hA := KC.agree hK; have hv30 := hv30.mono hle_; exact right_c x30 hA hv30)) <| .cons rfl (ob_move rfl) <| .cons rfl (ob_bneq rfl rfl Tryd.underlying4) <| .nil) ?_
      intro a13 w13 m13 hst13 hle13 hk13
      have hfr13 := hk13.fr (T' := [(8, _), (1, _), (3, _), (4, _), (5, _), (7, _), (68, _)]) (.old rfl rfl <| .old rfl rfl <| .old rfl rfl <| .old rfl rfl <| .old rfl rfl <| .old rfl rfl <| .new rfl <| .nil)
      have hlh13 := hlh12.trans hle13
      clear hst12 hfr12 hk13
      have hmr := must_right hrt x30 hm_x30
      refine hK29 _ _ ?_; clear hK29
      refine cond_any hfr13 rfl rfl (fun hb68 => ?_) (fun hb68 => ?_)
      · exact absurd hmr (by simpa using hb68)
      · try simp only [nq1, nq2, nq3, nq4, nq5, nq6, nq7, nq8, nq9, u8_eq] at hb68
        refine wp_skip ?_
        refine hK28 _ _ ?_; clear hK28
        refine rp0 hst13 hfr13 (.cons rfl (ob_move rfl) <| .cons rfl (ob_add rfl rfl ⟨by omega, by omega⟩) <| .cons rfl (ob_assign rfl) <| .nil) ?_
        intro a14 w14 m14 hst14 hle14 hk14
        have hfr14 := hk14.fr (T' := [(1, _), (3, _), (4, _), (5, _), (7, _), (8, _)]) (.old rfl rfl <| .old rfl rfl <| .old rfl rfl <| .old rfl rfl <| .old rfl rfl <| .new rfl <| .nil)
        have hlh14 := hlh13.trans hle14
        clear hst13 hfr13 hk14
        exact ⟨y + 1, m14, by show 7 - (y + 1) < 7 - y; omega, ⟨hst14, hlh14, hfr14.sub (.cons rfl <| .cons rfl <| .cons rfl <| .cons rfl <| .cons rfl <| .cons rfl <| .nil), by show y + 1 ≤ 7; omega⟩⟩
    · try simp only [nq1, nq2, nq3, nq4, nq5, nq6, nq7, nq8, nq9, u8_eq] at hb59
      have hge : y = 7 := by omega
      refine wp_exit ?_
      refine hK23 _ _ ?_; clear hK23
      refine seq_any fun _ hK31 => ?_
      refine region_cut 20 (by kernel_rfl) ?_
      refine ops_seq (tch := []) hst12 hfr12 (by kernel_rfl) (by kernel_rfl) (by kernel_rfl) (.cons rfl (ob_loadS' rfl hc1 Tryd.isAgg25 Tryd.sizeOf25 rfl rfl) <| .cons rfl (ob_buildSlice1 rfl Tryd.underlying22 Tryd.sizeOf25 Tryd.zeroValue25 rfl rfl rfl rfl) <| .cons rfl (ob_imgV 70 rfl rfl rfl fun y70 => ob_buildS (cs := cdV (nodeC 5 [120] [] [t] []) ⟨some ⟨y70, 0, none⟩, 1, none, 0⟩) (.cons rfl <| .cons rfl <| .cons rfl <| .nil) Tryd.underlying25 Tryd.zeroValue25 (.cons Tryd.sizeOf3 <| .cons Tryd.sizeOf9 <| .cons Tryd.sizeOf9 <| .cons Tryd.sizeOf3 <| .cons Tryd.sizeOf22 <| .cons Tryd.sizeOf23 <| .nil) (rfl)) <| .cons rfl (ob_loadS' rfl hc1 Tryd.isAgg25 Tryd.sizeOf25 rfl rfl) <| .cons rfl (ob_loadS' rfl hc1 Tryd.isAgg25 Tryd.sizeOf25 rfl rfl) <| .cons rfl (ob_buildSlice2 rfl rfl Tryd.underlying22 Tryd.sizeOf25 Tryd.zeroValue25 rfl rfl rfl rfl rfl) <| .cons rfl (ob_imgV 74 rfl rfl rfl fun y74 => ob_buildS (cs := cdV (nodeC 7 [120] [] [t, t] []) ⟨some ⟨y74, 0, none⟩, 2, none, 0⟩) (.cons rfl <| .cons rfl <| .cons rfl <| .nil) Tryd.underlying25 Tryd.zeroValue25 (.cons Tryd.sizeOf3 <| .cons Tryd.sizeOf9 <| .cons Tryd.sizeOf9 <| .cons Tryd.sizeOf3 <| .cons Tryd.sizeOf22 <| .cons Tryd.sizeOf23 <| .nil) (rfl)) <| .cons rfl (ob_loadS' rfl hc1 Tryd.isAgg25 Tryd.sizeOf25 rfl rfl) <| .cons rfl (ob_loadS' rfl hc1 Tryd.isAgg25 Tryd.sizeOf25 rfl rfl) <| .cons rfl (ob_buildSlice2 rfl rfl Tryd.underlying22 Tryd.sizeOf25 Tryd.zeroValue25 rfl rfl rfl rfl rfl) <| .cons rfl (ob_imgV 78 rfl rfl rfl fun y78 => ob_buildS (cs := cdV (nodeC 8 [120] [] [t, t] []) ⟨some ⟨y78, 0, none⟩, 2, none, 0⟩) (.cons rfl <| .cons rfl <| .cons rfl <| .nil) Tryd.underlying25 Tryd.zeroValue25 (.cons Tryd.sizeOf3 <| .cons Tryd.sizeOf9 <| .cons Tryd.sizeOf9 <| .cons Tryd.sizeOf3 <| .cons Tryd.sizeOf22 <| .cons Tryd.sizeOf23 <| .nil) (rfl)) <| .cons rfl (ob_loadS' rfl hc1 Tryd.isAgg25 Tryd.sizeOf25 rfl rfl) <| .cons rfl (ob_loadS' rfl hc1 Tryd.isAgg25 Tryd.sizeOf25 rfl rfl) <| .cons rfl (ob_buildSlice2 rfl rfl Tryd.underlying22 Tryd.sizeOf25 Tryd.zeroValue25 rfl rfl rfl rfl rfl) <| .cons rfl (ob_imgV 82 rfl rfl rfl fun y82 => ob_buildS (cs := cdV (nodeC 9 [102] [120] [t, t] []) ⟨some ⟨y82, 0, none⟩, 2, none, 0⟩) (.cons rfl <| .cons rfl <| .cons rfl <| .cons rfl <| .nil) Tryd.underlying25 Tryd.zeroValue25 (.cons Tryd.sizeOf3 <| .cons Tryd.sizeOf9 <| .cons Tryd.sizeOf9 <| .cons Tryd.sizeOf3 <| .cons Tryd.sizeOf22 <| .cons Tryd.sizeOf23 <| .nil) (rfl)) <| .cons rfl (ob_loadLA (j := 0) rfl rfl Tryd.isAgg25 Tryd.sizeOf25 rfl) <| .cons rfl (ob_loadS' rfl hc1 Tryd.isAgg25 Tryd.sizeOf25 rfl rfl) <| .cons rfl (ob_loadS' rfl hc1 Tryd.isAgg25 Tryd.sizeOf25 rfl rfl) <| .cons rfl (ob_buildSliceN [_, _, _] (.cons rfl <| .cons rfl <| .cons rfl <| .nil) rfl Tryd.underlying22 Tryd.sizeOf25 Tryd.zeroValue25 rfl rfl rfl rfl rfl) <| .cons rfl (ob_imgV 87 rfl rfl rfl fun y87 => ob_buildS (cs := cdV (nodeC 10 [] [] [unitC, t, t] []) ⟨some ⟨y87, 0, none⟩, 3, none, 0⟩) (.cons rfl <| .cons rfl <| .nil) Tryd.underlying25 Tryd.zeroValue25 (.cons Tryd.sizeOf3 <| .cons Tryd.sizeOf9 <| .cons Tryd.sizeOf9 <| .cons Tryd.sizeOf3 <| .cons Tryd.sizeOf22 <| .cons Tryd.sizeOf23 <| .nil) (rfl)) <| .nil) ?_
      intro a13 w13 m13 hst13 hle13 hk13
      have hfr13 := hk13.fr (T' := [(8, _), (1, _), (3, _), (4, _), (5, _), (7, _)]) (.old rfl rfl <| .old rfl rfl <| .old rfl rfl <| .old rfl rfl <| .old rfl rfl <| .old rfl rfl <| .nil)
      obtain ⟨gA71, e32, hA71⟩ := hk13.ex 71 rfl
      replace hfr13 := hfr13.cons e32
      obtain ⟨gA75, e33, hA75⟩ := hk13.ex 75 rfl
      replace hfr13 := hfr13.cons e33
      obtain ⟨gA79, e34, hA79⟩ := hk13.ex 79 rfl
      replace hfr13 := hfr13.cons e34
      obtain ⟨gA83, e35, hA83⟩ := hk13.ex 83 rfl
      replace hfr13 := hfr13.cons e35
      obtain ⟨gA88, e36, hA88⟩ := hk13.ex 88 rfl
      replace hfr13 := hfr13.cons e36
      replace h_t := h_t.mono hle13
      have hlh13 := hlh12.trans hle13
      clear hst12 hfr12 hk13
      have hC71 : CdR m13 (nodeC 5 [120] [] [t] []) _ := node1_R ⟨by decide, by decide⟩ hA71 h_t
      have hC75 : CdR m13 (nodeC 7 [120] [] [t, t] []) _ := node2_R ⟨by decide, by decide⟩ hA75 h_t h_t
      have hC79 : CdR m13 (nodeC 8 [120] [] [t, t] []) _ := node2_R ⟨by decide, by decide⟩ hA79 h_t h_t
      have hC83 : CdR m13 (nodeC 9 [102] [120] [t, t] []) _ := node2_R ⟨by decide, by decide⟩ hA83 h_t h_t
      have hC88 : CdR m13 (nodeC 10 [] [] [unitC, t, t] []) _ := node3_R ⟨by decide, by decide⟩ hA88 unit_R h_t h_t
      refine ops_seq (tch := []) hst13 hfr13 (by kernel_rfl) (by kernel_rfl) (by kernel_rfl) (.cons rfl (ob_buildSliceN [_, _, _, _, _] (.cons rfl <| .cons rfl <| .cons rfl <| .cons rfl <| .cons rfl <| .nil) rfl Tryd.underlying22 Tryd.sizeOf25 Tryd.zeroValue25 rfl rfl rfl rfl rfl) <| .consA 89 rfl rfl <| .nil) ?_
      intro a14 w14 m14 hst14 hle14 hk14
      have hfr14 := hk14.fr (T' := [(8, _), (1, _), (3, _), (4, _), (5, _), (7, _), (71, _), (75, _), (79, _), (83, _), (88, _)]) (.old rfl rfl <| .old rfl rfl <| .old rfl rfl <| .old rfl rfl <| .old rfl rfl <| .old rfl rfl <| .old rfl rfl <| .old rfl rfl <| .old rfl rfl <| .old rfl rfl <| .old rfl rfl <| .nil)
      obtain ⟨gN, e37, hN⟩ := hk14.ex 89 rfl
      replace hfr14 := hfr14.cons e37
      replace hfr14 := hfr14.cons (hk14.same 9 rfl e37)
      replace hC71 := hC71.mono hle14
      replace hC75 := hC75.mono hle14
      replace hC79 := hC79.mono hle14
      replace hC83 := hC83.mono hle14
      replace hC88 := hC88.mono hle14
      have hlh14 := hlh13.trans hle14
      clear hst13 hfr13 hk14
      have hmay : Cds m14 (some ⟨gN, 0, none⟩) 5 5 (mayL t) := cds_cells [((nodeC 5 [120] [] [t] []), _), ((nodeC 7 [120] [] [t, t] []), _), ((nodeC 8 [120] [] [t, t] []), _), ((nodeC 9 [102] [120] [t, t] []), _), ((nodeC 10 [] [] [unitC, t, t] []), _)] hN (allR _ ⟨hC71, hC75, hC79, hC83, hC88, trivial⟩) (Nat.le_of_ble_eq_true rfl)
      have hl9 : (mayL t).length = 5 := rfl
      refine hK31 _ _ ?_; clear hK31
      refine seq_any fun _ hK38 => ?_
      refine seq_any fun _ hK39 => ?_
      refine rp0 hst14 hfr14 (.cons rfl (ob_assign rfl) <| .nil) ?_
      intro a15 w15 m15 hst15 hle15 hk15
      have hfr15 := hk15.fr (T' := [(8, _), (3, _), (9, _), (10, _)]) (.old rfl rfl <| .old rfl rfl <| .old rfl rfl <| .new rfl <| .nil)
      replace hmay := hmay.mono hle15
      have hlh15 := hlh14.trans hle15
      clear hst14 hfr14 hk15
      refine hK39 _ _ ?_; clear hK39
      refine wp_block ?_
      have hlq40 := hlh15
      refine loop_any (T := [(8, _), (3, _), (9, _)]) (fun (y : Nat) => ([(10, .int .i64 (y : Int))] : List (Nat × Value))) (fun _ => _) (fun (y : Nat) m => (y ≤ 5)) (fun y => 5 - y) (0) ⟨hst15, MLe.refl _, hfr15.sub (.cons rfl <| .cons rfl <| .cons rfl <| .cons rfl <| .nil), Nat.zero_le _⟩ fun y a16 w16 m16 hh16 => ?_
      have hst16 := hh16.st; have hle16 := hh16.le; have hfr16 := hh16.fr; have hrel := hh16.rel; clear hh16
      replace hmay := hmay.mono hle16
      clear hst15 hfr15
      have hyn := hrel
      have hlh16 := hle16
      refine seq_any fun _ hK41 => ?_
      refine seq_any fun _ hK42 => ?_
      refine rp0 hst16 hfr16 (.cons rfl (ob_move rfl) <| .cons rfl (ob_move rfl) <| .cons rfl (ob_len rfl Tryd.underlying22) <| .cons rfl (ob_lss rfl rfl) <| .nil) ?_
      intro a17 w17 m17 hst17 hle17 hk17
      have hfr17 := hk17.fr (T' := [(10, _), (8, _), (3, _), (9, _), (93, _)]) (.old rfl rfl <| .old rfl rfl <| .old rfl rfl <| .old rfl rfl <| .new rfl <| .nil)
      replace hmay := hmay.mono hle17
      have hlh17 := hlh16.trans hle17
      clear hst16 hfr16 hk17
      refine hK42 _ _ ?_; clear hK42
      refine cond_any hfr17 rfl rfl (fun hb93 => ?_) (fun hb93 => ?_)
      · try simp only [nq1, nq2, nq3, nq4, nq5, nq6, nq7, nq8, nq9, u8_eq] at hb93
        refine wp_skip ?_
        refine hK41 _ _ ?_; clear hK41
        refine seq_any fun _ hK43 => ?_
        refine wp_block ?_
        refine seq_any fun _ hK44 => ?_
        obtain ⟨p45, vs45, x45, ho45, hd45, hm_x45, ht45, hcv45, hl45, hv45⟩ := hmay.nth (k := y) (by omega)
        cases ho45
        obtain ⟨⟨oK45, cK45, oA45, cA45⟩, rfl, ⟨hik45, hin45⟩, hkk45, haa45⟩ := hv45.open_
        dsimp only at hkk45 haa45
        have hbg45 := hkk45.big; have hcp45 := hkk45.cap; have hbh45 := haa45.big; have hcq45 := haa45.cap
        refine rp0 hst17 hfr17 (.cons rfl (ob_move rfl) <| .cons rfl (ob_move rfl) <| .cons rfl (ob_indexAddr (k := y) rfl rfl Tryd.underlying22 Tryd.sizeOf25 rfl (by omega)) <| .cons rfl (ob_loadS' rfl hcv45 Tryd.isAgg25 Tryd.sizeOf25 rfl rfl) <| .cons rfl (ob_callE rfl (.cons rfl <| .nil) Tryd.call12 (fun w m hK => by have hle_ := KC.le hK; have hA := KC.agree hK; have hv45 := hv45.mono hle_; exact right_c x45 hA hv45)) <| .cons rfl (ob_not rfl) <| .nil) ?_
        intro a18 w18 m18 hst18 hle18 hk18
        have hfr18 := hk18.fr (T' := [(10, _), (8, _), (3, _), (9, _), (101, _)]) (.old rfl rfl <| .old rfl rfl <| .old rfl rfl <| .old rfl rfl <| .new rfl <| .nil)
        have hlh18 := hlh17.trans hle18
        clear hst17 hfr17 hk18
        have hmr := may_right hrt x45 hm_x45
        refine hK44 _ _ ?_; clear hK44
        refine cond_any hfr18 rfl rfl (fun hb101 => ?_) (fun hb101 => ?_)
        · exact absurd hmr (by simpa using hb101)
        · try simp only [nq1, nq2, nq3, nq4, nq5, nq6, nq7, nq8, nq9, u8_eq] at hb101
          refine wp_skip ?_
          refine hK43 _ _ ?_; clear hK43
          refine rp0 hst18 hfr18 (.cons rfl (ob_move rfl) <| .cons rfl (ob_add rfl rfl ⟨by omega, by omega⟩) <| .cons rfl (ob_assign rfl) <| .nil) ?_
          intro a19 w19 m19 hst19 hle19 hk19
          have hfr19 := hk19.fr (T' := [(8, _), (3, _), (9, _), (10, _)]) (.old rfl rfl <| .old rfl rfl <| .old rfl rfl <| .new rfl <| .nil)
          have hlh19 := hlh18.trans hle19
          clear hst18 hfr18 hk19
          exact ⟨y + 1, m19, by show 5 - (y + 1) < 5 - y; omega, ⟨hst19, hlh19, hfr19.sub (.cons rfl <| .cons rfl <| .cons rfl <| .cons rfl <| .nil), by show y + 1 ≤ 5; omega⟩⟩
      · try simp only [nq1, nq2, nq3, nq4, nq5, nq6, nq7, nq8, nq9, u8_eq] at hb93
        have hge : y = 5 := by omega
        refine wp_exit ?_
        refine hK38 _ _ ?_; clear hK38
        refine seq_any fun _ hK46 => ?_
        refine rp0 hst17 hfr17 (.cons rfl (ob_move rfl) <| .cons rfl (ob_assign rfl) <| .nil) ?_
        intro a18 w18 m18 hst18 hle18 hk18
        have hfr18 := hk18.fr (T' := [(10, _), (8, _), (2, _)]) (.old rfl rfl <| .old rfl rfl <| .new rfl <| .nil)
        have hlh18 := hlh17.trans hle18
        clear hst17 hfr17 hk18
        refine hK46 _ _ ?_; clear hK46
        refine wp_ret ?_
        repeat (with_reducible first | refine then_ret ?_ | refine block_ret ?_)
        exact fn_ret hst18 hfr18 rfl (.tmp rfl <| .nil) (rfl)

end Go.Proofs.YtlihpgjabohebaaDoor
