/-
  A law of chapter 15, walked. Conditions: those of the theorem.
-/
import Derived.Test.YtlihpgjabohebaaDoorCref4
import Derived.Test.YtlihpgjabohebaaDoorCref
namespace Go.Proofs.YtlihpgjabohebaaDoor
set_option linter.all false
set_option maxRecDepth 4000
open Go.RowKit
theorem right_kind {t : Cd} (h : rightC t = true) : 1 ≤ t.kind ∧ t.kind ≤ 15 := by
  rcases kind_cases t with hk | hk
  · omega
  · rw [rightC_eq] at h
    have : headC t = false := by
      obtain ⟨h1, h2, h3, h4, h5, h6, h7, h8, h9, h10, h11, h12, h13, h14, h15⟩ := hk
      unfold headC; simp [*]
    rw [this] at h; cases h
theorem atom_right {t : Cd} (h : rightC t = true) : atomC t = decide (t.kind ≤ 5) := by
  have := (right_kind h).1
  unfold atomC; simp [this]
theorem right_node (k : Int) (s p : Str) (l : List Cd) (az : List Ca) : rightC (nodeC k s p l az) = (headC (nodeC k s p l az) && armsOk k 0 az && l.all rightC && az.all fun a => rightC a.body) := rightC_eq _
theorem right_unit : rightC unitC = true := by decide
theorem atom_unit : atomC unitC = true := by decide
theorem cds_cells {m : Mem} {g : Nat} (l : List (Cd × List Value)) (hc : CellsAt m ⟨g, 0, none⟩ (l.map Prod.snd).flatten) (h : ∀ x ∈ l, CdR m x.1 x.2) (hb : l.length ≤ 100) : Cds m (some ⟨g, 0, none⟩) l.length l.length (l.map Prod.fst) := by
  have h1 := Sl.of_row (R := fun m vs (x : Cd × List Value) => CdR m x.1 vs) (sz := 6) (f := Prod.snd) (.inr ⟨_, rfl, by rw [List.flatMap_def]; exact hc⟩) rfl (Nat.le_refl _) (by omega) (by omega) fun x hx => ⟨(h x hx).len, h x hx⟩
  refine ⟨by simp, h1.cap, h1.big, fun i x hx => ?_⟩
  rw [List.getElem?_map] at hx
  cases e : l[i]? with
  | none => rw [e] at hx; cases hx
  | some y =>
    rw [e] at hx; simp only [Option.map_some, Option.some.injEq] at hx; subst hx
    exact h1.at_ i y e
def AllR (m : Mem) : List (Cd × List Value) → Prop
  | [] => True
  | x :: l => CdR m x.1 x.2 ∧ AllR m l
theorem allR {m : Mem} : ∀ (l : List (Cd × List Value)), AllR m l → ∀ x ∈ l, CdR m x.1 x.2
  | [], _, x, hx => by cases hx
  | y :: l, h, x, hx => by
    rcases List.mem_cons.1 hx with rfl | hx
    · exact h.1
    · exact allR l h.2 x hx
theorem node3_R {m : Mem} {k : Int} {s p : Str} {t u v : Cd} {g : Nat} {vs us ws : List Value} (hk : InI64 k) (hc : CellsAt m ⟨g, 0, none⟩ [vs, us, ws].flatten) (h : CdR m t vs) (h2 : CdR m u us) (h3 : CdR m v ws) : CdR m (nodeC k s p [t, u, v] []) (cdV (nodeC k s p [t, u, v] []) ⟨some ⟨g, 0, none⟩, 3, none, 0⟩) :=
  CdR.build hk i0 (cds_cells [(t, vs), (u, us), (v, ws)] hc (fun x hx => by simp only [List.mem_cons, List.not_mem_nil, or_false] at hx; rcases hx with rfl | rfl | rfl <;> assumption) (Nat.le_of_ble_eq_true rfl)) Sl.empty
def okX (x : Str) (bd : List Str) : Prop := x = uS ∨ ¬ x ∈ bd
theorem okX_app (x : Str) (a b : List Str) : okX x (a ++ b) ↔ okX x a ∧ okX x b := by
  unfold okX; simp only [List.mem_append, not_or]
  exact ⟨fun h => h.elim (fun e => ⟨.inl e, .inl e⟩) (fun h => ⟨.inr h.1, .inr h.2⟩), fun h => h.1.elim .inl (fun h1 => h.2.elim .inl (fun h2 => .inr ⟨h1, h2⟩))⟩
theorem occ_mem (t : Cd) (x : Str) : ∀ bd, x ∈ occP t bd ↔ x ∈ occP t [] ∧ okX x bd := by
  induction t using Cd.rec_ with
  | h t ihk iha =>
    intro bd
    have hk : ∀ (l : List Cd), (∀ u ∈ l, u ∈ t.kids) → ∀ f i, x ∈ occKs f bd i l ↔ x ∈ occKs f [] i l ∧ okX x bd := by
      intro l
      induction l with
      | nil => intro _ f i; simp [occKs]
      | cons u l ih =>
        intro h f i
        rw [occKs, occKs, List.mem_append, List.mem_append, ih (fun v hv => h v (.tail _ hv)) f (i + 1)]
        cases f i with
        | none => simp
        | some b =>
          simp only
          rw [ihk u (h u (.head _)) (bd ++ b), ihk u (h u (.head _)) ([] ++ b), List.nil_append, okX_app]
          exact ⟨fun h => h.elim (fun h => ⟨.inl ⟨h.1, h.2.2⟩, h.2.1⟩) (fun h => ⟨.inr h.1, h.2⟩), fun h => h.1.elim (fun h1 => .inl ⟨h1.1, h.2, h1.2⟩) (fun h1 => .inr ⟨h1, h.2⟩)⟩
    have hr : ∀ (l : List Ca), (∀ u ∈ l, u ∈ t.arms) → (x ∈ occAs bd l ↔ x ∈ occAs [] l ∧ okX x bd) := by
      intro l
      induction l with
      | nil => intro _; simp [occAs]
      | cons u l ih =>
        intro h
        rw [occAs_cons, occAs_cons, List.mem_append, List.mem_append, ih (fun v hv => h v (.tail _ hv)), iha u (h u (.head _)) (bd ++ u.vars), iha u (h u (.head _)) ([] ++ u.vars), List.nil_append, okX_app]
        exact ⟨fun h => h.elim (fun h => ⟨.inl ⟨h.1, h.2.2⟩, h.2.1⟩) (fun h => ⟨.inr h.1, h.2⟩), fun h => h.1.elim (fun h1 => .inl ⟨h1.1, h.2, h1.2⟩) (fun h1 => .inr ⟨h1, h.2⟩)⟩
    have hh : x ∈ headO t bd ↔ x ∈ headO t [] ∧ okX x bd := by
      unfold headO okX
      by_cases h1 : t.kind = 1
      · rw [if_pos h1, if_pos h1, if_pos (show t.name = uS ∨ ¬ t.name ∈ ([] : List Str) from .inr (by simp))]
        by_cases hn : t.name = uS ∨ ¬ t.name ∈ bd
        · rw [if_pos hn, List.mem_singleton]
          exact ⟨fun e => ⟨e, by rw [e]; exact hn⟩, fun h => h.1⟩
        · rw [if_neg hn, List.mem_singleton]
          exact ⟨fun h => (by cases h), fun h => absurd (by rw [← h.1]; exact h.2) hn⟩
      · rw [if_neg h1, if_neg h1]; simp
    rw [occP_eq, occP_eq, List.mem_append, List.mem_append, List.mem_append, List.mem_append, hh, hr t.arms (fun _ h => h)]
    unfold kidsO
    rw [hk t.kids (fun _ h => h)]
    exact ⟨fun h => h.elim (fun h => h.elim (fun h => ⟨.inl (.inl h.1), h.2⟩) (fun h => ⟨.inl (.inr h.1), h.2⟩)) (fun h => ⟨.inr h.1, h.2⟩), fun h => h.1.elim (fun h1 => h1.elim (fun h1 => .inl (.inl ⟨h1, h.2⟩)) (fun h1 => .inl (.inr ⟨h1, h.2⟩))) (fun h1 => .inr ⟨h1, h.2⟩)⟩
theorem occ_unit (bd : List Str) : occP unitC bd = [] := by rw [occP_eq]; simp [unitC, headO, kidsO, occKs, occAs, Cd.kind, Cd.kids, Cd.arms]
def otherS : Str := [111, 116, 104, 101, 114]
def armT (s : Str) (t : Cd) : Ca := ⟨[114, 101, 116, 117, 114, 110], [s], false, t⟩
def wayT (s : Str) (t : Cd) : Ca := ⟨[67], [otherS, s], false, t⟩
def promptT (s : Str) (t : Cd) : Cd := nodeC 15 [69] [] [unitC] [armT s t]
def matchB (s : Str) (t : Cd) : Cd := nodeC 13 [] [] [unitC] [wayT s t]
def letB (s : Str) (t : Cd) : Cd := nodeC 7 s [] [t, unitC] []
def aroundL (s : Str) (t : Cd) : List Cd := [nodeC 5 s [] [t] [], nodeC 7 s [] [unitC, t] [], nodeC 8 s [] [unitC, t] [], nodeC 9 s [95] [unitC, t] [], nodeC 9 [95] s [t, unitC] [], promptT s t]
def restL (s : Str) (l : List Str) : List Str := l.filter fun x => decide (¬ x = s ∨ s = uS)
theorem around_right {s : Str} {t : Cd} (h : rightC t = true) (hs : ¬ s = []) : ∀ u ∈ aroundL s t, rightC u = true := by
  intro u hu
  have hs2 : ¬ [] = s := fun e => hs e.symm
  simp only [aroundL, List.mem_cons, List.not_mem_nil, or_false] at hu
  rcases hu with rfl | rfl | rfl | rfl | rfl | rfl
  all_goals
    try unfold promptT
    rw [right_node]
    simp [headC, nodeC, Cd.kind, Cd.kids, Cd.arms, Cd.name, Cd.param, Cd.n, h, hs, hs2, right_unit, armsOk, armOk, armT, nameOk, Ca.vars, Ca.name, Ca.tail, Ca.body]
theorem around_mem {s : Str} {t : Cd} : ∀ u ∈ aroundL s t, ∀ x, x ∈ freeP u ↔ x ∈ freeP t ∧ (x = uS ∨ ¬ x = s) := by
  intro u hu x
  rw [freeP_mem, freeP_mem]
  have hm := occ_mem t x
  simp only [aroundL, List.mem_cons, List.not_mem_nil, or_false] at hu
  rcases hu with rfl | rfl | rfl | rfl | rfl | rfl
  all_goals
    try unfold promptT
    rw [occP_eq]
    simp [nodeC, headO, kidsO, occKs, bindP, occAs, armT, Cd.kind, Cd.kids, Cd.arms, Cd.name, Cd.param, occ_unit]
    rw [hm]
    unfold okX
    simp [uS]
  all_goals
    intro _
    by_cases hx : x = [95] <;> simp [hx]
theorem around_cnt {s : Str} {t : Cd} : ∀ u ∈ aroundL s t, cntC u ≤ cntC t + 10 := by
  intro u hu
  simp only [aroundL, List.mem_cons, List.not_mem_nil, or_false] at hu
  rcases hu with rfl | rfl | rfl | rfl | rfl | rfl
  all_goals
    try unfold promptT
    rw [cntC_eq]
    simp [nodeC, cntKs, cntAs, armT, Cd.kids, Cd.arms, unitC, cntC]
    try omega
theorem rest_mem (s : Str) (l : List Str) (x : Str) : x ∈ restL s l ↔ x ∈ l ∧ (x = uS ∨ ¬ x = s) := by
  unfold restL
  rw [List.mem_filter, decide_eq_true_eq]
  refine and_congr_right fun _ => ?_
  by_cases hx : x = s
  · subst hx; simp
  · simp [hx]
theorem around_free {s : Str} {t : Cd} (u : Cd) (hu : u ∈ aroundL s t) : freeP u = restL s (freeP t) := by
  refine lt_unique (freeP_lt u) ((freeP_lt t).sublist List.filter_sublist) fun x => ?_
  rw [around_mem u hu, rest_mem]
theorem match_mem {s : Str} {t : Cd} {x : Str} (h : x ∈ freeP (matchB s t)) : ¬ x = otherS ∧ (x = s → s = uS) := by
  rw [freeP_mem, occP_eq] at h
  simp [matchB, nodeC, headO, kidsO, occKs, bindP, occAs, wayT, Cd.kind, Cd.kids, Cd.arms, Cd.name, Cd.param, occ_unit] at h
  rw [occ_mem] at h
  obtain ⟨-, h⟩ := h
  unfold okX at h
  rcases h with h | h
  · subst h; exact ⟨by decide, fun e => e.symm⟩
  · simp only [List.mem_cons, List.not_mem_nil, or_false, not_or] at h
    exact ⟨h.1, fun e => absurd e h.2⟩
theorem let_free (s : Str) (t : Cd) : freeP (letB s t) = freeP t := by
  refine lt_unique (freeP_lt _) (freeP_lt t) fun x => ?_
  rw [freeP_mem, freeP_mem, occP_eq]
  simp [letB, nodeC, headO, kidsO, occKs, bindP, occAs, Cd.kind, Cd.kids, Cd.arms, Cd.name, Cd.param, occ_unit]
theorem match_cnt (s : Str) (t : Cd) : cntC (matchB s t) ≤ cntC t + 10 := by rw [cntC_eq]; simp [matchB, nodeC, cntKs, cntAs, wayT, Cd.kids, Cd.arms, unitC, cntC]; try omega
theorem let_cnt (s : Str) (t : Cd) : cntC (letB s t) ≤ cntC t + 10 := by rw [cntC_eq]; simp [letB, nodeC, cntKs, cntAs, Cd.kids, Cd.arms, unitC, cntC]; try omega
theorem arm_R {m : Mem} {n : Str} {l : List Str} {t : Cd} {g : Nat} {vs : List Value} (hl : Strs m (some ⟨g, 0, none⟩) l.length l.length l) (h : CdR m t vs) : CaR m ⟨n, l, false, t⟩ (S n :: .slice (some ⟨g, 0, none⟩) l.length l.length :: .bool false :: vs) := ⟨_, _, _, rfl, hl, h⟩
theorem nodeA_R {m : Mem} {k : Int} {s p : Str} {t : Cd} {a : Ca} {g q : Nat} {vs us : List Value} (hk : InI64 k) (hc : CellsAt m ⟨g, 0, none⟩ vs) (h : CdR m t vs) (hq : CellsAt m ⟨q, 0, none⟩ us) (ha : CaR m a us) : CdR m (nodeC k s p [t] [a]) (cdV (nodeC k s p [t] [a]) ⟨some ⟨g, 0, none⟩, 1, some ⟨q, 0, none⟩, 1⟩) :=
  CdR.build hk i0 (Sl.one (R := fun m vs t => CdR m t vs) hc h.len h) (Sl.one (R := fun m vs t => CaR m t vs) hq ha.len ha)
set_option maxHeartbeats 3200000 in
theorem codeBinds_c {w : World} {m : Mem} {t : Cd} {vs_t : List Value} {s : Str} (hA : Agree w m) (h_t : CdR m t vs_t) (hT : Tab w) : FnV Tryd.prog 7 #[.agg vs_t.toArray, S s] w m (fun _ _ v => v = .bool true) := by
  obtain ⟨⟨oK_t, cK_t, oA_t, cA_t⟩, rfl, ⟨hik_t, hin_t⟩, hkk_t, haa_t⟩ := h_t.open_
  dsimp only at hkk_t haa_t
  have hbg_t := hkk_t.big; have hcp_t := hkk_t.cap; have hbh_t := haa_t.big; have hcq_t := haa_t.cap
  refine fn_enter (vs := [_, _]) Tryd.func7 rfl rfl rfl fun a0 hfr0 => ?_
  have hst0 := st_enter hA (loc_nil [] _ w m)
  have hM : MLe m m := MLe.refl m
  refine seq_any fun _ hK1 => ?_
  refine rp0 hst0 hfr0 (.cons rfl (ob_box rfl rfl) <| .cons rfl (ob_assign rfl) <| .nil) ?_
  intro a1 w1 m1 hst1 hle1 hk1
  have hfr1 := hk1.fr (T' := [(1, _)]) (.old rfl rfl <| .nil)
  obtain ⟨g2, e2, hc2⟩ := hk1.ex 2 rfl
  replace hfr1 := hfr1.cons e2
  replace h_t := h_t.mono hle1
  replace hkk_t := hkk_t.mono hle1
  replace haa_t := haa_t.mono hle1
  clear hst0 hfr0 hk1
  refine hK1 _ _ ?_; clear hK1
  refine seq_any fun _ hK3 => ?_
  refine rp0 hst1 hfr1 (.cons rfl (ob_callE rfl (.nil) Tryd.call10 (fun w m hK => by have hle_ := KC.le hK; have hA := KC.agree hK; have hT := tab_keep hT hK.st.ext; exact shown_c hA hT)) <| .cons rfl (ob_assign rfl) <| .nil) ?_
  intro a2 w2 m2 hst2 hle2 hk2
  have hfr2 := hk2.fr (T' := [(1, _), (2, _), (5, _)]) (.old rfl rfl <| .old rfl rfl <| .new rfl <| .nil)
  replace h_t := h_t.mono hle2
  replace hkk_t := hkk_t.mono hle2
  replace haa_t := haa_t.mono hle2
  replace hc2 := hc2.mono hle2
  clear hst1 hfr1 hk2
  refine hK3 _ _ ?_; clear hK3
  refine seq_any fun _ hK4 => ?_
  refine seq_any fun _ hK5 => ?_
  refine rp0 hst2 hfr2 (.cons rfl (ob_loadS' rfl hc2 Tryd.isAgg25 Tryd.sizeOf25 rfl rfl) <| .cons rfl (ob_callE rfl (.cons rfl <| .nil) Tryd.call11 (fun w m hK => by have hle_ := KC.le hK; have hA := KC.agree hK; have h_t := h_t.mono hle_; exact count_c t hA h_t)) <| .cons rfl (ob_gtr rfl rfl) <| .cons rfl (ob_move rfl) <| .cons rfl (ob_loadS' rfl hc2 Tryd.isAgg25 Tryd.sizeOf25 rfl rfl) <| .cons rfl (ob_callE rfl (.cons rfl <| .nil) Tryd.call12 (fun w m hK => by have hle_ := KC.le hK; have hA := KC.agree hK; have h_t := h_t.mono hle_; exact right_c t hA h_t)) <| .cons rfl (ob_not rfl) <| .cons rfl (ob_or rfl rfl rfl) <| .cons rfl (ob_move rfl) <| .cons rfl (ob_move rfl) <| .cons rfl (ob_seql rfl rfl) <| .cons rfl (ob_or rfl rfl rfl) <| .nil) ?_
  intro a3 w3 m3 hst3 hle3 hk3
  have hfr3 := hk3.fr (T' := [(1, _), (2, _), (5, _), (29, _)]) (.old rfl rfl <| .old rfl rfl <| .old rfl rfl <| .new rfl <| .nil)
  replace h_t := h_t.mono hle3
  replace hkk_t := hkk_t.mono hle3
  replace haa_t := haa_t.mono hle3
  replace hc2 := hc2.mono hle3
  clear hst2 hfr2 hk3
  refine hK5 _ _ ?_; clear hK5
  refine cond_any hfr3 rfl rfl (fun hb29 => ?_) (fun hb29 => ?_)
  · try simp only [nq1, nq2, nq3, nq4, nq5, nq6, nq7, nq8, nq9, u8_eq] at hb29
    refine seq_any fun _ hK6 => ?_
    refine rp0 hst3 hfr3 (.cons rfl (ob_move rfl) <| .cons rfl (ob_assign rfl) <| .nil) ?_
    intro a4 w4 m4 hst4 hle4 hk4
    have hfr4 := hk4.fr (T' := [(4, _)]) (.new rfl <| .nil)
    clear hst3 hfr3 hk4
    refine hK6 _ _ ?_; clear hK6
    refine wp_ret ?_
    repeat (with_reducible first | refine then_ret ?_ | refine block_ret ?_)
    exact fn_ret hst4 hfr4 rfl (.tmp rfl <| .nil) (rfl)
  · try simp only [nq1, nq2, nq3, nq4, nq5, nq6, nq7, nq8, nq9, u8_eq] at hb29
    have hct9 : cntC t ≤ 1000 := by omega
    have hrt : rightC t = true := hb29.1.2
    have hsn9 : ¬ s = [] := hb29.2
    have hcm9 := match_cnt s t; have hcl9 := let_cnt s t; have hfl9 := freeP_len t
    refine wp_skip ?_
    refine hK4 _ _ ?_; clear hK4
    refine seq_any fun _ hK8 => ?_
    refine ra0 (tch := []) hst3 hfr3 (.cons rfl (ob_loadS' rfl hc2 Tryd.isAgg25 Tryd.sizeOf25 rfl rfl) <| .cons rfl (ob_call (φ := MP.strs (freeP (t))) rfl (.cons rfl <| .nil) Tryd.call13 (fun w m hK => by have hle_ := KC.le hK; have hA := KC.agree hK; have h_t := h_t.mono hle_; exact FnG.mono (freeF_c (t := t) hA h_t (by omega)) fun _ _ _ _ h => h)) <| .consA 32 rfl rfl <| .nil) ?_
    intro a4 w4 m4 hst4 hle4 hk4
    have hfr4 := hk4.fr (T' := [(1, _), (2, _), (5, _)]) (.old rfl rfl <| .old rfl rfl <| .old rfl rfl <| .nil)
    obtain ⟨⟨oF6, cF6⟩, e9, hF6⟩ := hk4.ex 32 rfl
    replace hfr4 := hfr4.cons (hk4.same 6 rfl e9)
    replace h_t := h_t.mono hle4
    replace hkk_t := hkk_t.mono hle4
    replace haa_t := haa_t.mono hle4
    replace hc2 := hc2.mono hle4
    clear hst3 hfr3 hk4
    refine hK8 _ _ ?_; clear hK8
    refine seq_any fun _ hK10 => ?_
    refine rp0 hst4 hfr4 (.cons rfl (ob_assign rfl) <| .nil) ?_
    intro a5 w5 m5 hst5 hle5 hk5
    have hfr5 := hk5.fr (T' := [(1, _), (2, _), (5, _), (6, _), (7, _)]) (.old rfl rfl <| .old rfl rfl <| .old rfl rfl <| .old rfl rfl <| .new rfl <| .nil)
    replace h_t := h_t.mono hle5
    replace hkk_t := hkk_t.mono hle5
    replace haa_t := haa_t.mono hle5
    replace hc2 := hc2.mono hle5
    replace hF6 := hF6.mono hle5
    clear hst4 hfr4 hk5
    have hst5 := hst5.more (r := .row (.slice none 0 0) 0 1 9 []) ⟨rfl, .inl ⟨rfl, rfl⟩⟩ List.nodup_nil (by simp [Res.blocks, rowBlock])
    have hrow_rs : RowAt m5 none (([] : List Str).map (fun x => S x)) := .inl rfl; have hcap_rs : ([] : List Str).length ≤ 0 := Nat.le_refl _
    refine hK10 _ _ ?_; clear hK10
    refine seq_any fun _ hK11 => ?_
    refine seq_any fun _ hK12 => ?_
    refine rp0 hst5 hfr5 (.cons rfl (ob_assign rfl) <| .nil) ?_
    intro a6 w6 m6 hst6 hle6 hk6
    have hfr6 := hk6.fr (T' := [(1, _), (2, _), (5, _), (6, _), (7, _), (8, _)]) (.old rfl rfl <| .old rfl rfl <| .old rfl rfl <| .old rfl rfl <| .old rfl rfl <| .new rfl <| .nil)
    replace h_t := h_t.mono hle6
    replace hkk_t := hkk_t.mono hle6
    replace haa_t := haa_t.mono hle6
    replace hc2 := hc2.mono hle6
    replace hF6 := hF6.mono hle6
    replace hrow_rs := hrow_rs.mono hle6
    clear hst5 hfr5 hk6
    refine hK12 _ _ ?_; clear hK12
    refine wp_block ?_
    refine loop_any (T := [(1, _), (2, _), (5, _), (6, _)]) (fun (y : Nat × Option Addr × Nat × List Str) => ([(7, .slice y.2.1 y.2.2.2.length y.2.2.1), (8, .int .i64 (y.1 : Int))] : List (Nat × Value))) (fun y => [.row (.slice y.2.1 y.2.2.2.length y.2.2.1) y.2.2.2.length 1 9 (y.2.2.2.map (fun x => S x))]) (fun (y : Nat × Option Addr × Nat × List Str) m => (fun (y : Nat) (rqo : Option Addr) (rqp : Nat) (rq : List Str) => (y ≤ (freeP t).length) ∧ (RowAt m rqo (rq.map (fun x => S x))) ∧ (rq.length ≤ rqp) ∧ (rq = restL s ((freeP t).take y) ∧ rq.length ≤ y)) y.1 y.2.1 y.2.2.1 y.2.2.2) (fun y => (freeP t).length - y.1) ((0, none, 0, ([] : List Str))) ⟨hst6, MLe.refl _, hfr6.sub (.cons rfl <| .cons rfl <| .cons rfl <| .cons rfl <| .cons rfl <| .cons rfl <| .nil), ⟨Nat.zero_le _, hrow_rs, hcap_rs, ⟨rfl, Nat.le_refl _⟩⟩⟩ fun y a7 w7 m7 hh7 => ?_
    have hst7 := hh7.st; have hle7 := hh7.le; have hfr7 := hh7.fr; have hrel := hh7.rel; clear hh7
    replace h_t := h_t.mono hle7
    replace hkk_t := hkk_t.mono hle7
    replace haa_t := haa_t.mono hle7
    replace hc2 := hc2.mono hle7
    replace hF6 := hF6.mono hle7
    replace hrow_rs := hrow_rs.mono hle7
    clear hst6 hfr6
    obtain ⟨y, rqo, rqp, rq⟩ := y
    dsimp only at hrel hfr7 hst7
    obtain ⟨hyn, hrow_rq, hcap_rq, hlen_rq⟩ := hrel
    have hlh7 := hle7
    refine seq_any fun _ hK14 => ?_
    refine seq_any fun _ hK15 => ?_
    refine rp0 hst7 hfr7 (.cons rfl (ob_move rfl) <| .cons rfl (ob_move rfl) <| .cons rfl (ob_len rfl Tryd.underlying29) <| .cons rfl (ob_lss rfl rfl) <| .nil) ?_
    intro a8 w8 m8 hst8 hle8 hk8
    have hfr8 := hk8.fr (T' := [(7, _), (8, _), (1, _), (2, _), (5, _), (6, _), (36, _)]) (.old rfl rfl <| .old rfl rfl <| .old rfl rfl <| .old rfl rfl <| .old rfl rfl <| .old rfl rfl <| .new rfl <| .nil)
    replace h_t := h_t.mono hle8
    replace hkk_t := hkk_t.mono hle8
    replace haa_t := haa_t.mono hle8
    replace hc2 := hc2.mono hle8
    replace hF6 := hF6.mono hle8
    replace hrow_rs := hrow_rs.mono hle8
    replace hrow_rq := hrow_rq.mono hle8
    have hlh8 := hlh7.trans hle8
    clear hst7 hfr7 hk8
    refine hK15 _ _ ?_; clear hK15
    refine cond_any hfr8 rfl rfl (fun hb36 => ?_) (fun hb36 => ?_)
    · try simp only [nq1, nq2, nq3, nq4, nq5, nq6, nq7, nq8, nq9, u8_eq] at hb36
      refine wp_skip ?_
      refine hK14 _ _ ?_; clear hK14
      refine seq_any fun _ hK16 => ?_
      refine wp_block ?_
      refine seq_any fun _ hK17 => ?_
      obtain ⟨p18, vs18, x18, ho18, hd18, hm_x18, ht18, hcv18, hl18, hv18⟩ := hF6.nth (k := y) (by omega)
      cases ho18
      subst hv18
      refine rp0 hst8 hfr8 (.cons rfl (ob_move rfl) <| .cons rfl (ob_move rfl) <| .cons rfl (ob_indexAddr (k := y) rfl rfl Tryd.underlying29 Tryd.sizeOf9 rfl (by omega)) <| .cons rfl (ob_load1' rfl hcv18 Tryd.isAgg9 rfl) <| .cons rfl (ob_move rfl) <| .cons rfl (ob_sneq rfl rfl) <| .cons rfl (ob_move rfl) <| .cons rfl (ob_move rfl) <| .cons rfl (ob_seql rfl rfl) <| .cons rfl (ob_or rfl rfl rfl) <| .nil) ?_
      intro a9 w9 m9 hst9 hle9 hk9
      have hfr9 := hk9.fr (T' := [(7, _), (8, _), (1, _), (2, _), (5, _), (6, _), (48, _)]) (.old rfl rfl <| .old rfl rfl <| .old rfl rfl <| .old rfl rfl <| .old rfl rfl <| .old rfl rfl <| .new rfl <| .nil)
      replace hrow_rq := hrow_rq.mono hle9
      replace hcv18 := hcv18.mono hle9
      have hlh9 := hlh8.trans hle9
      clear hst8 hfr8 hk9
      have hlo9 := hlen_rq.2
      refine hK17 _ _ ?_; clear hK17
      refine cond_any hfr9 rfl rfl (fun hb48 => ?_) (fun hb48 => ?_)
      · try simp only [nq1, nq2, nq3, nq4, nq5, nq6, nq7, nq8, nq9, u8_eq] at hb48
        have h09 : decide (¬ x18 = s ∨ s = uS) = true := decide_eq_true hb48
        refine ra0 (tch := [(6, 0, (fun v => .row v _ _ _ _))]) hst9 hfr9 (.cons rfl (ob_move rfl) <| .cons rfl (ob_move rfl) <| .cons rfl (ob_move rfl) <| .cons rfl (ob_indexAddr (k := y) rfl rfl Tryd.underlying29 Tryd.sizeOf9 rfl (by omega)) <| .cons rfl (ob_load1' rfl hcv18 Tryd.isAgg9 rfl) <| .cons rfl (ob_buildSlice (.cons rfl <| .nil) Tryd.underlying29 Tryd.sizeOf9 Tryd.zeroValue9 rfl rfl rfl rfl) <| .consT rfl rfl (fun _ => rfl) rfl (ob_imgT 54 rfl rfl rfl fun y54 => ob_append (size := 1) (bytes := 16) rfl rfl Tryd.underlying29 Tryd.type9 rfl rfl rfl rfl (fun w m hK => .inr ⟨_, rfl, hK.2⟩) rfl (by decide) rfl (by simp only [maxLen]; omega) (by omega)) <| .consA 55 rfl rfl <| .nil) ?_
        intro a10 w10 m10 hst10 hle10 hk10
        have hfr10 := hk10.fr (T' := [(8, _), (1, _), (2, _), (5, _), (6, _)]) (.old rfl rfl <| .old rfl rfl <| .old rfl rfl <| .old rfl rfl <| .old rfl rfl <| .nil)
        obtain ⟨⟨rs_19o, rs_19p⟩, e20, hrow_rs_19, hcap_rs_19⟩ := hk10.ex 55 rfl
        replace e20 : envOf a10 55 = .slice rs_19o (rq ++ [x18]).length rs_19p := by rw [e20]; refine congrArg (fun q => Value.slice _ q _) ?_; simp only [List.length_append, List.length_cons, List.length_nil]
        replace hfr10 := hfr10.cons (hk10.same 7 rfl e20)
        replace hst10 := hst10.fin (L' := [_]) (.cons e20 <| .nil)
        have en_rs_19 : (rq).length + 1 = ((rq ++ [x18])).length := by simp only [List.length_append, List.length_cons, List.length_nil]
        have em_rs_19 : (rq).map (fun x => S x) ++ [S x18] = ((rq ++ [x18])).map (fun x => S x) := by simp only [List.map_append, List.map_cons, List.map_nil]
        replace hst10 := hst10.row_eq (k := 0) rfl en_rs_19 em_rs_19
        simp only [List.set_cons_succ, List.set_cons_zero] at hst10
        change RowAt m10 rs_19o ((rq).map (fun x => S x) ++ [S x18]) at hrow_rs_19; rw [em_rs_19] at hrow_rs_19; change (rq).length + 1 ≤ rs_19p at hcap_rs_19; rw [en_rs_19] at hcap_rs_19
        have hlh10 := hlh9.trans hle10
        clear hst9 hfr9 hk10
        refine hK16 _ _ ?_; clear hK16
        refine rp0 hst10 hfr10 (.cons rfl (ob_move rfl) <| .cons rfl (ob_add rfl rfl ⟨by omega, by omega⟩) <| .cons rfl (ob_assign rfl) <| .nil) ?_
        intro a11 w11 m11 hst11 hle11 hk11
        have hfr11 := hk11.fr (T' := [(1, _), (2, _), (5, _), (6, _), (7, _), (8, _)]) (.old rfl rfl <| .old rfl rfl <| .old rfl rfl <| .old rfl rfl <| .old rfl rfl <| .new rfl <| .nil)
        replace hrow_rs_19 := hrow_rs_19.mono hle11
        have hlh11 := hlh10.trans hle11
        clear hst10 hfr10 hk11
        exact ⟨(y + 1, rs_19o, rs_19p, (rq ++ [x18])), m11, by show (freeP t).length - (y + 1) < (freeP t).length - y; omega, ⟨hst11, hlh11, hfr11.sub (.cons rfl <| .cons rfl <| .cons rfl <| .cons rfl <| .cons rfl <| .cons rfl <| .nil), ⟨by show y + 1 ≤ (freeP t).length; omega, hrow_rs_19, hcap_rs_19, ⟨by unfold restL at hlen_rq ⊢; rw [ht18, List.filter_append, ← hlen_rq.1, List.filter_cons, h09]; rfl, by show (rq ++ [x18]).length ≤ y + 1; simp; omega⟩⟩⟩⟩
      · try simp only [nq1, nq2, nq3, nq4, nq5, nq6, nq7, nq8, nq9, u8_eq] at hb48
        have h09 : decide (¬ x18 = s ∨ s = uS) = false := decide_eq_false (fun h => h.elim (fun h => h hb48.1) hb48.2)
        refine wp_skip ?_
        refine hK16 _ _ ?_; clear hK16
        refine rp0 hst9 hfr9 (.cons rfl (ob_move rfl) <| .cons rfl (ob_add rfl rfl ⟨by omega, by omega⟩) <| .cons rfl (ob_assign rfl) <| .nil) ?_
        intro a10 w10 m10 hst10 hle10 hk10
        have hfr10 := hk10.fr (T' := [(7, _), (1, _), (2, _), (5, _), (6, _), (8, _)]) (.old rfl rfl <| .old rfl rfl <| .old rfl rfl <| .old rfl rfl <| .old rfl rfl <| .new rfl <| .nil)
        replace hrow_rq := hrow_rq.mono hle10
        have hlh10 := hlh9.trans hle10
        clear hst9 hfr9 hk10
        exact ⟨(y + 1, rqo, rqp, rq), m10, by show (freeP t).length - (y + 1) < (freeP t).length - y; omega, ⟨hst10, hlh10, hfr10.sub (.cons rfl <| .cons rfl <| .cons rfl <| .cons rfl <| .cons rfl <| .cons rfl <| .nil), ⟨by show y + 1 ≤ (freeP t).length; omega, hrow_rq, hcap_rq, ⟨by unfold restL at hlen_rq ⊢; rw [ht18, List.filter_append, ← hlen_rq.1, List.filter_cons, h09]; simp, by show rq.length ≤ y + 1; omega⟩⟩⟩⟩
    · try simp only [nq1, nq2, nq3, nq4, nq5, nq6, nq7, nq8, nq9, u8_eq] at hb36
      have hge : y = (freeP t).length := by omega
      rw [List.take_of_length_le (by omega)] at hlen_rq
      have hfin : rq = restL s (freeP t) := hlen_rq.1
      have hs_rs : Strs m8 rqo (rq).length rqp rq := Strs.of_row (by simpa using hrow_rq) rfl hcap_rq (by omega)
      refine wp_exit ?_
      refine hK11 _ _ ?_; clear hK11
      refine seq_any fun _ hK21 => ?_
      replace hst8 := hst8.more (r := .free) trivial List.nodup_nil (by simp [Res.blocks])
      refine ra0 (tch := [(1, 1, (fun v => .blk v _)), (2, 1, (fun v => .blk v _))]) hst8 hfr8 (.cons rfl (ob_buildS (cs := cdV unitC noY) (.cons rfl <| .nil) Tryd.underlying25 Tryd.zeroValue25 (.cons Tryd.sizeOf3 <| .cons Tryd.sizeOf9 <| .cons Tryd.sizeOf9 <| .cons Tryd.sizeOf3 <| .cons Tryd.sizeOf22 <| .cons Tryd.sizeOf23 <| .nil) (rfl)) <| .consT rfl rfl (fun _ => rfl) rfl (ob_allocL Tryd.zeroValue25 rfl) <| .consT rfl rfl (fun _ => rfl) rfl (ob_imgT 9 rfl rfl rfl fun y9 => ob_storeF rfl rfl rfl rfl rfl Tryd.sizeOf25 rfl rfl rfl) <| .nil) ?_
      intro a9 w9 m9 hst9 hle9 hk9
      have hfr9 := hk9.fr (T' := [(7, _), (8, _), (1, _), (2, _), (5, _), (6, _)]) (.old rfl rfl <| .old rfl rfl <| .old rfl rfl <| .old rfl rfl <| .old rfl rfl <| .old rfl rfl <| .nil)
      obtain ⟨g5, e22, _⟩ := hk9.ex 9 rfl
      replace hfr9 := hfr9.cons e22
      replace hst9 := hst9.fin (L' := [_, _]) (.cons e22 <| .cons e22 <| .nil)
      try simp only [List.take_succ_cons, List.take_zero, List.drop_succ_cons, List.drop_zero, List.cons_append, List.nil_append, List.append_nil, List.length_cons, List.length_nil, Nat.zero_add, Nat.reduceAdd] at hst9
      replace h_t := h_t.mono hle9
      replace hkk_t := hkk_t.mono hle9
      replace haa_t := haa_t.mono hle9
      replace hc2 := hc2.mono hle9
      replace hF6 := hF6.mono hle9
      replace hrow_rs := hrow_rs.mono hle9
      replace hrow_rq := hrow_rq.mono hle9
      replace hs_rs := hs_rs.mono hle9
      have hlh9 := hlh8.trans hle9
      clear hst8 hfr8 hk9
      refine hK21 _ _ ?_; clear hK21
      refine seq_any fun _ hK23 => ?_
      refine region_cut 3 (by kernel_rfl) ?_
      refine ops_seq (tch := []) hst9 hfr9 (by kernel_rfl) (by kernel_rfl) (by kernel_rfl) (.cons rfl (ob_move rfl) <| .cons rfl (ob_buildSlice (.cons rfl <| .nil) Tryd.underlying29 Tryd.sizeOf9 Tryd.zeroValue9 rfl rfl rfl rfl) <| .cons rfl (ob_loadS' rfl hc2 Tryd.isAgg25 Tryd.sizeOf25 rfl rfl) <| .nil) ?_
      intro a10 w10 m10 hst10 hle10 hk10
      have hfr10 := hk10.fr (T' := [(7, _), (8, _), (1, _), (2, _), (5, _), (6, _), (9, _), (59, _)]) (.old rfl rfl <| .old rfl rfl <| .old rfl rfl <| .old rfl rfl <| .old rfl rfl <| .old rfl rfl <| .old rfl rfl <| .new rfl <| .nil)
      obtain ⟨gV, e24, hV9⟩ := hk10.ex 58 rfl
      replace hfr10 := hfr10.cons e24
      replace h_t := h_t.mono hle10
      replace hkk_t := hkk_t.mono hle10
      replace haa_t := haa_t.mono hle10
      replace hc2 := hc2.mono hle10
      replace hF6 := hF6.mono hle10
      replace hrow_rs := hrow_rs.mono hle10
      replace hrow_rq := hrow_rq.mono hle10
      replace hs_rs := hs_rs.mono hle10
      have hlh10 := hlh9.trans hle10
      clear hst9 hfr9 hk10
      have harm9 : CaR m10 (armT s t) _ := arm_R (l := [s]) (strs_row (l := [s]) hV9 (by simp)) h_t
      replace hst10 := hst10.more (r := .free) trivial List.nodup_nil (by simp [Res.blocks])
      refine ops_seq (tch := [(1, 2, (fun v => .blk v _)), (2, 2, (fun v => .blk v _))]) hst10 hfr10 (by kernel_rfl) (by kernel_rfl) (by kernel_rfl) (.cons rfl (ob_buildS (cs := [S [114, 101, 116, 117, 114, 110], .slice (some ⟨gV, 0, none⟩) 1 1, .bool false, .int .i64 t.kind, S t.name, S t.param, .int .i64 t.n, .slice oK_t t.kids.length cK_t, .slice oA_t t.arms.length cA_t]) (.cons rfl <| .cons rfl <| .cons rfl <| .nil) Tryd.underlying35 Tryd.zeroValue35 (.cons Tryd.sizeOf9 <| .cons Tryd.sizeOf29 <| .cons Tryd.sizeOf4 <| .cons Tryd.sizeOf25 <| .nil) (rfl)) <| .consT rfl rfl (fun _ => rfl) rfl (ob_allocL Tryd.zeroValue35 rfl) <| .consT rfl rfl (fun _ => rfl) rfl (ob_imgT 10 rfl rfl rfl fun y10 => ob_storeF rfl rfl rfl rfl rfl Tryd.sizeOf35 rfl rfl rfl) <| .nil) ?_
      intro a11 w11 m11 hst11 hle11 hk11
      have hfr11 := hk11.fr (T' := [(7, _), (8, _), (1, _), (2, _), (5, _), (6, _), (9, _), (59, _), (58, _)]) (.old rfl rfl <| .old rfl rfl <| .old rfl rfl <| .old rfl rfl <| .old rfl rfl <| .old rfl rfl <| .old rfl rfl <| .old rfl rfl <| .old rfl rfl <| .nil)
      obtain ⟨gV2, e25, _⟩ := hk11.ex 10 rfl
      replace hfr11 := hfr11.cons e25
      replace hst11 := hst11.fin (L' := [_, _, _]) (.cons e25 <| .cons e25 <| .nil)
      try simp only [List.take_succ_cons, List.take_zero, List.drop_succ_cons, List.drop_zero, List.cons_append, List.nil_append, List.append_nil, List.length_cons, List.length_nil, Nat.zero_add, Nat.reduceAdd] at hst11
      replace h_t := h_t.mono hle11
      replace hkk_t := hkk_t.mono hle11
      replace haa_t := haa_t.mono hle11
      replace hc2 := hc2.mono hle11
      replace hF6 := hF6.mono hle11
      replace hrow_rs := hrow_rs.mono hle11
      replace hrow_rq := hrow_rq.mono hle11
      replace hs_rs := hs_rs.mono hle11
      replace hV9 := hV9.mono hle11
      replace harm9 := harm9.mono hle11
      have hlh11 := hlh10.trans hle11
      clear hst10 hfr10 hk11
      refine hK23 _ _ ?_; clear hK23
      refine seq_any fun _ hK26 => ?_
      refine region_cut 3 (by kernel_rfl) ?_
      refine ops_seq (tch := []) hst11 hfr11 (by kernel_rfl) (by kernel_rfl) (by kernel_rfl) (.cons rfl (ob_move rfl) <| .cons rfl (ob_buildSlice (.cons rfl <| .cons rfl <| .nil) Tryd.underlying29 Tryd.sizeOf9 Tryd.zeroValue9 rfl rfl rfl rfl) <| .cons rfl (ob_loadS' rfl hc2 Tryd.isAgg25 Tryd.sizeOf25 rfl rfl) <| .nil) ?_
      intro a12 w12 m12 hst12 hle12 hk12
      have hfr12 := hk12.fr (T' := [(7, _), (8, _), (1, _), (2, _), (5, _), (6, _), (9, _), (59, _), (58, _), (10, _), (63, _)]) (.old rfl rfl <| .old rfl rfl <| .old rfl rfl <| .old rfl rfl <| .old rfl rfl <| .old rfl rfl <| .old rfl rfl <| .old rfl rfl <| .old rfl rfl <| .old rfl rfl <| .new rfl <| .nil)
      obtain ⟨gW, e27, hW9⟩ := hk12.ex 62 rfl
      replace hfr12 := hfr12.cons e27
      replace h_t := h_t.mono hle12
      replace hkk_t := hkk_t.mono hle12
      replace haa_t := haa_t.mono hle12
      replace hc2 := hc2.mono hle12
      replace hF6 := hF6.mono hle12
      replace hrow_rs := hrow_rs.mono hle12
      replace hrow_rq := hrow_rq.mono hle12
      replace hs_rs := hs_rs.mono hle12
      replace hV9 := hV9.mono hle12
      replace harm9 := harm9.mono hle12
      have hlh12 := hlh11.trans hle12
      clear hst11 hfr11 hk12
      have hway9 : CaR m12 (wayT s t) _ := arm_R (l := [otherS, s]) (strs_row (l := [otherS, s]) hW9 (by simp)) h_t
      replace hst12 := hst12.more (r := .free) trivial List.nodup_nil (by simp [Res.blocks])
      refine ops_seq (tch := [(1, 3, (fun v => .blk v _)), (2, 3, (fun v => .blk v _))]) hst12 hfr12 (by kernel_rfl) (by kernel_rfl) (by kernel_rfl) (.cons rfl (ob_buildS (cs := [S [67], .slice (some ⟨gW, 0, none⟩) 2 2, .bool false, .int .i64 t.kind, S t.name, S t.param, .int .i64 t.n, .slice oK_t t.kids.length cK_t, .slice oA_t t.arms.length cA_t]) (.cons rfl <| .cons rfl <| .cons rfl <| .nil) Tryd.underlying35 Tryd.zeroValue35 (.cons Tryd.sizeOf9 <| .cons Tryd.sizeOf29 <| .cons Tryd.sizeOf4 <| .cons Tryd.sizeOf25 <| .nil) (rfl)) <| .consT rfl rfl (fun _ => rfl) rfl (ob_allocL Tryd.zeroValue35 rfl) <| .consT rfl rfl (fun _ => rfl) rfl (ob_imgT 11 rfl rfl rfl fun y11 => ob_storeF rfl rfl rfl rfl rfl Tryd.sizeOf35 rfl rfl rfl) <| .nil) ?_
      intro a13 w13 m13 hst13 hle13 hk13
      have hfr13 := hk13.fr (T' := [(7, _), (8, _), (1, _), (2, _), (5, _), (6, _), (9, _), (59, _), (58, _), (10, _), (63, _), (62, _)]) (.old rfl rfl <| .old rfl rfl <| .old rfl rfl <| .old rfl rfl <| .old rfl rfl <| .old rfl rfl <| .old rfl rfl <| .old rfl rfl <| .old rfl rfl <| .old rfl rfl <| .old rfl rfl <| .old rfl rfl <| .nil)
      obtain ⟨gW2, e28, _⟩ := hk13.ex 11 rfl
      replace hfr13 := hfr13.cons e28
      replace hst13 := hst13.fin (L' := [_, _, _, _]) (.cons e28 <| .cons e28 <| .nil)
      try simp only [List.take_succ_cons, List.take_zero, List.drop_succ_cons, List.drop_zero, List.cons_append, List.nil_append, List.append_nil, List.length_cons, List.length_nil, Nat.zero_add, Nat.reduceAdd] at hst13
      replace h_t := h_t.mono hle13
      replace hkk_t := hkk_t.mono hle13
      replace haa_t := haa_t.mono hle13
      replace hc2 := hc2.mono hle13
      replace hF6 := hF6.mono hle13
      replace hrow_rs := hrow_rs.mono hle13
      replace hrow_rq := hrow_rq.mono hle13
      replace hs_rs := hs_rs.mono hle13
      replace hV9 := hV9.mono hle13
      replace harm9 := harm9.mono hle13
      replace hW9 := hW9.mono hle13
      replace hway9 := hway9.mono hle13
      have hlh13 := hlh12.trans hle13
      clear hst12 hfr12 hk13
      refine hK26 _ _ ?_; clear hK26
      refine seq_any fun _ hK29 => ?_
      refine region_cut 28 (by kernel_rfl) ?_
      refine ops_seq (tch := []) hst13 hfr13 (by kernel_rfl) (by kernel_rfl) (by kernel_rfl) (.cons rfl (ob_move rfl) <| .cons rfl (ob_loadS' rfl hc2 Tryd.isAgg25 Tryd.sizeOf25 rfl rfl) <| .cons rfl (ob_buildSlice1 rfl Tryd.underlying22 Tryd.sizeOf25 Tryd.zeroValue25 rfl rfl rfl rfl) <| .cons rfl (ob_imgV 67 rfl rfl rfl fun y67 => ob_buildS (cs := cdV (nodeC 5 s [] [t] []) ⟨some ⟨y67, 0, none⟩, 1, none, 0⟩) (.cons rfl <| .cons rfl <| .cons rfl <| .nil) Tryd.underlying25 Tryd.zeroValue25 (.cons Tryd.sizeOf3 <| .cons Tryd.sizeOf9 <| .cons Tryd.sizeOf9 <| .cons Tryd.sizeOf3 <| .cons Tryd.sizeOf22 <| .cons Tryd.sizeOf23 <| .nil) (rfl)) <| .cons rfl (ob_move rfl) <| .cons rfl (ob_loadLA (j := 1) rfl rfl Tryd.isAgg25 Tryd.sizeOf25 rfl) <| .cons rfl (ob_loadS' rfl hc2 Tryd.isAgg25 Tryd.sizeOf25 rfl rfl) <| .cons rfl (ob_buildSlice2 rfl rfl Tryd.underlying22 Tryd.sizeOf25 Tryd.zeroValue25 rfl rfl rfl rfl rfl) <| .cons rfl (ob_imgV 72 rfl rfl rfl fun y72 => ob_buildS (cs := cdV (nodeC 7 s [] [unitC, t] []) ⟨some ⟨y72, 0, none⟩, 2, none, 0⟩) (.cons rfl <| .cons rfl <| .cons rfl <| .nil) Tryd.underlying25 Tryd.zeroValue25 (.cons Tryd.sizeOf3 <| .cons Tryd.sizeOf9 <| .cons Tryd.sizeOf9 <| .cons Tryd.sizeOf3 <| .cons Tryd.sizeOf22 <| .cons Tryd.sizeOf23 <| .nil) (rfl)) <| .cons rfl (ob_move rfl) <| .cons rfl (ob_loadLA (j := 1) rfl rfl Tryd.isAgg25 Tryd.sizeOf25 rfl) <| .cons rfl (ob_loadS' rfl hc2 Tryd.isAgg25 Tryd.sizeOf25 rfl rfl) <| .cons rfl (ob_buildSlice2 rfl rfl Tryd.underlying22 Tryd.sizeOf25 Tryd.zeroValue25 rfl rfl rfl rfl rfl) <| .cons rfl (ob_imgV 77 rfl rfl rfl fun y77 => ob_buildS (cs := cdV (nodeC 8 s [] [unitC, t] []) ⟨some ⟨y77, 0, none⟩, 2, none, 0⟩) (.cons rfl <| .cons rfl <| .cons rfl <| .nil) Tryd.underlying25 Tryd.zeroValue25 (.cons Tryd.sizeOf3 <| .cons Tryd.sizeOf9 <| .cons Tryd.sizeOf9 <| .cons Tryd.sizeOf3 <| .cons Tryd.sizeOf22 <| .cons Tryd.sizeOf23 <| .nil) (rfl)) <| .cons rfl (ob_move rfl) <| .cons rfl (ob_loadLA (j := 1) rfl rfl Tryd.isAgg25 Tryd.sizeOf25 rfl) <| .cons rfl (ob_loadS' rfl hc2 Tryd.isAgg25 Tryd.sizeOf25 rfl rfl) <| .cons rfl (ob_buildSlice2 rfl rfl Tryd.underlying22 Tryd.sizeOf25 Tryd.zeroValue25 rfl rfl rfl rfl rfl) <| .cons rfl (ob_imgV 82 rfl rfl rfl fun y82 => ob_buildS (cs := cdV (nodeC 9 s [95] [unitC, t] []) ⟨some ⟨y82, 0, none⟩, 2, none, 0⟩) (.cons rfl <| .cons rfl <| .cons rfl <| .cons rfl <| .nil) Tryd.underlying25 Tryd.zeroValue25 (.cons Tryd.sizeOf3 <| .cons Tryd.sizeOf9 <| .cons Tryd.sizeOf9 <| .cons Tryd.sizeOf3 <| .cons Tryd.sizeOf22 <| .cons Tryd.sizeOf23 <| .nil) (rfl)) <| .cons rfl (ob_move rfl) <| .cons rfl (ob_loadS' rfl hc2 Tryd.isAgg25 Tryd.sizeOf25 rfl rfl) <| .cons rfl (ob_loadLA (j := 1) rfl rfl Tryd.isAgg25 Tryd.sizeOf25 rfl) <| .cons rfl (ob_buildSlice2 rfl rfl Tryd.underlying22 Tryd.sizeOf25 Tryd.zeroValue25 rfl rfl rfl rfl rfl) <| .cons rfl (ob_imgV 87 rfl rfl rfl fun y87 => ob_buildS (cs := cdV (nodeC 9 [95] s [t, unitC] []) ⟨some ⟨y87, 0, none⟩, 2, none, 0⟩) (.cons rfl <| .cons rfl <| .cons rfl <| .cons rfl <| .nil) Tryd.underlying25 Tryd.zeroValue25 (.cons Tryd.sizeOf3 <| .cons Tryd.sizeOf9 <| .cons Tryd.sizeOf9 <| .cons Tryd.sizeOf3 <| .cons Tryd.sizeOf22 <| .cons Tryd.sizeOf23 <| .nil) (rfl)) <| .cons rfl (ob_loadLA (j := 1) rfl rfl Tryd.isAgg25 Tryd.sizeOf25 rfl) <| .cons rfl (ob_buildSlice1 rfl Tryd.underlying22 Tryd.sizeOf25 Tryd.zeroValue25 rfl rfl rfl rfl) <| .cons rfl (ob_loadLA (j := 2) rfl rfl Tryd.isAgg35 Tryd.sizeOf35 rfl) <| .cons rfl (ob_buildSlice1 rfl Tryd.underlying23 Tryd.sizeOf35 Tryd.zeroValue35 rfl rfl rfl rfl) <| .nil) ?_
      intro a14 w14 m14 hst14 hle14 hk14
      have hfr14 := hk14.fr (T' := [(7, _), (8, _), (1, _), (2, _), (5, _), (6, _), (9, _), (59, _), (58, _), (10, _), (63, _), (62, _), (11, _)]) (.old rfl rfl <| .old rfl rfl <| .old rfl rfl <| .old rfl rfl <| .old rfl rfl <| .old rfl rfl <| .old rfl rfl <| .old rfl rfl <| .old rfl rfl <| .old rfl rfl <| .old rfl rfl <| .old rfl rfl <| .old rfl rfl <| .nil)
      obtain ⟨gA68, e30, hA68⟩ := hk14.ex 68 rfl
      replace hfr14 := hfr14.cons e30
      obtain ⟨gA73, e31, hA73⟩ := hk14.ex 73 rfl
      replace hfr14 := hfr14.cons e31
      obtain ⟨gA78, e32, hA78⟩ := hk14.ex 78 rfl
      replace hfr14 := hfr14.cons e32
      obtain ⟨gA83, e33, hA83⟩ := hk14.ex 83 rfl
      replace hfr14 := hfr14.cons e33
      obtain ⟨gA88, e34, hA88⟩ := hk14.ex 88 rfl
      replace hfr14 := hfr14.cons e34
      obtain ⟨gU, e35, hU9⟩ := hk14.ex 90 rfl
      replace hfr14 := hfr14.cons e35
      obtain ⟨gP, e36, hP9⟩ := hk14.ex 92 rfl
      replace hfr14 := hfr14.cons e36
      replace h_t := h_t.mono hle14
      replace hkk_t := hkk_t.mono hle14
      replace haa_t := haa_t.mono hle14
      replace hc2 := hc2.mono hle14
      replace hF6 := hF6.mono hle14
      replace hrow_rs := hrow_rs.mono hle14
      replace hrow_rq := hrow_rq.mono hle14
      replace hs_rs := hs_rs.mono hle14
      replace hV9 := hV9.mono hle14
      replace harm9 := harm9.mono hle14
      replace hW9 := hW9.mono hle14
      replace hway9 := hway9.mono hle14
      have hlh14 := hlh13.trans hle14
      clear hst13 hfr13 hk14
      have hC68 : CdR m14 (nodeC 5 s [] [t] []) _ := node1_R ⟨by decide, by decide⟩ hA68 h_t
      have hC73 : CdR m14 (nodeC 7 s [] [unitC, t] []) _ := node2_R ⟨by decide, by decide⟩ hA73 unit_R h_t
      have hC78 : CdR m14 (nodeC 8 s [] [unitC, t] []) _ := node2_R ⟨by decide, by decide⟩ hA78 unit_R h_t
      have hC83 : CdR m14 (nodeC 9 s [95] [unitC, t] []) _ := node2_R ⟨by decide, by decide⟩ hA83 unit_R h_t
      have hC88 : CdR m14 (nodeC 9 [95] s [t, unitC] []) _ := node2_R ⟨by decide, by decide⟩ hA88 h_t unit_R
      have hPT : CdR m14 (promptT s t) _ := nodeA_R (a := armT s t) ⟨by decide, by decide⟩ hU9 unit_R hP9 harm9
      refine ops_seq (tch := []) hst14 hfr14 (by kernel_rfl) (by kernel_rfl) (by kernel_rfl) (.cons rfl (ob_buildS (cs := cdV (promptT s t) ⟨some ⟨gU, 0, none⟩, 1, some ⟨gP, 0, none⟩, 1⟩) (.cons rfl <| .cons rfl <| .cons rfl <| .cons rfl <| .nil) Tryd.underlying25 Tryd.zeroValue25 (.cons Tryd.sizeOf3 <| .cons Tryd.sizeOf9 <| .cons Tryd.sizeOf9 <| .cons Tryd.sizeOf3 <| .cons Tryd.sizeOf22 <| .cons Tryd.sizeOf23 <| .nil) (rfl)) <| .cons rfl (ob_buildSliceN [_, _, _, _, _, _] (.cons rfl <| .cons rfl <| .cons rfl <| .cons rfl <| .cons rfl <| .cons rfl <| .nil) rfl Tryd.underlying22 Tryd.sizeOf25 Tryd.zeroValue25 rfl rfl rfl rfl rfl) <| .consA 94 rfl rfl <| .nil) ?_
      intro a15 w15 m15 hst15 hle15 hk15
      have hfr15 := hk15.fr (T' := [(7, _), (8, _), (1, _), (2, _), (5, _), (6, _), (9, _), (59, _), (58, _), (10, _), (63, _), (62, _), (11, _), (68, _), (73, _), (78, _), (83, _), (88, _), (90, _), (92, _)]) (.old rfl rfl <| .old rfl rfl <| .old rfl rfl <| .old rfl rfl <| .old rfl rfl <| .old rfl rfl <| .old rfl rfl <| .old rfl rfl <| .old rfl rfl <| .old rfl rfl <| .old rfl rfl <| .old rfl rfl <| .old rfl rfl <| .old rfl rfl <| .old rfl rfl <| .old rfl rfl <| .old rfl rfl <| .old rfl rfl <| .old rfl rfl <| .old rfl rfl <| .nil)
      obtain ⟨gM, e37, hMM⟩ := hk15.ex 94 rfl
      replace hfr15 := hfr15.cons e37
      replace hfr15 := hfr15.cons (hk15.same 12 rfl e37)
      replace h_t := h_t.mono hle15
      replace hkk_t := hkk_t.mono hle15
      replace haa_t := haa_t.mono hle15
      replace hc2 := hc2.mono hle15
      replace hF6 := hF6.mono hle15
      replace hrow_rs := hrow_rs.mono hle15
      replace hrow_rq := hrow_rq.mono hle15
      replace hs_rs := hs_rs.mono hle15
      replace hV9 := hV9.mono hle15
      replace harm9 := harm9.mono hle15
      replace hW9 := hW9.mono hle15
      replace hway9 := hway9.mono hle15
      replace hA68 := hA68.mono hle15
      replace hA73 := hA73.mono hle15
      replace hA78 := hA78.mono hle15
      replace hA83 := hA83.mono hle15
      replace hA88 := hA88.mono hle15
      replace hU9 := hU9.mono hle15
      replace hP9 := hP9.mono hle15
      replace hC68 := hC68.mono hle15
      replace hC73 := hC73.mono hle15
      replace hC78 := hC78.mono hle15
      replace hC83 := hC83.mono hle15
      replace hC88 := hC88.mono hle15
      replace hPT := hPT.mono hle15
      have hlh15 := hlh14.trans hle15
      clear hst14 hfr14 hk15
      have har9 : Cds m15 (some ⟨gM, 0, none⟩) 6 6 (aroundL s t) := cds_cells [((nodeC 5 s [] [t] []), _), ((nodeC 7 s [] [unitC, t] []), _), ((nodeC 8 s [] [unitC, t] []), _), ((nodeC 9 s [95] [unitC, t] []), _), ((nodeC 9 [95] s [t, unitC] []), _), (promptT s t, _)] hMM (allR _ ⟨hC68, hC73, hC78, hC83, hC88, hPT, trivial⟩) (Nat.le_of_ble_eq_true rfl)
      have hl6 : (aroundL s t).length = 6 := rfl
      refine hK29 _ _ ?_; clear hK29
      refine seq_any fun _ hK38 => ?_
      refine seq_any fun _ hK39 => ?_
      refine rp0 hst15 hfr15 (.cons rfl (ob_assign rfl) <| .nil) ?_
      intro a16 w16 m16 hst16 hle16 hk16
      have hfr16 := hk16.fr (T' := [(7, _), (8, _), (1, _), (2, _), (5, _), (6, _), (9, _), (11, _), (12, _), (13, _)]) (.old rfl rfl <| .old rfl rfl <| .old rfl rfl <| .old rfl rfl <| .old rfl rfl <| .old rfl rfl <| .old rfl rfl <| .old rfl rfl <| .old rfl rfl <| .new rfl <| .nil)
      replace h_t := h_t.mono hle16
      replace hkk_t := hkk_t.mono hle16
      replace haa_t := haa_t.mono hle16
      replace hc2 := hc2.mono hle16
      replace hF6 := hF6.mono hle16
      replace hrow_rs := hrow_rs.mono hle16
      replace hrow_rq := hrow_rq.mono hle16
      replace hs_rs := hs_rs.mono hle16
      replace hV9 := hV9.mono hle16
      replace harm9 := harm9.mono hle16
      replace hW9 := hW9.mono hle16
      replace hway9 := hway9.mono hle16
      replace hA68 := hA68.mono hle16
      replace hA73 := hA73.mono hle16
      replace hA78 := hA78.mono hle16
      replace hA83 := hA83.mono hle16
      replace hA88 := hA88.mono hle16
      replace hU9 := hU9.mono hle16
      replace hP9 := hP9.mono hle16
      replace hC68 := hC68.mono hle16
      replace hC73 := hC73.mono hle16
      replace hC78 := hC78.mono hle16
      replace hC83 := hC83.mono hle16
      replace hC88 := hC88.mono hle16
      replace hPT := hPT.mono hle16
      replace hMM := hMM.mono hle16
      replace har9 := har9.mono hle16
      have hlh16 := hlh15.trans hle16
      clear hst15 hfr15 hk16
      refine hK39 _ _ ?_; clear hK39
      refine wp_block ?_
      have hlq40 := hlh16
      refine loop_any (T := [(7, _), (8, _), (1, _), (2, _), (5, _), (6, _), (9, _), (11, _), (12, _)]) (fun (y : Nat) => ([(13, .int .i64 (y : Int))] : List (Nat × Value))) (fun _ => _) (fun (y : Nat) m => (y ≤ 6)) (fun y => 6 - y) (0) ⟨hst16, MLe.refl _, hfr16.sub (.cons rfl <| .cons rfl <| .cons rfl <| .cons rfl <| .cons rfl <| .cons rfl <| .cons rfl <| .cons rfl <| .cons rfl <| .cons rfl <| .nil), Nat.zero_le _⟩ fun y a17 w17 m17 hh17 => ?_
      have hst17 := hh17.st; have hle17 := hh17.le; have hfr17 := hh17.fr; have hrel := hh17.rel; clear hh17
      replace h_t := h_t.mono hle17
      replace hkk_t := hkk_t.mono hle17
      replace haa_t := haa_t.mono hle17
      replace hc2 := hc2.mono hle17
      replace hF6 := hF6.mono hle17
      replace hrow_rs := hrow_rs.mono hle17
      replace hrow_rq := hrow_rq.mono hle17
      replace hs_rs := hs_rs.mono hle17
      replace hV9 := hV9.mono hle17
      replace harm9 := harm9.mono hle17
      replace hW9 := hW9.mono hle17
      replace hway9 := hway9.mono hle17
      replace hA68 := hA68.mono hle17
      replace hA73 := hA73.mono hle17
      replace hA78 := hA78.mono hle17
      replace hA83 := hA83.mono hle17
      replace hA88 := hA88.mono hle17
      replace hU9 := hU9.mono hle17
      replace hP9 := hP9.mono hle17
      replace hC68 := hC68.mono hle17
      replace hC73 := hC73.mono hle17
      replace hC78 := hC78.mono hle17
      replace hC83 := hC83.mono hle17
      replace hC88 := hC88.mono hle17
      replace hPT := hPT.mono hle17
      replace hMM := hMM.mono hle17
      replace har9 := har9.mono hle17
      clear hst16 hfr16
      have hyn := hrel
      have hlh17 := hle17
      refine seq_any fun _ hK41 => ?_
      refine seq_any fun _ hK42 => ?_
      refine rp0 hst17 hfr17 (.cons rfl (ob_move rfl) <| .cons rfl (ob_move rfl) <| .cons rfl (ob_len rfl Tryd.underlying22) <| .cons rfl (ob_lss rfl rfl) <| .nil) ?_
      intro a18 w18 m18 hst18 hle18 hk18
      have hfr18 := hk18.fr (T' := [(13, _), (7, _), (8, _), (1, _), (2, _), (5, _), (6, _), (9, _), (11, _), (12, _), (98, _)]) (.old rfl rfl <| .old rfl rfl <| .old rfl rfl <| .old rfl rfl <| .old rfl rfl <| .old rfl rfl <| .old rfl rfl <| .old rfl rfl <| .old rfl rfl <| .old rfl rfl <| .new rfl <| .nil)
      replace h_t := h_t.mono hle18
      replace hkk_t := hkk_t.mono hle18
      replace haa_t := haa_t.mono hle18
      replace hc2 := hc2.mono hle18
      replace hF6 := hF6.mono hle18
      replace hrow_rs := hrow_rs.mono hle18
      replace hrow_rq := hrow_rq.mono hle18
      replace hs_rs := hs_rs.mono hle18
      replace hV9 := hV9.mono hle18
      replace harm9 := harm9.mono hle18
      replace hW9 := hW9.mono hle18
      replace hway9 := hway9.mono hle18
      replace hA68 := hA68.mono hle18
      replace hA73 := hA73.mono hle18
      replace hA78 := hA78.mono hle18
      replace hA83 := hA83.mono hle18
      replace hA88 := hA88.mono hle18
      replace hU9 := hU9.mono hle18
      replace hP9 := hP9.mono hle18
      replace hC68 := hC68.mono hle18
      replace hC73 := hC73.mono hle18
      replace hC78 := hC78.mono hle18
      replace hC83 := hC83.mono hle18
      replace hC88 := hC88.mono hle18
      replace hPT := hPT.mono hle18
      replace hMM := hMM.mono hle18
      replace har9 := har9.mono hle18
      have hlh18 := hlh17.trans hle18
      clear hst17 hfr17 hk18
      refine hK42 _ _ ?_; clear hK42
      refine cond_any hfr18 rfl rfl (fun hb98 => ?_) (fun hb98 => ?_)
      · try simp only [nq1, nq2, nq3, nq4, nq5, nq6, nq7, nq8, nq9, u8_eq] at hb98
        refine wp_skip ?_
        refine hK41 _ _ ?_; clear hK41
        refine seq_any fun _ hK43 => ?_
        refine wp_block ?_
        refine seq_any fun _ hK44 => ?_
        obtain ⟨p45, vs45, x45, ho45, hd45, hm_x45, ht45, hcv45, hl45, hv45⟩ := har9.nth (k := y) (by omega)
        cases ho45
        obtain ⟨⟨oK45, cK45, oA45, cA45⟩, rfl, ⟨hik45, hin45⟩, hkk45, haa45⟩ := hv45.open_
        dsimp only at hkk45 haa45
        have hbg45 := hkk45.big; have hcp45 := hkk45.cap; have hbh45 := haa45.big; have hcq45 := haa45.cap
        refine rp0 hst18 hfr18 (.cons rfl (ob_move rfl) <| .cons rfl (ob_move rfl) <| .cons rfl (ob_indexAddr (k := y) rfl rfl Tryd.underlying22 Tryd.sizeOf25 rfl (by omega)) <| .cons rfl (ob_loadS' rfl hcv45 Tryd.isAgg25 Tryd.sizeOf25 rfl rfl) <| .cons rfl (ob_callE rfl (.cons rfl <| .nil) Tryd.call12 (fun w m hK => by have hle_ := KC.le hK; have hA := KC.agree hK; have hT := tab_keep hT hK.st.ext; have h_t := h_t.mono hle_; have hkk_t := hkk_t.mono hle_; have haa_t := haa_t.mono hle_; have hc2 := hc2.mono hle_; have hF6 := hF6.mono hle_; have hrow_rs := hrow_rs.mono hle_; have hrow_rq := hrow_rq.mono hle_; have hs_rs := hs_rs.mono hle_; have hV9 := hV9.mono hle_; have harm9 := harm9.mono hle_; have hW9 := hW9.mono hle_; have hway9 := hway9.mono hle_; have hA68 := hA68.mono hle_; have hA73 := hA73.mono hle_; have hA78 := hA78.mono hle_; have hA83 := hA83.mono hle_; have hA88 := hA88.mono hle_; have hU9 := hU9.mono hle_; have hP9 := hP9.mono hle_; have hC68 := hC68.mono hle_; have hC73 := hC73.mono hle_; have hC78 := hC78.mono hle_; have hC83 := hC83.mono hle_; have hC88 := hC88.mono hle_; have hPT := hPT.mono hle_; have hMM := hMM.mono hle_; have har9 := har9.mono hle_; have hcv45 := hcv45.mono hle_; have hv45 := hv45.mono hle_; have hkk45 := hkk45.mono hle_; have haa45 := haa45.mono hle_; exact right_c _ hA (by first | assumption | omega | simp_all))) <| .cons rfl (ob_not rfl) <| .cons rfl (ob_move rfl) <| .cons rfl (ob_move rfl) <| .cons rfl (ob_move rfl) <| .cons rfl (ob_indexAddr (k := y) rfl rfl Tryd.underlying22 Tryd.sizeOf25 rfl (by omega)) <| .cons rfl (ob_loadS' rfl hcv45 Tryd.isAgg25 Tryd.sizeOf25 rfl rfl) <| .cons rfl (ob_call (φ := MP.strs (freeP x45)) rfl (.cons rfl <| .nil) Tryd.call13 (fun w m hK => by have hle_ := KC.le hK; have hA := KC.agree hK; have hv45 := hv45.mono hle_; exact FnG.mono (freeF_c (t := x45) hA hv45 (by have := around_cnt x45 hm_x45; omega)) fun _ _ _ _ h => h)) <| .cons rfl (ob_move rfl) <| .cons rfl (ob_imgE 112 rfl rfl rfl fun y112 => ob_callE rfl (.cons rfl <| .cons rfl <| .nil) Tryd.call21 (fun w m hK => by have hle_ := KC.le hK; have hA := KC.agree hK; have hr0_ := hK.2; have hs_rs := hs_rs.mono hle_; exact texts_c (pl := freeP x45) (ql := rq) hA hr0_ hs_rs)) <| .cons rfl (ob_not rfl) <| .cons rfl (ob_or rfl rfl rfl) <| .nil) ?_
        intro a19 w19 m19 hst19 hle19 hk19
        have hfr19 := hk19.fr (T' := [(13, _), (7, _), (8, _), (1, _), (2, _), (5, _), (6, _), (9, _), (11, _), (12, _), (116, _)]) (.old rfl rfl <| .old rfl rfl <| .old rfl rfl <| .old rfl rfl <| .old rfl rfl <| .old rfl rfl <| .old rfl rfl <| .old rfl rfl <| .old rfl rfl <| .old rfl rfl <| .new rfl <| .nil)
        have hlh19 := hlh18.trans hle19
        clear hst18 hfr18 hk19
        have hrr9 := around_right hrt hsn9 x45 hm_x45
        have hff9 := around_free x45 hm_x45
        refine hK44 _ _ ?_; clear hK44
        refine cond_any hfr19 rfl rfl (fun hb116 => ?_) (fun hb116 => ?_)
        · exact absurd hb116 (by rw [hrr9, hff9, hfin]; simp)
        · try simp only [nq1, nq2, nq3, nq4, nq5, nq6, nq7, nq8, nq9, u8_eq] at hb116
          refine wp_skip ?_
          refine hK43 _ _ ?_; clear hK43
          refine rp0 hst19 hfr19 (.cons rfl (ob_move rfl) <| .cons rfl (ob_add rfl rfl ⟨by omega, by omega⟩) <| .cons rfl (ob_assign rfl) <| .nil) ?_
          intro a20 w20 m20 hst20 hle20 hk20
          have hfr20 := hk20.fr (T' := [(7, _), (8, _), (1, _), (2, _), (5, _), (6, _), (9, _), (11, _), (12, _), (13, _)]) (.old rfl rfl <| .old rfl rfl <| .old rfl rfl <| .old rfl rfl <| .old rfl rfl <| .old rfl rfl <| .old rfl rfl <| .old rfl rfl <| .old rfl rfl <| .new rfl <| .nil)
          have hlh20 := hlh19.trans hle20
          clear hst19 hfr19 hk20
          exact ⟨y + 1, m20, by show 6 - (y + 1) < 6 - y; omega, ⟨hst20, hlh20, hfr20.sub (.cons rfl <| .cons rfl <| .cons rfl <| .cons rfl <| .cons rfl <| .cons rfl <| .cons rfl <| .cons rfl <| .cons rfl <| .cons rfl <| .nil), by show y + 1 ≤ 6; omega⟩⟩
      · try simp only [nq1, nq2, nq3, nq4, nq5, nq6, nq7, nq8, nq9, u8_eq] at hb98
        have hge : y = 6 := by omega
        refine wp_exit ?_
        refine hK38 _ _ ?_; clear hK38
        refine seq_any fun _ hK46 => ?_
        refine region_cut 4 (by kernel_rfl) ?_
        refine ops_seq (tch := []) hst18 hfr18 (by kernel_rfl) (by kernel_rfl) (by kernel_rfl) (.cons rfl (ob_loadLA (j := 1) rfl rfl Tryd.isAgg25 Tryd.sizeOf25 rfl) <| .cons rfl (ob_buildSlice1 rfl Tryd.underlying22 Tryd.sizeOf25 Tryd.zeroValue25 rfl rfl rfl rfl) <| .cons rfl (ob_loadLA (j := 3) rfl rfl Tryd.isAgg35 Tryd.sizeOf35 rfl) <| .cons rfl (ob_buildSlice1 rfl Tryd.underlying23 Tryd.sizeOf35 Tryd.zeroValue35 rfl rfl rfl rfl) <| .nil) ?_
        intro a19 w19 m19 hst19 hle19 hk19
        have hfr19 := hk19.fr (T' := [(13, _), (7, _), (8, _), (1, _), (2, _), (5, _), (6, _), (9, _), (11, _), (12, _)]) (.old rfl rfl <| .old rfl rfl <| .old rfl rfl <| .old rfl rfl <| .old rfl rfl <| .old rfl rfl <| .old rfl rfl <| .old rfl rfl <| .old rfl rfl <| .old rfl rfl <| .nil)
        obtain ⟨gX, e47, hX9⟩ := hk19.ex 118 rfl
        replace hfr19 := hfr19.cons e47
        obtain ⟨gY, e48, hY9⟩ := hk19.ex 120 rfl
        replace hfr19 := hfr19.cons e48
        replace h_t := h_t.mono hle19
        replace hc2 := hc2.mono hle19
        replace hF6 := hF6.mono hle19
        replace hway9 := hway9.mono hle19
        have hlh19 := hlh18.trans hle19
        clear hst18 hfr18 hk19
        have hMB : CdR m19 (matchB s t) _ := nodeA_R (a := wayT s t) ⟨by decide, by decide⟩ hX9 unit_R hY9 hway9
        refine ops_seq (tch := []) hst19 hfr19 (by kernel_rfl) (by kernel_rfl) (by kernel_rfl) (.cons rfl (ob_buildS (cs := cdV (matchB s t) ⟨some ⟨gX, 0, none⟩, 1, some ⟨gY, 0, none⟩, 1⟩) (.cons rfl <| .cons rfl <| .cons rfl <| .nil) Tryd.underlying25 Tryd.zeroValue25 (.cons Tryd.sizeOf3 <| .cons Tryd.sizeOf9 <| .cons Tryd.sizeOf9 <| .cons Tryd.sizeOf3 <| .cons Tryd.sizeOf22 <| .cons Tryd.sizeOf23 <| .nil) (rfl)) <| .cons rfl (ob_call (φ := MP.strs (freeP (matchB s t))) rfl (.cons rfl <| .nil) Tryd.call13 (fun w m hK => by have hle_ := KC.le hK; have hA := KC.agree hK; have hMB := hMB.mono hle_; exact FnG.mono (freeF_c (t := matchB s t) hA hMB (by omega)) fun _ _ _ _ h => h)) <| .consA 122 rfl rfl <| .nil) ?_
        intro a20 w20 m20 hst20 hle20 hk20
        have hfr20 := hk20.fr (T' := [(13, _), (7, _), (8, _), (1, _), (2, _), (5, _), (6, _), (9, _), (11, _), (12, _), (118, _), (120, _)]) (.old rfl rfl <| .old rfl rfl <| .old rfl rfl <| .old rfl rfl <| .old rfl rfl <| .old rfl rfl <| .old rfl rfl <| .old rfl rfl <| .old rfl rfl <| .old rfl rfl <| .old rfl rfl <| .old rfl rfl <| .nil)
        obtain ⟨⟨oF14, cF14⟩, e49, hF14⟩ := hk20.ex 122 rfl
        replace hfr20 := hfr20.cons e49
        replace hfr20 := hfr20.cons (hk20.same 14 rfl e49)
        replace h_t := h_t.mono hle20
        replace hc2 := hc2.mono hle20
        replace hF6 := hF6.mono hle20
        have hlh20 := hlh19.trans hle20
        clear hst19 hfr19 hk20
        have hbF14 := hF14.big
        refine hK46 _ _ ?_; clear hK46
        refine seq_any fun _ hK50 => ?_
        refine seq_any fun _ hK51 => ?_
        refine rp0 hst20 hfr20 (.cons rfl (ob_assign rfl) <| .nil) ?_
        intro a21 w21 m21 hst21 hle21 hk21
        have hfr21 := hk21.fr (T' := [(13, _), (7, _), (8, _), (1, _), (2, _), (5, _), (6, _), (9, _), (14, _), (15, _)]) (.old rfl rfl <| .old rfl rfl <| .old rfl rfl <| .old rfl rfl <| .old rfl rfl <| .old rfl rfl <| .old rfl rfl <| .old rfl rfl <| .old rfl rfl <| .new rfl <| .nil)
        replace h_t := h_t.mono hle21
        replace hc2 := hc2.mono hle21
        replace hF6 := hF6.mono hle21
        replace hF14 := hF14.mono hle21
        have hlh21 := hlh20.trans hle21
        clear hst20 hfr20 hk21
        refine hK51 _ _ ?_; clear hK51
        refine wp_block ?_
        have hlq52 := hlh21
        refine loop_any (T := [(13, _), (7, _), (8, _), (1, _), (2, _), (5, _), (6, _), (9, _), (14, _)]) (fun (y : Nat) => ([(15, .int .i64 (y : Int))] : List (Nat × Value))) (fun _ => _) (fun (y : Nat) m => (y ≤ (freeP (matchB s t)).length)) (fun y => (freeP (matchB s t)).length - y) (0) ⟨hst21, MLe.refl _, hfr21.sub (.cons rfl <| .cons rfl <| .cons rfl <| .cons rfl <| .cons rfl <| .cons rfl <| .cons rfl <| .cons rfl <| .cons rfl <| .cons rfl <| .nil), Nat.zero_le _⟩ fun y a22 w22 m22 hh22 => ?_
        have hst22 := hh22.st; have hle22 := hh22.le; have hfr22 := hh22.fr; have hrel := hh22.rel; clear hh22
        replace h_t := h_t.mono hle22
        replace hc2 := hc2.mono hle22
        replace hF6 := hF6.mono hle22
        replace hF14 := hF14.mono hle22
        clear hst21 hfr21
        have hyn := hrel
        have hlh22 := hle22
        refine seq_any fun _ hK53 => ?_
        refine seq_any fun _ hK54 => ?_
        refine rp0 hst22 hfr22 (.cons rfl (ob_move rfl) <| .cons rfl (ob_move rfl) <| .cons rfl (ob_len rfl Tryd.underlying29) <| .cons rfl (ob_lss rfl rfl) <| .nil) ?_
        intro a23 w23 m23 hst23 hle23 hk23
        have hfr23 := hk23.fr (T' := [(15, _), (13, _), (7, _), (8, _), (1, _), (2, _), (5, _), (6, _), (9, _), (14, _), (126, _)]) (.old rfl rfl <| .old rfl rfl <| .old rfl rfl <| .old rfl rfl <| .old rfl rfl <| .old rfl rfl <| .old rfl rfl <| .old rfl rfl <| .old rfl rfl <| .old rfl rfl <| .new rfl <| .nil)
        replace h_t := h_t.mono hle23
        replace hc2 := hc2.mono hle23
        replace hF6 := hF6.mono hle23
        replace hF14 := hF14.mono hle23
        have hlh23 := hlh22.trans hle23
        clear hst22 hfr22 hk23
        refine hK54 _ _ ?_; clear hK54
        refine cond_any hfr23 rfl rfl (fun hb126 => ?_) (fun hb126 => ?_)
        · try simp only [nq1, nq2, nq3, nq4, nq5, nq6, nq7, nq8, nq9, u8_eq] at hb126
          refine wp_skip ?_
          refine hK53 _ _ ?_; clear hK53
          refine seq_any fun _ hK55 => ?_
          refine wp_block ?_
          refine seq_any fun _ hK56 => ?_
          obtain ⟨p57, vs57, x57, ho57, hd57, hm_x57, ht57, hcv57, hl57, hv57⟩ := hF14.nth (k := y) (by omega)
          cases ho57
          subst hv57
          refine rp0 hst23 hfr23 (.cons rfl (ob_move rfl) <| .cons rfl (ob_move rfl) <| .cons rfl (ob_indexAddr (k := y) rfl rfl Tryd.underlying29 Tryd.sizeOf9 rfl (by omega)) <| .cons rfl (ob_load1' rfl hcv57 Tryd.isAgg9 rfl) <| .cons rfl (ob_move rfl) <| .cons rfl (ob_seql rfl rfl) <| .cons rfl (ob_move rfl) <| .cons rfl (ob_move rfl) <| .cons rfl (ob_sneq rfl rfl) <| .cons rfl (ob_and rfl rfl rfl) <| .cons rfl (ob_move rfl) <| .cons rfl (ob_move rfl) <| .cons rfl (ob_move rfl) <| .cons rfl (ob_indexAddr (k := y) rfl rfl Tryd.underlying29 Tryd.sizeOf9 rfl (by omega)) <| .cons rfl (ob_load1' rfl hcv57 Tryd.isAgg9 rfl) <| .cons rfl (ob_seql rfl rfl) <| .cons rfl (ob_or rfl rfl rfl) <| .nil) ?_
          intro a24 w24 m24 hst24 hle24 hk24
          have hfr24 := hk24.fr (T' := [(15, _), (13, _), (7, _), (8, _), (1, _), (2, _), (5, _), (6, _), (9, _), (14, _), (145, _)]) (.old rfl rfl <| .old rfl rfl <| .old rfl rfl <| .old rfl rfl <| .old rfl rfl <| .old rfl rfl <| .old rfl rfl <| .old rfl rfl <| .old rfl rfl <| .old rfl rfl <| .new rfl <| .nil)
          have hlh24 := hlh23.trans hle24
          clear hst23 hfr23 hk24
          have hmm9 := match_mem hm_x57
          refine hK56 _ _ ?_; clear hK56
          refine cond_any hfr24 rfl rfl (fun hb145 => ?_) (fun hb145 => ?_)
          · try simp only [nq1, nq2, nq3, nq4, nq5, nq6, nq7, nq8, nq9] at hb145
            exact (hb145.elim (fun h => h.2 (hmm9.2 h.1)) hmm9.1).elim
          · try simp only [nq1, nq2, nq3, nq4, nq5, nq6, nq7, nq8, nq9, u8_eq] at hb145
            refine wp_skip ?_
            refine hK55 _ _ ?_; clear hK55
            refine rp0 hst24 hfr24 (.cons rfl (ob_move rfl) <| .cons rfl (ob_add rfl rfl ⟨by omega, by omega⟩) <| .cons rfl (ob_assign rfl) <| .nil) ?_
            intro a25 w25 m25 hst25 hle25 hk25
            have hfr25 := hk25.fr (T' := [(13, _), (7, _), (8, _), (1, _), (2, _), (5, _), (6, _), (9, _), (14, _), (15, _)]) (.old rfl rfl <| .old rfl rfl <| .old rfl rfl <| .old rfl rfl <| .old rfl rfl <| .old rfl rfl <| .old rfl rfl <| .old rfl rfl <| .old rfl rfl <| .new rfl <| .nil)
            have hlh25 := hlh24.trans hle25
            clear hst24 hfr24 hk25
            exact ⟨y + 1, m25, by show (freeP (matchB s t)).length - (y + 1) < (freeP (matchB s t)).length - y; omega, ⟨hst25, hlh25, hfr25.sub (.cons rfl <| .cons rfl <| .cons rfl <| .cons rfl <| .cons rfl <| .cons rfl <| .cons rfl <| .cons rfl <| .cons rfl <| .cons rfl <| .nil), by show y + 1 ≤ (freeP (matchB s t)).length; omega⟩⟩
        · try simp only [nq1, nq2, nq3, nq4, nq5, nq6, nq7, nq8, nq9, u8_eq] at hb126
          have hge : y = (freeP (matchB s t)).length := by omega
          refine wp_exit ?_
          refine hK50 _ _ ?_; clear hK50
          refine seq_any fun _ hK58 => ?_
          refine region_cut 4 (by kernel_rfl) ?_
          refine ops_seq (tch := []) hst23 hfr23 (by kernel_rfl) (by kernel_rfl) (by kernel_rfl) (.cons rfl (ob_move rfl) <| .cons rfl (ob_loadS' rfl hc2 Tryd.isAgg25 Tryd.sizeOf25 rfl rfl) <| .cons rfl (ob_loadLA (j := 1) rfl rfl Tryd.isAgg25 Tryd.sizeOf25 rfl) <| .cons rfl (ob_buildSlice2 rfl rfl Tryd.underlying22 Tryd.sizeOf25 Tryd.zeroValue25 rfl rfl rfl rfl rfl) <| .nil) ?_
          intro a24 w24 m24 hst24 hle24 hk24
          have hfr24 := hk24.fr (T' := [(15, _), (13, _), (7, _), (8, _), (1, _), (2, _), (5, _), (6, _), (9, _), (14, _), (146, _)]) (.old rfl rfl <| .old rfl rfl <| .old rfl rfl <| .old rfl rfl <| .old rfl rfl <| .old rfl rfl <| .old rfl rfl <| .old rfl rfl <| .old rfl rfl <| .old rfl rfl <| .new rfl <| .nil)
          obtain ⟨gZ, e59, hZ9⟩ := hk24.ex 149 rfl
          replace hfr24 := hfr24.cons e59
          replace h_t := h_t.mono hle24
          replace hF6 := hF6.mono hle24
          have hlh24 := hlh23.trans hle24
          clear hst23 hfr23 hk24
          have hLB : CdR m24 (letB s t) _ := node2_R ⟨by decide, by decide⟩ hZ9 h_t unit_R
          refine ops_seq (tch := []) hst24 hfr24 (by kernel_rfl) (by kernel_rfl) (by kernel_rfl) (.cons rfl (ob_buildS (cs := cdV (letB s t) ⟨some ⟨gZ, 0, none⟩, 2, none, 0⟩) (.cons rfl <| .cons rfl <| .cons rfl <| .nil) Tryd.underlying25 Tryd.zeroValue25 (.cons Tryd.sizeOf3 <| .cons Tryd.sizeOf9 <| .cons Tryd.sizeOf9 <| .cons Tryd.sizeOf3 <| .cons Tryd.sizeOf22 <| .cons Tryd.sizeOf23 <| .nil) (rfl)) <| .cons rfl (ob_call (φ := MP.strs (freeP (letB s t))) rfl (.cons rfl <| .nil) Tryd.call13 (fun w m hK => by have hle_ := KC.le hK; have hA := KC.agree hK; have hLB := hLB.mono hle_; exact FnG.mono (freeF_c (t := letB s t) hA hLB (by omega)) fun _ _ _ _ h => h)) <| .consA 151 rfl rfl <| .nil) ?_
          intro a25 w25 m25 hst25 hle25 hk25
          have hfr25 := hk25.fr (T' := [(15, _), (13, _), (7, _), (8, _), (1, _), (2, _), (5, _), (6, _), (9, _), (14, _), (146, _), (149, _)]) (.old rfl rfl <| .old rfl rfl <| .old rfl rfl <| .old rfl rfl <| .old rfl rfl <| .old rfl rfl <| .old rfl rfl <| .old rfl rfl <| .old rfl rfl <| .old rfl rfl <| .old rfl rfl <| .old rfl rfl <| .nil)
          obtain ⟨⟨oF16, cF16⟩, e60, hF16⟩ := hk25.ex 151 rfl
          replace hfr25 := hfr25.cons e60
          replace hfr25 := hfr25.cons (hk25.same 16 rfl e60)
          replace hF6 := hF6.mono hle25
          have hlh25 := hlh24.trans hle25
          clear hst24 hfr24 hk25
          refine hK58 _ _ ?_; clear hK58
          refine seq_any fun _ hK61 => ?_
          refine rp0 hst25 hfr25 (.cons rfl (ob_move rfl) <| .cons rfl (ob_move rfl) <| .cons rfl (ob_move rfl) <| .cons rfl (ob_move rfl) <| .cons rfl (ob_callE rfl (.cons rfl <| .cons rfl <| .nil) Tryd.call21 (fun w m hK => by have hle_ := KC.le hK; have hA := KC.agree hK; have hF6 := hF6.mono hle_; have hF16 := hF16.mono hle_; exact texts_c (pl := freeP (letB s t)) (ql := freeP t) hA hF16 hF6)) <| .cons rfl (ob_and rfl rfl rfl) <| .cons rfl (ob_assign rfl) <| .nil) ?_
          intro a26 w26 m26 hst26 hle26 hk26
          have hfr26 := hk26.fr (T' := [(15, _), (13, _), (7, _), (8, _), (4, _)]) (.old rfl rfl <| .old rfl rfl <| .old rfl rfl <| .old rfl rfl <| .new rfl <| .nil)
          have hlh26 := hlh25.trans hle26
          clear hst25 hfr25 hk26
          refine hK61 _ _ ?_; clear hK61
          refine wp_ret ?_
          repeat (with_reducible first | refine then_ret ?_ | refine block_ret ?_)
          exact fn_ret hst26 hfr26 rfl (.tmp rfl <| .nil) (by refine congrArg Value.bool ?_; simp [let_free])

end Go.Proofs.YtlihpgjabohebaaDoor
