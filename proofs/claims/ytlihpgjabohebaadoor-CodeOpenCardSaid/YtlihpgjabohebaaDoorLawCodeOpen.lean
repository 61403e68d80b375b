/-
  A law of chapter 15, walked. Conditions: those of the theorem.
-/
import Derived.Test.YtlihpgjabohebaaDoorCshown
import Derived.Test.YtlihpgjabohebaaDoorCref
namespace Go.Proofs.YtlihpgjabohebaaDoor
set_option linter.all false
set_option maxRecDepth 4000
open Go.RowKit
theorem right_kind {t : Cd} (h : rightC t = true) : 1 ≤ t.kind ∧ t.kind ≤ 15 := by
  rcases kind_cases t with hk | hk
  · omega
  · rw [rightC_eq] at h
    have : headC t = false := by
      obtain ⟨h1, h2, h3, h4, h5, h6, h7, h8, h9, h10, h11, h12, h13, h14, h15⟩ := hk
      unfold headC; simp [*]
    rw [this] at h; cases h
theorem atom_right {t : Cd} (h : rightC t = true) : atomC t = decide (t.kind ≤ 5) := by
  have := (right_kind h).1
  unfold atomC; simp [this]
theorem right_node (k : Int) (s p : Str) (l : List Cd) (az : List Ca) : rightC (nodeC k s p l az) = (headC (nodeC k s p l az) && armsOk k 0 az && l.all rightC && az.all fun a => rightC a.body) := rightC_eq _
theorem right_unit : rightC unitC = true := by decide
theorem atom_unit : atomC unitC = true := by decide
theorem cds_cells {m : Mem} {g : Nat} (l : List (Cd × List Value)) (hc : CellsAt m ⟨g, 0, none⟩ (l.map Prod.snd).flatten) (h : ∀ x ∈ l, CdR m x.1 x.2) (hb : l.length ≤ 100) : Cds m (some ⟨g, 0, none⟩) l.length l.length (l.map Prod.fst) := by
  have h1 := Sl.of_row (R := fun m vs (x : Cd × List Value) => CdR m x.1 vs) (sz := 6) (f := Prod.snd) (.inr ⟨_, rfl, by rw [List.flatMap_def]; exact hc⟩) rfl (Nat.le_refl _) (by omega) (by omega) fun x hx => ⟨(h x hx).len, h x hx⟩
  refine ⟨by simp, h1.cap, h1.big, fun i x hx => ?_⟩
  rw [List.getElem?_map] at hx
  cases e : l[i]? with
  | none => rw [e] at hx; cases hx
  | some y =>
    rw [e] at hx; simp only [Option.map_some, Option.some.injEq] at hx; subst hx
    exact h1.at_ i y e
def AllR (m : Mem) : List (Cd × List Value) → Prop
  | [] => True
  | x :: l => CdR m x.1 x.2 ∧ AllR m l
theorem allR {m : Mem} : ∀ (l : List (Cd × List Value)), AllR m l → ∀ x ∈ l, CdR m x.1 x.2
  | [], _, x, hx => by cases hx
  | y :: l, h, x, hx => by
    rcases List.mem_cons.1 hx with rfl | hx
    · exact h.1
    · exact allR l h.2 x hx
theorem node3_R {m : Mem} {k : Int} {s p : Str} {t u v : Cd} {g : Nat} {vs us ws : List Value} (hk : InI64 k) (hc : CellsAt m ⟨g, 0, none⟩ [vs, us, ws].flatten) (h : CdR m t vs) (h2 : CdR m u us) (h3 : CdR m v ws) : CdR m (nodeC k s p [t, u, v] []) (cdV (nodeC k s p [t, u, v] []) ⟨some ⟨g, 0, none⟩, 3, none, 0⟩) :=
  CdR.build hk i0 (cds_cells [(t, vs), (u, us), (v, ws)] hc (fun x hx => by simp only [List.mem_cons, List.not_mem_nil, or_false] at hx; rcases hx with rfl | rfl | rfl <;> assumption) (Nat.le_of_ble_eq_true rfl)) Sl.empty
def condC (s : Str) (t u : Cd) : Cd := nodeC 10 [] [] [varC s, t, u] []
theorem cond_mem (s : Str) (t u : Cd) (x : Str) : x ∈ freeP (condC s t u) ↔ x = s ∨ x ∈ freeP t ∨ x ∈ freeP u := by
  simp only [freeP_mem]
  have : occP (condC s t u) [] = [s] ++ (occP t [] ++ (occP u [] ++ [])) := by
    rw [occP_eq]
    simp [condC, nodeC, headO, kidsO, occKs, bindP, occAs, Cd.kind, Cd.name, Cd.param, Cd.kids, Cd.arms, varC, occP]
  rw [this]; simp
theorem cond_cnt (s : Str) (t u : Cd) : cntC (condC s t u) = 2 + cntC t + cntC u := by rw [cntC_eq]; simp [condC, nodeC, varC, Cd.kids, Cd.arms, cntC, cntKs, cntAs]; omega
theorem sorted_at {l : List Str} (h : l.Pairwise (· < ·)) {y : Nat} {x z : Str} {r q : List Str} (hy : 0 < y) (hx : l.drop y = x :: r) (hz : l.drop (y - 1) = z :: q) : z < x := by
  have e : l.drop (y - 1 + 1) = q := by rw [← List.drop_drop, hz]; rfl
  rw [show y - 1 + 1 = y by omega, hx] at e
  have h1 := h.sublist (List.drop_sublist (y - 1) l)
  rw [hz, ← e] at h1
  exact (List.pairwise_cons.1 h1).1 x (.head _)
set_option maxHeartbeats 3200000 in
theorem codeOpen_c {w : World} {m : Mem} {t : Cd} {vs_t : List Value} {u : Cd} {vs_u : List Value} {s : Str} (hA : Agree w m) (h_t : CdR m t vs_t) (h_u : CdR m u vs_u) (hT : Tab w) : FnV Tryd.prog 3 #[.agg vs_t.toArray, .agg vs_u.toArray, S s] w m (fun _ _ v => v = .bool true) := by
  obtain ⟨⟨oK_t, cK_t, oA_t, cA_t⟩, rfl, ⟨hik_t, hin_t⟩, hkk_t, haa_t⟩ := h_t.open_
  dsimp only at hkk_t haa_t
  have hbg_t := hkk_t.big; have hcp_t := hkk_t.cap; have hbh_t := haa_t.big; have hcq_t := haa_t.cap
  obtain ⟨⟨oK_u, cK_u, oA_u, cA_u⟩, rfl, ⟨hik_u, hin_u⟩, hkk_u, haa_u⟩ := h_u.open_
  dsimp only at hkk_u haa_u
  have hbg_u := hkk_u.big; have hcp_u := hkk_u.cap; have hbh_u := haa_u.big; have hcq_u := haa_u.cap
  refine fn_enter (vs := [_, _, _]) Tryd.func3 rfl rfl rfl fun a0 hfr0 => ?_
  have hst0 := st_enter hA (loc_nil [] _ w m)
  have hM : MLe m m := MLe.refl m
  refine seq_any fun _ hK1 => ?_
  refine rp0 hst0 hfr0 (.cons rfl (ob_box rfl rfl) <| .cons rfl (ob_box rfl rfl) <| .cons rfl (ob_assign rfl) <| .nil) ?_
  intro a1 w1 m1 hst1 hle1 hk1
  have hfr1 := hk1.fr (T' := [(2, _)]) (.old rfl rfl <| .nil)
  obtain ⟨g2, e2, hc3⟩ := hk1.ex 3 rfl
  replace hfr1 := hfr1.cons e2
  obtain ⟨g3, e3, hc4⟩ := hk1.ex 4 rfl
  replace hfr1 := hfr1.cons e3
  replace h_t := h_t.mono hle1
  replace h_u := h_u.mono hle1
  clear hst0 hfr0 hk1
  refine hK1 _ _ ?_; clear hK1
  refine seq_any fun _ hK4 => ?_
  refine rp0 hst1 hfr1 (.cons rfl (ob_callE rfl (.nil) Tryd.call10 (fun w m hK => by have hle_ := KC.le hK; have hA := KC.agree hK; have hT := tab_keep hT hK.st.ext; exact shown_c hA hT)) <| .cons rfl (ob_assign rfl) <| .nil) ?_
  intro a2 w2 m2 hst2 hle2 hk2
  have hfr2 := hk2.fr (T' := [(2, _), (3, _), (4, _), (7, _)]) (.old rfl rfl <| .old rfl rfl <| .old rfl rfl <| .new rfl <| .nil)
  replace h_t := h_t.mono hle2
  replace h_u := h_u.mono hle2
  replace hc3 := hc3.mono hle2
  replace hc4 := hc4.mono hle2
  clear hst1 hfr1 hk2
  refine hK4 _ _ ?_; clear hK4
  refine seq_any fun _ hK5 => ?_
  refine seq_any fun _ hK6 => ?_
  refine rp0 hst2 hfr2 (.cons rfl (ob_loadS' rfl hc3 Tryd.isAgg25 Tryd.sizeOf25 rfl rfl) <| .cons rfl (ob_callE rfl (.cons rfl <| .nil) Tryd.call11 (fun w m hK => by have hle_ := KC.le hK; have hA := KC.agree hK; have h_t := h_t.mono hle_; exact count_c t hA h_t)) <| .cons rfl (ob_gtr rfl rfl) <| .cons rfl (ob_move rfl) <| .cons rfl (ob_loadS' rfl hc4 Tryd.isAgg25 Tryd.sizeOf25 rfl rfl) <| .cons rfl (ob_callE rfl (.cons rfl <| .nil) Tryd.call11 (fun w m hK => by have hle_ := KC.le hK; have hA := KC.agree hK; have h_u := h_u.mono hle_; exact count_c u hA h_u)) <| .cons rfl (ob_gtr rfl rfl) <| .cons rfl (ob_or rfl rfl rfl) <| .cons rfl (ob_move rfl) <| .cons rfl (ob_loadS' rfl hc3 Tryd.isAgg25 Tryd.sizeOf25 rfl rfl) <| .cons rfl (ob_callE rfl (.cons rfl <| .nil) Tryd.call12 (fun w m hK => by have hle_ := KC.le hK; have hA := KC.agree hK; have h_t := h_t.mono hle_; exact right_c t hA h_t)) <| .cons rfl (ob_not rfl) <| .cons rfl (ob_or rfl rfl rfl) <| .cons rfl (ob_move rfl) <| .cons rfl (ob_loadS' rfl hc4 Tryd.isAgg25 Tryd.sizeOf25 rfl rfl) <| .cons rfl (ob_callE rfl (.cons rfl <| .nil) Tryd.call12 (fun w m hK => by have hle_ := KC.le hK; have hA := KC.agree hK; have h_u := h_u.mono hle_; exact right_c u hA h_u)) <| .cons rfl (ob_not rfl) <| .cons rfl (ob_or rfl rfl rfl) <| .cons rfl (ob_move rfl) <| .cons rfl (ob_move rfl) <| .cons rfl (ob_seql rfl rfl) <| .cons rfl (ob_or rfl rfl rfl) <| .nil) ?_
  intro a3 w3 m3 hst3 hle3 hk3
  have hfr3 := hk3.fr (T' := [(2, _), (3, _), (4, _), (7, _), (36, _)]) (.old rfl rfl <| .old rfl rfl <| .old rfl rfl <| .old rfl rfl <| .new rfl <| .nil)
  replace h_t := h_t.mono hle3
  replace h_u := h_u.mono hle3
  replace hc3 := hc3.mono hle3
  replace hc4 := hc4.mono hle3
  clear hst2 hfr2 hk3
  refine hK6 _ _ ?_; clear hK6
  refine cond_any hfr3 rfl rfl (fun hb36 => ?_) (fun hb36 => ?_)
  · try simp only [nq1, nq2, nq3, nq4, nq5, nq6, nq7, nq8, nq9, u8_eq] at hb36
    refine seq_any fun _ hK7 => ?_
    refine rp0 hst3 hfr3 (.cons rfl (ob_move rfl) <| .cons rfl (ob_assign rfl) <| .nil) ?_
    intro a4 w4 m4 hst4 hle4 hk4
    have hfr4 := hk4.fr (T' := [(6, _)]) (.new rfl <| .nil)
    clear hst3 hfr3 hk4
    refine hK7 _ _ ?_; clear hK7
    refine wp_ret ?_
    repeat (with_reducible first | refine then_ret ?_ | refine block_ret ?_)
    exact fn_ret hst4 hfr4 rfl (.tmp rfl <| .nil) (rfl)
  · try simp only [nq1, nq2, nq3, nq4, nq5, nq6, nq7, nq8, nq9, u8_eq] at hb36
    have hct9 : cntC t ≤ 500 := by omega
    have hcu9 : cntC u ≤ 500 := by omega
    have hcc9 := cond_cnt s t u
    refine wp_skip ?_
    refine hK5 _ _ ?_; clear hK5
    refine seq_any fun _ hK9 => ?_
    refine region_any (tch := []) (fun _ => mixed) hst3 hfr3 (by kernel_rfl) (by kernel_rfl) (by kernel_rfl) (.cons rfl (ob_move rfl) <| .cons rfl (ob_callE rfl (.cons rfl <| .nil) Tryd.call14 (fun w m hK => by have hle_ := KC.le hK; have hA := KC.agree hK; exact variable_c hA)) <| .cons rfl (ob_loadS' rfl hc3 Tryd.isAgg25 Tryd.sizeOf25 rfl rfl) <| .cons rfl (ob_loadS' rfl hc4 Tryd.isAgg25 Tryd.sizeOf25 rfl rfl) <| .cons rfl (ob_buildSliceN [_, _, _] (.cons rfl <| .cons rfl <| .cons rfl <| .nil) rfl Tryd.underlying22 Tryd.sizeOf25 Tryd.zeroValue25 rfl rfl rfl rfl rfl) <| .cons rfl (ob_imgV 42 rfl rfl rfl fun y42 => ob_buildS (cs := cdV (condC s t u) ⟨some ⟨y42, 0, none⟩, 3, none, 0⟩) (.cons rfl <| .cons rfl <| .nil) Tryd.underlying25 Tryd.zeroValue25 (.cons Tryd.sizeOf3 <| .cons Tryd.sizeOf9 <| .cons Tryd.sizeOf9 <| .cons Tryd.sizeOf3 <| .cons Tryd.sizeOf22 <| .cons Tryd.sizeOf23 <| .nil) (rfl)) <| .cons rfl (ob_imgE 43 rfl rfl rfl fun y43 => ob_call (φ := MP.strs (freeP (condC s t u))) rfl (.cons rfl <| .nil) Tryd.call13 (fun w m hK => by have hle_ := KC.le hK; have hA := KC.agree hK; have hr0_ := hK.2; have h_t := h_t.mono hle_; have h_u := h_u.mono hle_; exact FnG.mono (freeF_c (t := (condC s t u)) hA (node3_R (k := 10) (s := []) (p := []) (t := varC s) (u := t) (v := u) ⟨by decide, by decide⟩ (show CellsAt _ ⟨y43, 0, none⟩ [cdV (varC s) noY, cdV t ⟨oK_t, cK_t, oA_t, cA_t⟩, cdV u ⟨oK_u, cK_u, oA_u, cA_u⟩].flatten from hr0_) (var_R s) h_t h_u) (by omega)) fun _ _ _ _ h => h)) <| .consA 44 rfl rfl <| .nil) ?_
    intro a4 w4 m4 hst4 hle4 hk4
    have hfr4 := hk4.fr (T' := [(2, _), (3, _), (4, _), (7, _)]) (.old rfl rfl <| .old rfl rfl <| .old rfl rfl <| .old rfl rfl <| .nil)
    obtain ⟨⟨oF8, cF8⟩, e10, hF8⟩ := hk4.ex 44 rfl
    replace hfr4 := hfr4.cons (hk4.same 8 rfl e10)
    replace h_t := h_t.mono hle4
    replace h_u := h_u.mono hle4
    replace hc3 := hc3.mono hle4
    replace hc4 := hc4.mono hle4
    clear hst3 hfr3 hk4
    refine hK9 _ _ ?_; clear hK9
    refine seq_any fun _ hK11 => ?_
    refine ra0 (tch := []) hst4 hfr4 (.cons rfl (ob_loadS' rfl hc3 Tryd.isAgg25 Tryd.sizeOf25 rfl rfl) <| .cons rfl (ob_call (φ := MP.strs (freeP t)) rfl (.cons rfl <| .nil) Tryd.call13 (fun w m hK => by have hle_ := KC.le hK; have hA := KC.agree hK; have h_t := h_t.mono hle_; exact FnG.mono (freeF_c (t := t) hA h_t (by omega)) fun _ _ _ _ h => h)) <| .consA 46 rfl rfl <| .nil) ?_
    intro a5 w5 m5 hst5 hle5 hk5
    have hfr5 := hk5.fr (T' := [(2, _), (4, _), (7, _), (8, _)]) (.old rfl rfl <| .old rfl rfl <| .old rfl rfl <| .old rfl rfl <| .nil)
    obtain ⟨⟨oF9, cF9⟩, e12, hF9⟩ := hk5.ex 46 rfl
    replace hfr5 := hfr5.cons (hk5.same 9 rfl e12)
    replace h_u := h_u.mono hle5
    replace hc4 := hc4.mono hle5
    replace hF8 := hF8.mono hle5
    clear hst4 hfr4 hk5
    refine hK11 _ _ ?_; clear hK11
    refine seq_any fun _ hK13 => ?_
    refine ra0 (tch := []) hst5 hfr5 (.cons rfl (ob_loadS' rfl hc4 Tryd.isAgg25 Tryd.sizeOf25 rfl rfl) <| .cons rfl (ob_call (φ := MP.strs (freeP u)) rfl (.cons rfl <| .nil) Tryd.call13 (fun w m hK => by have hle_ := KC.le hK; have hA := KC.agree hK; have h_u := h_u.mono hle_; exact FnG.mono (freeF_c (t := u) hA h_u (by omega)) fun _ _ _ _ h => h)) <| .consA 48 rfl rfl <| .nil) ?_
    intro a6 w6 m6 hst6 hle6 hk6
    have hfr6 := hk6.fr (T' := [(2, _), (7, _), (8, _), (9, _)]) (.old rfl rfl <| .old rfl rfl <| .old rfl rfl <| .old rfl rfl <| .nil)
    obtain ⟨⟨oFA, cFA⟩, e14, hFA⟩ := hk6.ex 48 rfl
    replace hfr6 := hfr6.cons (hk6.same 10 rfl e14)
    replace hF8 := hF8.mono hle6
    replace hF9 := hF9.mono hle6
    clear hst5 hfr5 hk6
    have hbF8 := hF8.big; have hbF9 := hF9.big; have hbFA := hFA.big
    refine hK13 _ _ ?_; clear hK13
    refine seq_any fun _ hK15 => ?_
    refine seq_any fun _ hK16 => ?_
    refine rp0 hst6 hfr6 (.cons rfl (ob_assign rfl) <| .nil) ?_
    intro a7 w7 m7 hst7 hle7 hk7
    have hfr7 := hk7.fr (T' := [(2, _), (7, _), (8, _), (9, _), (10, _), (11, _)]) (.old rfl rfl <| .old rfl rfl <| .old rfl rfl <| .old rfl rfl <| .old rfl rfl <| .new rfl <| .nil)
    replace hF8 := hF8.mono hle7
    replace hF9 := hF9.mono hle7
    replace hFA := hFA.mono hle7
    clear hst6 hfr6 hk7
    refine hK16 _ _ ?_; clear hK16
    refine wp_block ?_
    refine loop_any (T := [(2, _), (7, _), (8, _), (9, _), (10, _)]) (fun (y : Nat) => ([(11, .int .i64 (y : Int))] : List (Nat × Value))) (fun _ => _) (fun (y : Nat) m => (y ≤ (freeP (condC s t u)).length)) (fun y => (freeP (condC s t u)).length - y) (0) ⟨hst7, MLe.refl _, hfr7.sub (.cons rfl <| .cons rfl <| .cons rfl <| .cons rfl <| .cons rfl <| .cons rfl <| .nil), Nat.zero_le _⟩ fun y a8 w8 m8 hh8 => ?_
    have hst8 := hh8.st; have hle8 := hh8.le; have hfr8 := hh8.fr; have hrel := hh8.rel; clear hh8
    replace hF8 := hF8.mono hle8
    replace hF9 := hF9.mono hle8
    replace hFA := hFA.mono hle8
    clear hst7 hfr7
    have hyn := hrel
    have hlh8 := hle8
    refine seq_any fun _ hK18 => ?_
    refine seq_any fun _ hK19 => ?_
    refine rp0 hst8 hfr8 (.cons rfl (ob_move rfl) <| .cons rfl (ob_move rfl) <| .cons rfl (ob_len rfl Tryd.underlying29) <| .cons rfl (ob_lss rfl rfl) <| .nil) ?_
    intro a9 w9 m9 hst9 hle9 hk9
    have hfr9 := hk9.fr (T' := [(11, _), (2, _), (7, _), (8, _), (9, _), (10, _), (52, _)]) (.old rfl rfl <| .old rfl rfl <| .old rfl rfl <| .old rfl rfl <| .old rfl rfl <| .old rfl rfl <| .new rfl <| .nil)
    replace hF8 := hF8.mono hle9
    replace hF9 := hF9.mono hle9
    replace hFA := hFA.mono hle9
    have hlh9 := hlh8.trans hle9
    clear hst8 hfr8 hk9
    refine hK19 _ _ ?_; clear hK19
    refine cond_any hfr9 rfl rfl (fun hb52 => ?_) (fun hb52 => ?_)
    · try simp only [nq1, nq2, nq3, nq4, nq5, nq6, nq7, nq8, nq9, u8_eq] at hb52
      refine wp_skip ?_
      refine hK18 _ _ ?_; clear hK18
      refine seq_any fun _ hK20 => ?_
      refine wp_block ?_
      refine seq_any fun _ hK21 => ?_
      rcases Nat.eq_zero_or_pos y with hz | hz
      · skip
        obtain ⟨p22, vs22, x22, ho22, hd22, hm_x22, ht22, hcv22, hl22, hv22⟩ := hF8.nth (k := y) (by omega)
        cases ho22
        subst hv22
        refine region_plain (fun _ => mixed) hst9 hfr9 (by kernel_rfl) (by kernel_rfl) (.cons rfl (ob_move rfl) <| .cons rfl (ob_move rfl) <| .cons rfl (ob_indexAddr (k := y) rfl rfl Tryd.underlying29 Tryd.sizeOf9 rfl (by omega)) <| .cons rfl (ob_load1' rfl hcv22 Tryd.isAgg9 rfl) <| .cons rfl (ob_move rfl) <| .cons rfl (ob_sneq rfl rfl) <| .cons rfl (ob_move rfl) <| .cons rfl (ob_move rfl) <| .cons rfl (ob_move rfl) <| .cons rfl (ob_move rfl) <| .cons rfl (ob_indexAddr (k := y) rfl rfl Tryd.underlying29 Tryd.sizeOf9 rfl (by omega)) <| .cons rfl (ob_load1' rfl hcv22 Tryd.isAgg9 rfl) <| .cons rfl (ob_callE rfl (.cons rfl <| .cons rfl <| .nil) Tryd.call15 (fun w m hK => by have hle_ := KC.le hK; have hA := KC.agree hK; have hF9 := hF9.mono hle_; exact has_c (l := freeP t) (s := x22) hA hF9)) <| .cons rfl (ob_not rfl) <| .cons rfl (ob_and rfl rfl rfl) <| .cons rfl (ob_move rfl) <| .cons rfl (ob_move rfl) <| .cons rfl (ob_move rfl) <| .cons rfl (ob_move rfl) <| .cons rfl (ob_indexAddr (k := y) rfl rfl Tryd.underlying29 Tryd.sizeOf9 rfl (by omega)) <| .cons rfl (ob_load1' rfl hcv22 Tryd.isAgg9 rfl) <| .cons rfl (ob_callE rfl (.cons rfl <| .cons rfl <| .nil) Tryd.call15 (fun w m hK => by have hle_ := KC.le hK; have hA := KC.agree hK; have hFA := hFA.mono hle_; exact has_c (l := freeP u) (s := x22) hA hFA)) <| .cons rfl (ob_not rfl) <| .cons rfl (ob_and rfl rfl rfl) <| .cons rfl (ob_move rfl) <| .cons rfl (ob_move rfl) <| .cons rfl (ob_gtr rfl rfl) <| .cons rfl (ob_move rfl) <| .cons rfl (ob_guard (κ := .eq (.bool false)) (b := true) 82 rfl rfl (fun h => by first | (simp [hz] at h; done) | (simp [hz] at h; omega))) <| .cons rfl (ob_guard (κ := .eq (.bool false)) (b := true) 82 rfl rfl (fun h => by first | (simp [hz] at h; done) | (simp [hz] at h; omega))) <| .cons rfl (ob_guard (κ := .eq (.bool false)) (b := true) 82 rfl rfl (fun h => by first | (simp [hz] at h; done) | (simp [hz] at h; omega))) <| .cons rfl (ob_guard (κ := .eq (.bool false)) (b := true) 82 rfl rfl (fun h => by first | (simp [hz] at h; done) | (simp [hz] at h; omega))) <| .cons rfl (ob_guard (κ := .eq (.bool false)) (b := true) 82 rfl rfl (fun h => by first | (simp [hz] at h; done) | (simp [hz] at h; omega))) <| .cons rfl (ob_guard (κ := .eq (.bool false)) (b := true) 82 rfl rfl (fun h => by first | (simp [hz] at h; done) | (simp [hz] at h; omega))) <| .cons rfl (ob_guard (κ := .eq (.bool false)) (b := true) 82 rfl rfl (fun h => by first | (simp [hz] at h; done) | (simp [hz] at h; omega))) <| .cons rfl (ob_guard (κ := .eq (.bool false)) (b := true) 82 rfl rfl (fun h => by first | (simp [hz] at h; done) | (simp [hz] at h; omega))) <| .cons rfl (ob_guard (κ := .eq (.bool false)) (b := true) 82 rfl rfl (fun h => by first | (simp [hz] at h; done) | (simp [hz] at h; omega))) <| .cons rfl (ob_guard (κ := .eq (.bool false)) (b := true) 82 rfl rfl (fun h => by first | (simp [hz] at h; done) | (simp [hz] at h; omega))) <| .cons rfl (ob_and rfl rfl rfl) <| .cons rfl (ob_or rfl rfl rfl) <| .nil) ?_
        intro a10 w10 m10 hst10 hle10 hk10
        have hfr10 := hk10.fr (T' := [(11, _), (2, _), (7, _), (8, _), (9, _), (10, _), (94, _)]) (.old rfl rfl <| .old rfl rfl <| .old rfl rfl <| .old rfl rfl <| .old rfl rfl <| .old rfl rfl <| .new rfl <| .nil)
        have hlh10 := hlh9.trans hle10
        clear hst9 hfr9 hk10
        refine hK21 _ _ ?_; clear hK21
        refine cond_any hfr10 rfl rfl (fun hb94 => ?_) (fun hb94 => ?_)
        · try simp only [nq1, nq2, nq3, nq4, nq5, nq6, nq7, nq8, nq9] at hb94
          exact (hb94.elim (fun h => ((cond_mem s t u x22).1 hm_x22).elim h.1.1 (fun h2 => h2.elim h.1.2 h.2)) (fun h => by cases h.2)).elim
        · try simp only [nq1, nq2, nq3, nq4, nq5, nq6, nq7, nq8, nq9, u8_eq] at hb94
          refine wp_skip ?_
          refine hK20 _ _ ?_; clear hK20
          refine rp0 hst10 hfr10 (.cons rfl (ob_move rfl) <| .cons rfl (ob_add rfl rfl ⟨by omega, by omega⟩) <| .cons rfl (ob_assign rfl) <| .nil) ?_
          intro a11 w11 m11 hst11 hle11 hk11
          have hfr11 := hk11.fr (T' := [(2, _), (7, _), (8, _), (9, _), (10, _), (11, _)]) (.old rfl rfl <| .old rfl rfl <| .old rfl rfl <| .old rfl rfl <| .old rfl rfl <| .new rfl <| .nil)
          have hlh11 := hlh10.trans hle11
          clear hst10 hfr10 hk11
          exact ⟨y + 1, m11, by show (freeP (condC s t u)).length - (y + 1) < (freeP (condC s t u)).length - y; omega, ⟨hst11, hlh11, hfr11.sub (.cons rfl <| .cons rfl <| .cons rfl <| .cons rfl <| .cons rfl <| .cons rfl <| .nil), by show y + 1 ≤ (freeP (condC s t u)).length; omega⟩⟩
      · skip
        obtain ⟨p23, vs23, x23, ho23, hd23, hm_x23, ht23, hcv23, hl23, hv23⟩ := hF8.nth (k := y) (by omega)
        cases ho23
        subst hv23
        obtain ⟨p24, vs24, x24, ho24, hd24, hm_x24, ht24, hcv24, hl24, hv24⟩ := hF8.nth (k := y - 1) (by omega)
        cases ho24
        subst hv24
        refine region_plain (fun _ => mixed) hst9 hfr9 (by kernel_rfl) (by kernel_rfl) (.cons rfl (ob_move rfl) <| .cons rfl (ob_move rfl) <| .cons rfl (ob_indexAddr (k := y) rfl rfl Tryd.underlying29 Tryd.sizeOf9 rfl (by omega)) <| .cons rfl (ob_load1' rfl hcv23 Tryd.isAgg9 rfl) <| .cons rfl (ob_move rfl) <| .cons rfl (ob_sneq rfl rfl) <| .cons rfl (ob_move rfl) <| .cons rfl (ob_move rfl) <| .cons rfl (ob_move rfl) <| .cons rfl (ob_move rfl) <| .cons rfl (ob_indexAddr (k := y) rfl rfl Tryd.underlying29 Tryd.sizeOf9 rfl (by omega)) <| .cons rfl (ob_load1' rfl hcv23 Tryd.isAgg9 rfl) <| .cons rfl (ob_callE rfl (.cons rfl <| .cons rfl <| .nil) Tryd.call15 (fun w m hK => by have hle_ := KC.le hK; have hA := KC.agree hK; have hF9 := hF9.mono hle_; exact has_c (l := freeP t) (s := x23) hA hF9)) <| .cons rfl (ob_not rfl) <| .cons rfl (ob_and rfl rfl rfl) <| .cons rfl (ob_move rfl) <| .cons rfl (ob_move rfl) <| .cons rfl (ob_move rfl) <| .cons rfl (ob_move rfl) <| .cons rfl (ob_indexAddr (k := y) rfl rfl Tryd.underlying29 Tryd.sizeOf9 rfl (by omega)) <| .cons rfl (ob_load1' rfl hcv23 Tryd.isAgg9 rfl) <| .cons rfl (ob_callE rfl (.cons rfl <| .cons rfl <| .nil) Tryd.call15 (fun w m hK => by have hle_ := KC.le hK; have hA := KC.agree hK; have hFA := hFA.mono hle_; exact has_c (l := freeP u) (s := x23) hA hFA)) <| .cons rfl (ob_not rfl) <| .cons rfl (ob_and rfl rfl rfl) <| .cons rfl (ob_move rfl) <| .cons rfl (ob_move rfl) <| .cons rfl (ob_gtr rfl rfl) <| .cons rfl (ob_move rfl) <| .cons rfl (ob_move rfl) <| .cons rfl (ob_move rfl) <| .cons rfl (ob_indexAddr (k := y) rfl rfl Tryd.underlying29 Tryd.sizeOf9 rfl (by omega)) <| .cons rfl (ob_load1' rfl hcv23 Tryd.isAgg9 rfl) <| .cons rfl (ob_move rfl) <| .cons rfl (ob_move rfl) <| .cons rfl (ob_sub rfl rfl ⟨by omega, by omega⟩) <| .cons rfl (ob_indexAddr (k := y - 1) rfl rfl Tryd.underlying29 Tryd.sizeOf9 (by omega) (by omega)) <| .cons rfl (ob_load1' rfl hcv24 Tryd.isAgg9 rfl) <| .cons rfl (ob_sleq rfl rfl) <| .cons rfl (ob_and rfl rfl rfl) <| .cons rfl (ob_or rfl rfl rfl) <| .nil) ?_
        intro a10 w10 m10 hst10 hle10 hk10
        have hfr10 := hk10.fr (T' := [(11, _), (2, _), (7, _), (8, _), (9, _), (10, _), (94, _)]) (.old rfl rfl <| .old rfl rfl <| .old rfl rfl <| .old rfl rfl <| .old rfl rfl <| .old rfl rfl <| .new rfl <| .nil)
        have hlh10 := hlh9.trans hle10
        clear hst9 hfr9 hk10
        refine hK21 _ _ ?_; clear hK21
        refine cond_any hfr10 rfl rfl (fun hb94 => ?_) (fun hb94 => ?_)
        · try simp only [nq1, nq2, nq3, nq4, nq5, nq6, nq7, nq8, nq9] at hb94
          exact (hb94.elim (fun h => ((cond_mem s t u x23).1 hm_x23).elim h.1.1 (fun h2 => h2.elim h.1.2 h.2)) (fun h => h.2.elim (fun h2 => List.lt_irrefl _ (List.lt_trans (sorted_at (freeP_lt _) hz hd23 hd24) (by rw [bytesLess_eq, decide_eq_true_eq] at h2; exact h2))) (fun h2 => by have h3 := sorted_at (freeP_lt _) hz hd23 hd24; rw [h2] at h3; exact List.lt_irrefl _ h3))).elim
        · try simp only [nq1, nq2, nq3, nq4, nq5, nq6, nq7, nq8, nq9, u8_eq] at hb94
          refine wp_skip ?_
          refine hK20 _ _ ?_; clear hK20
          refine rp0 hst10 hfr10 (.cons rfl (ob_move rfl) <| .cons rfl (ob_add rfl rfl ⟨by omega, by omega⟩) <| .cons rfl (ob_assign rfl) <| .nil) ?_
          intro a11 w11 m11 hst11 hle11 hk11
          have hfr11 := hk11.fr (T' := [(2, _), (7, _), (8, _), (9, _), (10, _), (11, _)]) (.old rfl rfl <| .old rfl rfl <| .old rfl rfl <| .old rfl rfl <| .old rfl rfl <| .new rfl <| .nil)
          have hlh11 := hlh10.trans hle11
          clear hst10 hfr10 hk11
          exact ⟨y + 1, m11, by show (freeP (condC s t u)).length - (y + 1) < (freeP (condC s t u)).length - y; omega, ⟨hst11, hlh11, hfr11.sub (.cons rfl <| .cons rfl <| .cons rfl <| .cons rfl <| .cons rfl <| .cons rfl <| .nil), by show y + 1 ≤ (freeP (condC s t u)).length; omega⟩⟩
    · try simp only [nq1, nq2, nq3, nq4, nq5, nq6, nq7, nq8, nq9, u8_eq] at hb52
      have hge : y = (freeP (condC s t u)).length := by omega
      refine wp_exit ?_
      refine hK15 _ _ ?_; clear hK15
      refine seq_any fun _ hK25 => ?_
      refine seq_any fun _ hK26 => ?_
      refine rp0 hst9 hfr9 (.cons rfl (ob_assign rfl) <| .nil) ?_
      intro a10 w10 m10 hst10 hle10 hk10
      have hfr10 := hk10.fr (T' := [(11, _), (2, _), (7, _), (8, _), (9, _), (10, _), (12, _)]) (.old rfl rfl <| .old rfl rfl <| .old rfl rfl <| .old rfl rfl <| .old rfl rfl <| .old rfl rfl <| .new rfl <| .nil)
      replace hF8 := hF8.mono hle10
      replace hF9 := hF9.mono hle10
      replace hFA := hFA.mono hle10
      have hlh10 := hlh9.trans hle10
      clear hst9 hfr9 hk10
      refine hK26 _ _ ?_; clear hK26
      refine wp_block ?_
      have hlq27 := hlh10
      refine loop_any (T := [(11, _), (2, _), (7, _), (8, _), (9, _), (10, _)]) (fun (y : Nat) => ([(12, .int .i64 (y : Int))] : List (Nat × Value))) (fun _ => _) (fun (y : Nat) m => (y ≤ (freeP t).length)) (fun y => (freeP t).length - y) (0) ⟨hst10, MLe.refl _, hfr10.sub (.cons rfl <| .cons rfl <| .cons rfl <| .cons rfl <| .cons rfl <| .cons rfl <| .cons rfl <| .nil), Nat.zero_le _⟩ fun y a11 w11 m11 hh11 => ?_
      have hst11 := hh11.st; have hle11 := hh11.le; have hfr11 := hh11.fr; have hrel := hh11.rel; clear hh11
      replace hF8 := hF8.mono hle11
      replace hF9 := hF9.mono hle11
      replace hFA := hFA.mono hle11
      clear hst10 hfr10
      have hyn := hrel
      have hlh11 := hle11
      refine seq_any fun _ hK28 => ?_
      refine seq_any fun _ hK29 => ?_
      refine rp0 hst11 hfr11 (.cons rfl (ob_move rfl) <| .cons rfl (ob_move rfl) <| .cons rfl (ob_len rfl Tryd.underlying29) <| .cons rfl (ob_lss rfl rfl) <| .nil) ?_
      intro a12 w12 m12 hst12 hle12 hk12
      have hfr12 := hk12.fr (T' := [(12, _), (11, _), (2, _), (7, _), (8, _), (9, _), (10, _), (98, _)]) (.old rfl rfl <| .old rfl rfl <| .old rfl rfl <| .old rfl rfl <| .old rfl rfl <| .old rfl rfl <| .old rfl rfl <| .new rfl <| .nil)
      replace hF8 := hF8.mono hle12
      replace hF9 := hF9.mono hle12
      replace hFA := hFA.mono hle12
      have hlh12 := hlh11.trans hle12
      clear hst11 hfr11 hk12
      refine hK29 _ _ ?_; clear hK29
      refine cond_any hfr12 rfl rfl (fun hb98 => ?_) (fun hb98 => ?_)
      · try simp only [nq1, nq2, nq3, nq4, nq5, nq6, nq7, nq8, nq9, u8_eq] at hb98
        refine wp_skip ?_
        refine hK28 _ _ ?_; clear hK28
        refine seq_any fun _ hK30 => ?_
        refine wp_block ?_
        refine seq_any fun _ hK31 => ?_
        obtain ⟨p32, vs32, x32, ho32, hd32, hm_x32, ht32, hcv32, hl32, hv32⟩ := hF9.nth (k := y) (by omega)
        cases ho32
        subst hv32
        refine rp0 hst12 hfr12 (.cons rfl (ob_move rfl) <| .cons rfl (ob_move rfl) <| .cons rfl (ob_move rfl) <| .cons rfl (ob_indexAddr (k := y) rfl rfl Tryd.underlying29 Tryd.sizeOf9 rfl (by omega)) <| .cons rfl (ob_load1' rfl hcv32 Tryd.isAgg9 rfl) <| .cons rfl (ob_callE rfl (.cons rfl <| .cons rfl <| .nil) Tryd.call15 (fun w m hK => by have hle_ := KC.le hK; have hA := KC.agree hK; have hF8 := hF8.mono hle_; exact has_c (l := freeP (condC s t u)) (s := x32) hA hF8)) <| .cons rfl (ob_not rfl) <| .nil) ?_
        intro a13 w13 m13 hst13 hle13 hk13
        have hfr13 := hk13.fr (T' := [(12, _), (11, _), (2, _), (7, _), (8, _), (9, _), (10, _), (107, _)]) (.old rfl rfl <| .old rfl rfl <| .old rfl rfl <| .old rfl rfl <| .old rfl rfl <| .old rfl rfl <| .old rfl rfl <| .new rfl <| .nil)
        have hlh13 := hlh12.trans hle13
        clear hst12 hfr12 hk13
        refine hK31 _ _ ?_; clear hK31
        refine cond_any hfr13 rfl rfl (fun hb107 => ?_) (fun hb107 => ?_)
        · exact absurd ((cond_mem s t u x32).2 (.inr (.inl hm_x32))) (by simpa using hb107)
        · try simp only [nq1, nq2, nq3, nq4, nq5, nq6, nq7, nq8, nq9, u8_eq] at hb107
          refine wp_skip ?_
          refine hK30 _ _ ?_; clear hK30
          refine rp0 hst13 hfr13 (.cons rfl (ob_move rfl) <| .cons rfl (ob_add rfl rfl ⟨by omega, by omega⟩) <| .cons rfl (ob_assign rfl) <| .nil) ?_
          intro a14 w14 m14 hst14 hle14 hk14
          have hfr14 := hk14.fr (T' := [(11, _), (2, _), (7, _), (8, _), (9, _), (10, _), (12, _)]) (.old rfl rfl <| .old rfl rfl <| .old rfl rfl <| .old rfl rfl <| .old rfl rfl <| .old rfl rfl <| .new rfl <| .nil)
          have hlh14 := hlh13.trans hle14
          clear hst13 hfr13 hk14
          exact ⟨y + 1, m14, by show (freeP t).length - (y + 1) < (freeP t).length - y; omega, ⟨hst14, hlh14, hfr14.sub (.cons rfl <| .cons rfl <| .cons rfl <| .cons rfl <| .cons rfl <| .cons rfl <| .cons rfl <| .nil), by show y + 1 ≤ (freeP t).length; omega⟩⟩
      · try simp only [nq1, nq2, nq3, nq4, nq5, nq6, nq7, nq8, nq9, u8_eq] at hb98
        have hge : y = (freeP t).length := by omega
        refine wp_exit ?_
        refine hK25 _ _ ?_; clear hK25
        refine seq_any fun _ hK33 => ?_
        refine seq_any fun _ hK34 => ?_
        refine rp0 hst12 hfr12 (.cons rfl (ob_assign rfl) <| .nil) ?_
        intro a13 w13 m13 hst13 hle13 hk13
        have hfr13 := hk13.fr (T' := [(12, _), (11, _), (2, _), (7, _), (8, _), (10, _), (13, _)]) (.old rfl rfl <| .old rfl rfl <| .old rfl rfl <| .old rfl rfl <| .old rfl rfl <| .old rfl rfl <| .new rfl <| .nil)
        replace hF8 := hF8.mono hle13
        replace hFA := hFA.mono hle13
        have hlh13 := hlh12.trans hle13
        clear hst12 hfr12 hk13
        refine hK34 _ _ ?_; clear hK34
        refine wp_block ?_
        have hlq35 := hlh13
        refine loop_any (T := [(12, _), (11, _), (2, _), (7, _), (8, _), (10, _)]) (fun (y : Nat) => ([(13, .int .i64 (y : Int))] : List (Nat × Value))) (fun _ => _) (fun (y : Nat) m => (y ≤ (freeP u).length)) (fun y => (freeP u).length - y) (0) ⟨hst13, MLe.refl _, hfr13.sub (.cons rfl <| .cons rfl <| .cons rfl <| .cons rfl <| .cons rfl <| .cons rfl <| .cons rfl <| .nil), Nat.zero_le _⟩ fun y a14 w14 m14 hh14 => ?_
        have hst14 := hh14.st; have hle14 := hh14.le; have hfr14 := hh14.fr; have hrel := hh14.rel; clear hh14
        replace hF8 := hF8.mono hle14
        replace hFA := hFA.mono hle14
        clear hst13 hfr13
        have hyn := hrel
        have hlh14 := hle14
        refine seq_any fun _ hK36 => ?_
        refine seq_any fun _ hK37 => ?_
        refine rp0 hst14 hfr14 (.cons rfl (ob_move rfl) <| .cons rfl (ob_move rfl) <| .cons rfl (ob_len rfl Tryd.underlying29) <| .cons rfl (ob_lss rfl rfl) <| .nil) ?_
        intro a15 w15 m15 hst15 hle15 hk15
        have hfr15 := hk15.fr (T' := [(13, _), (12, _), (11, _), (2, _), (7, _), (8, _), (10, _), (111, _)]) (.old rfl rfl <| .old rfl rfl <| .old rfl rfl <| .old rfl rfl <| .old rfl rfl <| .old rfl rfl <| .old rfl rfl <| .new rfl <| .nil)
        replace hF8 := hF8.mono hle15
        replace hFA := hFA.mono hle15
        have hlh15 := hlh14.trans hle15
        clear hst14 hfr14 hk15
        refine hK37 _ _ ?_; clear hK37
        refine cond_any hfr15 rfl rfl (fun hb111 => ?_) (fun hb111 => ?_)
        · try simp only [nq1, nq2, nq3, nq4, nq5, nq6, nq7, nq8, nq9, u8_eq] at hb111
          refine wp_skip ?_
          refine hK36 _ _ ?_; clear hK36
          refine seq_any fun _ hK38 => ?_
          refine wp_block ?_
          refine seq_any fun _ hK39 => ?_
          obtain ⟨p40, vs40, x40, ho40, hd40, hm_x40, ht40, hcv40, hl40, hv40⟩ := hFA.nth (k := y) (by omega)
          cases ho40
          subst hv40
          refine rp0 hst15 hfr15 (.cons rfl (ob_move rfl) <| .cons rfl (ob_move rfl) <| .cons rfl (ob_move rfl) <| .cons rfl (ob_indexAddr (k := y) rfl rfl Tryd.underlying29 Tryd.sizeOf9 rfl (by omega)) <| .cons rfl (ob_load1' rfl hcv40 Tryd.isAgg9 rfl) <| .cons rfl (ob_callE rfl (.cons rfl <| .cons rfl <| .nil) Tryd.call15 (fun w m hK => by have hle_ := KC.le hK; have hA := KC.agree hK; have hF8 := hF8.mono hle_; exact has_c (l := freeP (condC s t u)) (s := x40) hA hF8)) <| .cons rfl (ob_not rfl) <| .nil) ?_
          intro a16 w16 m16 hst16 hle16 hk16
          have hfr16 := hk16.fr (T' := [(13, _), (12, _), (11, _), (2, _), (7, _), (8, _), (10, _), (120, _)]) (.old rfl rfl <| .old rfl rfl <| .old rfl rfl <| .old rfl rfl <| .old rfl rfl <| .old rfl rfl <| .old rfl rfl <| .new rfl <| .nil)
          have hlh16 := hlh15.trans hle16
          clear hst15 hfr15 hk16
          refine hK39 _ _ ?_; clear hK39
          refine cond_any hfr16 rfl rfl (fun hb120 => ?_) (fun hb120 => ?_)
          · exact absurd ((cond_mem s t u x40).2 (.inr (.inr hm_x40))) (by simpa using hb120)
          · try simp only [nq1, nq2, nq3, nq4, nq5, nq6, nq7, nq8, nq9, u8_eq] at hb120
            refine wp_skip ?_
            refine hK38 _ _ ?_; clear hK38
            refine rp0 hst16 hfr16 (.cons rfl (ob_move rfl) <| .cons rfl (ob_add rfl rfl ⟨by omega, by omega⟩) <| .cons rfl (ob_assign rfl) <| .nil) ?_
            intro a17 w17 m17 hst17 hle17 hk17
            have hfr17 := hk17.fr (T' := [(12, _), (11, _), (2, _), (7, _), (8, _), (10, _), (13, _)]) (.old rfl rfl <| .old rfl rfl <| .old rfl rfl <| .old rfl rfl <| .old rfl rfl <| .old rfl rfl <| .new rfl <| .nil)
            have hlh17 := hlh16.trans hle17
            clear hst16 hfr16 hk17
            exact ⟨y + 1, m17, by show (freeP u).length - (y + 1) < (freeP u).length - y; omega, ⟨hst17, hlh17, hfr17.sub (.cons rfl <| .cons rfl <| .cons rfl <| .cons rfl <| .cons rfl <| .cons rfl <| .cons rfl <| .nil), by show y + 1 ≤ (freeP u).length; omega⟩⟩
        · try simp only [nq1, nq2, nq3, nq4, nq5, nq6, nq7, nq8, nq9, u8_eq] at hb111
          have hge : y = (freeP u).length := by omega
          refine wp_exit ?_
          refine hK33 _ _ ?_; clear hK33
          refine seq_any fun _ hK41 => ?_
          refine rp0 hst15 hfr15 (.cons rfl (ob_move rfl) <| .cons rfl (ob_move rfl) <| .cons rfl (ob_move rfl) <| .cons rfl (ob_move rfl) <| .cons rfl (ob_callE rfl (.cons rfl <| .cons rfl <| .nil) Tryd.call15 (fun w m hK => by have hle_ := KC.le hK; have hA := KC.agree hK; have hF8 := hF8.mono hle_; exact has_c (l := freeP (condC s t u)) (s := s) hA hF8)) <| .cons rfl (ob_and rfl rfl rfl) <| .cons rfl (ob_assign rfl) <| .nil) ?_
          intro a16 w16 m16 hst16 hle16 hk16
          have hfr16 := hk16.fr (T' := [(13, _), (12, _), (11, _), (6, _)]) (.old rfl rfl <| .old rfl rfl <| .old rfl rfl <| .new rfl <| .nil)
          have hlh16 := hlh15.trans hle16
          clear hst15 hfr15 hk16
          refine hK41 _ _ ?_; clear hK41
          refine wp_ret ?_
          repeat (with_reducible first | refine then_ret ?_ | refine block_ret ?_)
          exact fn_ret hst16 hfr16 rfl (.tmp rfl <| .nil) (by refine congrArg Value.bool ?_; simp [(cond_mem s t u s).2 (.inl rfl)])

end Go.Proofs.YtlihpgjabohebaaDoor
