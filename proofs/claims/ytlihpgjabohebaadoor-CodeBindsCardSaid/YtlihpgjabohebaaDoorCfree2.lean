/-
  Code: the names that stand free, in order. Conditions: those of each theorem.
-/
import Derived.Test.YtlihpgjabohebaaDoorCfree1
namespace Go.Proofs.YtlihpgjabohebaaDoor
set_option linter.all false
set_option maxRecDepth 4000
open Go.RowKit
def freeMap (t : Cd) : List (Str × Bool) := addAll (occP t []) []
/-- The names that stand free, in order. -/
def freeP (t : Cd) : List Str := sortS ((freeMap t).map Prod.fst)
theorem addAll_len : ∀ (l : List Str) (ml : List (Str × Bool)), (addAll l ml).length ≤ ml.length + l.length
  | [], ml => by simp [addAll]
  | s :: l, ml => by
    have h := addAll_len l (aset s true ml)
    have h2 : (aset s true ml).length ≤ ml.length + 1 := by
      clear h
      induction ml with
      | nil => simp [aset]
      | cons p ml ih => obtain ⟨a, b⟩ := p; simp only [aset]; split <;> simp <;> omega
    show (addAll l (aset s true ml)).length ≤ _
    simp only [List.length_cons]; omega
theorem addAll_nodup : ∀ (l : List Str) (ml : List (Str × Bool)), (ml.map Prod.fst).Nodup → ((addAll l ml).map Prod.fst).Nodup
  | [], _, h => h
  | s :: l, ml, h => addAll_nodup l _ (nodup_aset h)
theorem aset_mem {s x : Str} {b : Bool} : ∀ (ml : List (Str × Bool)), x ∈ (aset s b ml).map Prod.fst ↔ x ∈ ml.map Prod.fst ∨ x = s
  | [] => by simp [aset]
  | (a, u) :: ml => by
    simp only [aset]
    split
    · rename_i h; subst h; simp only [List.map_cons, List.mem_cons]
      exact ⟨fun h => .inl h, fun h => h.elim id .inl⟩
    · simp only [List.map_cons, List.mem_cons, aset_mem ml, or_assoc]
theorem addAll_mem {x : Str} : ∀ (l : List Str) (ml : List (Str × Bool)), x ∈ (addAll l ml).map Prod.fst ↔ x ∈ ml.map Prod.fst ∨ x ∈ l
  | [], ml => by simp [addAll]
  | s :: l, ml => by
    show x ∈ (addAll l (aset s true ml)).map Prod.fst ↔ _
    rw [addAll_mem l, aset_mem, List.mem_cons, or_assoc]
theorem freeP_mem (t : Cd) (x : Str) : x ∈ freeP t ↔ x ∈ occP t [] := by
  unfold freeP freeMap
  rw [(sortS_perm _).mem_iff, addAll_mem]; simp
theorem freeP_nodup (t : Cd) : (freeP t).Nodup := (sortS_perm _).nodup_iff.2 (addAll_nodup _ _ (by simp))
theorem freeP_lt (t : Cd) : (freeP t).Pairwise (· < ·) := by
  have h1 := (sorted_iff (freeP t)).1 (sortS_sorted _)
  have h2 := freeP_nodup t
  have key : ∀ {l : List Str}, l.Pairwise (· ≤ ·) → l.Nodup → l.Pairwise (· < ·) := by
    intro l h hn
    induction h with
    | nil => exact .nil
    | @cons a l ha hl ih =>
      rw [List.nodup_cons] at hn
      refine List.pairwise_cons.2 ⟨fun x hx => ?_, ih hn.2⟩
      rcases List.le_iff_lt_or_eq.1 (ha x hx) with h | h
      · exact h
      · subst h; exact absurd hx hn.1
  exact key h1 h2
theorem occ_len (t : Cd) : ∀ bd, (occP t bd).length ≤ cntC t := by
  induction t using Cd.rec_ with
  | h t ihk iha =>
    intro bd
    have hk : ∀ (l : List Cd), (∀ u ∈ l, u ∈ t.kids) → ∀ f i, (occKs f bd i l).length ≤ cntKs l := by
      intro l
      induction l with
      | nil => intro _ f i; simp [occKs]
      | cons u l ih =>
        intro hl f i
        rw [occKs, cntKs, List.length_append]
        have h1 := ih (fun v hv => hl v (.tail _ hv)) f (i + 1)
        cases f i with
        | none => simp only [List.length_nil]; omega
        | some b => have h2 := ihk u (hl u (.head _)) (bd ++ b); simp only; omega
    have hr : ∀ (l : List Ca), (∀ u ∈ l, u ∈ t.arms) → (occAs bd l).length ≤ cntAs l := by
      intro l
      induction l with
      | nil => intro _; simp [occAs]
      | cons u l ih =>
        intro hl
        rw [occAs_cons, cntAs_cons, List.length_append]
        have h1 := ih (fun v hv => hl v (.tail _ hv))
        have h2 := iha u (hl u (.head _)) (bd ++ u.vars); omega
    rw [occP_eq, cntC_eq, List.length_append, List.length_append]
    have h1 := hk t.kids (fun _ h => h) (bindP t.kind t.name t.param) 0
    have h2 := hr t.arms (fun _ h => h)
    have h3 : (headO t bd).length ≤ 1 := by unfold headO; split; split <;> simp; simp
    unfold kidsO; omega
theorem freeMap_len (t : Cd) : (freeMap t).length ≤ cntC t := by
  have h1 := addAll_len (occP t []) []
  have h2 := occ_len t []
  unfold freeMap
  simp only [List.length_nil] at h1; omega
theorem freeP_len (t : Cd) : (freeP t).length ≤ cntC t := by
  unfold freeP; rw [sortS_len, List.length_map]; exact freeMap_len t
/-- The keys of a map, however they came. -/
theorem keys_sort {t : Cd} {dn : List (Str × Bool)} (h : dn.Perm (freeMap t)) : sortS (dn.map Prod.fst) = freeP t := by
  unfold freeP
  exact perm_sorted ((sortS_perm _).trans ((h.map Prod.fst).trans (sortS_perm _).symm)) (sortS_sorted _) (sortS_sorted _)
set_option maxHeartbeats 800000 in
theorem freeF_c {w : World} {m : Mem} {t : Cd} {vs_t : List Value} (hA : Agree w m) (h_t : CdR m t vs_t) (hb : cntC t ≤ 100000000) : FnV Tryd.prog 13 #[.agg vs_t.toArray] w m (fun _ m v => (MP.strs (freeP t)).p m v) := by
  obtain ⟨⟨oK_t, cK_t, oA_t, cA_t⟩, rfl, ⟨hik_t, hin_t⟩, hkk_t, haa_t⟩ := h_t.open_
  dsimp only at hkk_t haa_t
  have hbg_t := hkk_t.big; have hcp_t := hkk_t.cap; have hbh_t := haa_t.big; have hcq_t := haa_t.cap
  refine fn_enter (vs := [_]) Tryd.func13 rfl rfl rfl fun a0 hfr0 => ?_
  have hst0 := st_enter hA (loc_nil [] _ w m)
  have hM : MLe m m := MLe.refl m
  have hlen9 := freeMap_len t
  refine seq_any fun _ hK1 => ?_
  refine rp0 hst0 hfr0 (.cons rfl (ob_box rfl rfl) <| .cons rfl (ob_assign rfl) <| .nil) ?_
  intro a1 w1 m1 hst1 hle1 hk1
  have hfr1 := hk1.fr (T' := []) (.nil)
  obtain ⟨g2, e2, hc1⟩ := hk1.ex 1 rfl
  replace hfr1 := hfr1.cons e2
  replace h_t := h_t.mono hle1
  replace hkk_t := hkk_t.mono hle1
  replace haa_t := haa_t.mono hle1
  replace hM := hM.trans hle1
  clear hst0 hfr0 hk1
  refine hK1 _ _ ?_; clear hK1
  refine seq_any fun _ hK3 => ?_
  replace hst1 := hst1.more (r := .free) trivial List.nodup_nil (by simp [Res.blocks])
  refine ra0 (tch := [(0, 0, (fun v => .map v _))]) hst1 hfr1 (.consT rfl rfl (fun _ => rfl) rfl (ob_makeMapK S) <| .consA 6 rfl rfl <| .nil) ?_
  intro a2 w2 m2 hst2 hle2 hk2
  have hfr2 := hk2.fr (T' := [(1, _)]) (.old rfl rfl <| .nil)
  obtain ⟨gO, e4, _⟩ := hk2.ex 6 rfl
  replace hfr2 := hfr2.cons (hk2.same 3 rfl e4)
  replace hst2 := hst2.fin (L' := [_]) (.cons e4 <| .nil)
  replace h_t := h_t.mono hle2
  replace hkk_t := hkk_t.mono hle2
  replace haa_t := haa_t.mono hle2
  replace hc1 := hc1.mono hle2
  replace hM := hM.trans hle2
  clear hst1 hfr1 hk2
  refine hK3 _ _ ?_; clear hK3
  refine seq_any fun _ hK5 => ?_
  refine ra0 (tch := [(2, 0, (fun _ => .map (.map (some gO)) (encs S (encW Value.bool (freeMap t)))))]) hst2 hfr2 (.cons rfl (ob_loadS' rfl hc1 Tryd.isAgg25 Tryd.sizeOf25 rfl rfl) <| .cons rfl (ob_move rfl) <| .consT rfl rfl (fun _ => rfl) rfl (ob_callT rfl (.cons rfl <| .cons rfl <| .cons rfl <| .nil) Tryd.call32 (κ := .ex (MP.any)) (fun σ w m hK hr hkn => by have hle_ := KC.le hK; have hA := KC.agree hK; have hM := hM.trans hle_; have h_t := h_t.mono hle_; have hkk_t := hkk_t.mono hle_; have haa_t := haa_t.mono hle_; have hc1 := hc1.mono hle_; exact (Calls.mono (ofree_c t (bd := []) (ml := []) hA h_t hr Sl.empty (by simp only [List.length_nil]; omega)) fun e w2 ⟨v, m2, e1, hE, hL⟩ => ⟨v, m2, e1, touch_of hE hL, ⟨v, rfl, trivial⟩⟩))) <| .nil) ?_
  intro a3 w3 m3 hst3 hle3 hk3
  have hfr3 := hk3.fr (T' := [(3, _)]) (.old rfl rfl <| .nil)
  obtain ⟨y6, e6, hy6⟩ := hk3.ex 9 rfl
  replace hst3 := hst3.fin (L' := [_]) (.cons e6 <| .nil)
  replace h_t := h_t.mono hle3
  replace hkk_t := hkk_t.mono hle3
  replace haa_t := haa_t.mono hle3
  replace hc1 := hc1.mono hle3
  replace hM := hM.trans hle3
  clear hst2 hfr2 hk3
  obtain ⟨m4, hle4, hst4, gF_a9, eF_a9, hm_a9⟩ := hst3.freezeMap (k := 0) rfl
  simp only [List.set_cons_succ, List.set_cons_zero] at hst4
  injection eF_a9 with eF_a9; injection eF_a9 with eF_a9; subst eF_a9
  have hfr4 := hfr3; obtain ⟨a4, rfl⟩ : ∃ a, a = a3 := ⟨_, rfl⟩; obtain ⟨w4, rfl⟩ : ∃ w, w = w3 := ⟨_, rfl⟩
  replace h_t := h_t.mono hle4
  replace hkk_t := hkk_t.mono hle4
  replace haa_t := haa_t.mono hle4
  replace hc1 := hc1.mono hle4
  replace hM := hM.trans hle4
  clear hst3 hfr3
  refine hK5 _ _ ?_; clear hK5
  refine seq_any fun _ hK7 => ?_
  refine rp0 hst4 hfr4 (.cons rfl (ob_assign rfl) <| .nil) ?_
  intro a5 w5 m5 hst5 hle5 hk5
  have hfr5 := hk5.fr (T' := [(3, _), (4, _)]) (.old rfl rfl <| .new rfl <| .nil)
  replace h_t := h_t.mono hle5
  replace hkk_t := hkk_t.mono hle5
  replace haa_t := haa_t.mono hle5
  replace hc1 := hc1.mono hle5
  replace hm_a9 := hm_a9.mono hle5
  replace hM := hM.trans hle5
  clear hst4 hfr4 hk5
  replace hst5 := hst5.more (r := .mrow (.slice none 0 0) 0 1 9 []) mrow_nil List.nodup_nil (by simp [Res.blocks, mBlock])
  refine hK7 _ _ ?_; clear hK7
  refine seq_any fun _ hK8 => ?_
  refine seq_any fun _ hK9 => ?_
  have hrv10 := hm_a9.rangeV
  replace hst5 := hst5.more (r := .free) trivial List.nodup_nil (by simp [Res.blocks])
  refine ra0 (tch := [(1, 2, (fun v => .iter v _ none))]) hst5 hfr5 (.cons rfl (ob_move rfl) <| .consT rfl rfl (fun _ => rfl) rfl (ob_range rfl Tryd.underlying52 (fun w m hK => hrv10.mono (KC.le hK))) <| .nil) ?_
  intro a6 w6 m6 hst6 hle6 hk6
  have hfr6 := hk6.fr (T' := [(4, _)]) (.old rfl rfl <| .nil)
  obtain ⟨gr10, e11, _⟩ := hk6.ex 11 rfl
  replace hfr6 := hfr6.cons e11
  replace hst6 := hst6.fin (L' := [_, _, _]) (.cons e11 <| .nil)
  replace h_t := h_t.mono hle6
  replace hkk_t := hkk_t.mono hle6
  replace haa_t := haa_t.mono hle6
  replace hc1 := hc1.mono hle6
  replace hm_a9 := hm_a9.mono hle6
  replace hrv10 := hrv10.mono hle6
  replace hM := hM.trans hle6
  clear hst5 hfr5 hk6
  refine hK9 _ _ ?_; clear hK9
  refine wp_block ?_
  refine loop_any (T := [(11, _)]) (fun (y : (List (Str × Bool)) × (List (Str × Bool)) × (Option (Value × Value)) × (List Str) × (Option Addr) × (Nat)) => ([(4, .slice y.2.2.2.2.1 y.2.2.2.1.length y.2.2.2.2.2)] : List (Nat × Value))) (fun y => [_, .mrow (.slice y.2.2.2.2.1 y.2.2.2.1.length y.2.2.2.2.2) y.2.2.2.1.length 1 9 (y.2.2.2.1.map S), .iter (.pointer (some ⟨gr10, 0, none⟩)) (encs S (encW Value.bool y.1)) y.2.2.1]) (fun (y : (List (Str × Bool)) × (List (Str × Bool)) × (Option (Value × Value)) × (List Str) × (Option Addr) × (Nat)) m => (fun (l : List (Str × Bool)) (dn : List (Str × Bool)) (la : Option (Value × Value)) (ks : List Str) (og : Option Addr) (cg : Nat) => ((dn ++ l).Perm (freeMap t)) ∧ (ks = dn.map Prod.fst)) y.1 y.2.1 y.2.2.1 y.2.2.2.1 y.2.2.2.2.1 y.2.2.2.2.2) (fun y => y.1.length) ((freeMap t, [], none, [], none, 0)) ⟨hst6, MLe.refl _, hfr6.sub (.cons rfl <| .cons rfl <| .nil), ⟨by simp, rfl⟩⟩ fun y a7 w7 m7 hh7 => ?_
  have hst7 := hh7.st; have hle7 := hh7.le; have hfr7 := hh7.fr; have hrel := hh7.rel; clear hh7
  replace h_t := h_t.mono hle7
  replace hkk_t := hkk_t.mono hle7
  replace haa_t := haa_t.mono hle7
  replace hc1 := hc1.mono hle7
  replace hm_a9 := hm_a9.mono hle7
  replace hrv10 := hrv10.mono hle7
  clear hst6 hfr6
  replace hM := hM.trans hle7
  obtain ⟨l, dn, la, ks, og, cg⟩ := y
  dsimp only at hrel hfr7 hst7
  obtain ⟨hpm, hks9⟩ := hrel
  have hlh7 := hle7
  refine seq_any fun _ hK13 => ?_
  refine region_cut 1 (by kernel_rfl) ?_
  refine ops_seq (tch := [(0, 2, (nextRes _ _))]) hst7 hfr7 (by kernel_rfl) (by kernel_rfl) (by kernel_rfl) (.consT rfl rfl (fun _ => rfl) rfl (ob_next rfl) <| .nil) ?_
  intro a8 w8 m8 hst8 hle8 hk8
  have hfr8 := hk8.fr (T' := [(4, _), (11, _)]) (.old rfl rfl <| .old rfl rfl <| .nil)
  obtain ⟨yn10, e15, hyn10⟩ := hk8.ex 12 rfl
  replace hfr8 := hfr8.cons e15
  replace hst8 := hst8.fin (L' := [_, _, _]) (.cons e15 <| .nil)
  replace h_t := h_t.mono hle8
  replace hkk_t := hkk_t.mono hle8
  replace haa_t := haa_t.mono hle8
  replace hc1 := hc1.mono hle8
  replace hm_a9 := hm_a9.mono hle8
  replace hrv10 := hrv10.mono hle8
  have hlh8 := hlh7.trans hle8
  replace hM := hM.trans hle8
  clear hst7 hfr7 hk8
  rcases yn10 with _ | e9
  · skip
    have hl0 := encW_nil hyn10
    subst hl0
    dsimp only [MP.next, MP.mem, nextV, nextRes] at hst8 hfr8
    refine ops_seq (tch := []) hst8 hfr8 (by kernel_rfl) (by kernel_rfl) (by kernel_rfl) (.cons rfl (ob_extract rfl rfl) <| .nil) ?_
    intro a9 w9 m9 hst9 hle9 hk9
    have hfr9 := hk9.fr (T' := [(4, _), (11, _), (12, _), (13, _)]) (.old rfl rfl <| .old rfl rfl <| .old rfl rfl <| .new rfl <| .nil)
    replace h_t := h_t.mono hle9
    replace hkk_t := hkk_t.mono hle9
    replace haa_t := haa_t.mono hle9
    replace hc1 := hc1.mono hle9
    replace hm_a9 := hm_a9.mono hle9
    replace hrv10 := hrv10.mono hle9
    have hlh9 := hlh8.trans hle9
    replace hM := hM.trans hle9
    clear hst8 hfr8 hk9
    refine hK13 _ _ ?_; clear hK13
    refine seq_any fun _ hK16 => ?_
    refine cond_any hfr9 rfl rfl (fun hb13 => ?_) (fun hb13 => ?_)
    · exact absurd hb13 (by simp)
    · try simp only [nq1, nq2, nq3, nq4, nq5, nq6, nq7, nq8, nq9, u8_eq] at hb13
      have hpm9 : dn.Perm (freeMap t) := by simpa using hpm
      refine wp_exit ?_
      refine hK8 _ _ ?_; clear hK8
      refine seq_any fun _ hK17 => ?_
      have hfin9 : sortS ks = freeP t := by rw [hks9]; exact keys_sort hpm9
      have hkl9 : ks.length = dn.length := by rw [hks9, List.length_map]
      have hdl9 := hpm9.length_eq
      refine ra0 (tch := [(1, 1, (fun _ => .mrow (.slice og ks.length cg) ks.length 1 9 ((sortS ks).map S)))]) hst9 hfr9 (.cons rfl (ob_move rfl) <| .consT rfl rfl (fun _ => rfl) rfl (ob_callT rfl (.cons rfl <| .nil) Tryd.call33 (κ := .ex (MP.any)) (fun σ w m hK hr hkn => by have hle_ := KC.le hK; have hA := KC.agree hK; have hM := hM.trans hle_; have h_t := h_t.mono hle_; have hkk_t := hkk_t.mono hle_; have haa_t := haa_t.mono hle_; have hc1 := hc1.mono hle_; have hm_a9 := hm_a9.mono hle_; have hrv10 := hrv10.mono hle_; exact sortS_t hA hr (by omega))) <| .nil) ?_
      intro a10 w10 m10 hst10 hle10 hk10
      have hfr10 := hk10.fr (T' := [(4, _)]) (.old rfl rfl <| .nil)
      obtain ⟨_, e18, _⟩ := hk10.ex 21 rfl
      replace hst10 := hst10.fin (L' := [_, _, _]) (.cons e18 <| .nil)
      have hlh10 := hlh9.trans hle10
      clear hst9 hfr9 hk10
      obtain ⟨m11, hle11, hst11, oF_q, cF_q, eF_q, hcF_q, hmF_q, hrow_q⟩ := hst10.freeze (k := 1) rfl
      simp only [List.set_cons_succ, List.set_cons_zero] at hst11
      have hfr11 := hfr10; obtain ⟨a11, rfl⟩ : ∃ a, a = a10 := ⟨_, rfl⟩; obtain ⟨w11, rfl⟩ : ∃ w, w = w10 := ⟨_, rfl⟩
      have hlh11 := hlh10.trans hle11
      clear hst10 hfr10
      obtain ⟨rfl, rfl⟩ : og = oF_q ∧ cg = cF_q := by injection eF_q with q1 q2 q3; exact ⟨q1, q3⟩
      have hsq : Strs m11 og (freeP t).length cg (freeP t) := by rw [← hfin9]; exact Sl.of_row (f := fun x => [S x]) (by rw [List.map_eq_flatMap] at hrow_q; exact hrow_q) rfl (by rw [sortS_len]; exact hcF_q) (by rw [sortS_len]; omega) (by omega) fun _ _ => ⟨rfl, rfl⟩
      have hfl9 : ks.length = (freeP t).length := by rw [← hfin9, sortS_len]
      rw [hfl9] at hfr11
      refine hK17 _ _ ?_; clear hK17
      refine seq_any fun _ hK19 => ?_
      refine rp0 hst11 hfr11 (.cons rfl (ob_move rfl) <| .cons rfl (ob_assign rfl) <| .nil) ?_
      intro a12 w12 m12 hst12 hle12 hk12
      have hfr12 := hk12.fr (T' := [(4, _), (2, _)]) (.old rfl rfl <| .new rfl <| .nil)
      replace hsq := hsq.mono hle12
      have hlh12 := hlh11.trans hle12
      clear hst11 hfr11 hk12
      refine hK19 _ _ ?_; clear hK19
      refine wp_ret ?_
      repeat (with_reducible first | refine then_ret ?_ | refine block_ret ?_)
      exact fn_ret hst12 hfr12 rfl (.tmp rfl <| .nil) (⟨(og, cg), rfl, hsq⟩)
  · skip
    obtain ⟨k9, x9, l8, rfl, hp9, he9, hl8⟩ := encW_next hyn10
    dsimp only [MP.next, MP.mem, nextV, nextRes] at hst8 hfr8
    rw [he9] at hst8
    refine ops_seq (tch := []) hst8 hfr8 (by kernel_rfl) (by kernel_rfl) (by kernel_rfl) (.cons rfl (ob_extract rfl rfl) <| .nil) ?_
    intro a9 w9 m9 hst9 hle9 hk9
    have hfr9 := hk9.fr (T' := [(4, _), (11, _), (12, _), (13, _)]) (.old rfl rfl <| .old rfl rfl <| .old rfl rfl <| .new rfl <| .nil)
    have hlh9 := hlh8.trans hle9
    clear hst8 hfr8 hk9
    refine hK13 _ _ ?_; clear hK13
    refine seq_any fun _ hK21 => ?_
    refine cond_any hfr9 rfl rfl (fun hb13 => ?_) (fun hb13 => ?_)
    · try simp only [nq1, nq2, nq3, nq4, nq5, nq6, nq7, nq8, nq9, u8_eq] at hb13
      refine wp_skip ?_
      refine hK21 _ _ ?_; clear hK21
      refine wp_block ?_
      refine seq_any fun _ hK22 => ?_
      refine rp0 hst9 hfr9 (.cons rfl (ob_entry (j := 2) rfl rfl) <| .cons rfl (ob_extract rfl rfl) <| .cons rfl (ob_assign rfl) <| .nil) ?_
      intro a10 w10 m10 hst10 hle10 hk10
      have hfr10 := hk10.fr (T' := [(4, _), (11, _), (5, _)]) (.old rfl rfl <| .old rfl rfl <| .new rfl <| .nil)
      have hlh10 := hlh9.trans hle10
      clear hst9 hfr9 hk10
      have hkl9 : ks.length = dn.length := by rw [hks9, List.length_map]
      have hdl9 := hpm.length_eq
      rw [List.length_append] at hdl9
      have hp9l := hp9.length_eq
      simp only [List.length_cons] at hp9l
      refine hK22 _ _ ?_; clear hK22
      refine ra0 (tch := [(3, 1, (fun v => .mrow v _ _ _ _))]) hst10 hfr10 (.cons rfl (ob_move rfl) <| .cons rfl (ob_move rfl) <| .cons rfl (ob_buildSlice (.cons rfl <| .nil) Tryd.underlying29 Tryd.sizeOf9 Tryd.zeroValue9 rfl rfl rfl rfl) <| .consT rfl rfl (fun _ => rfl) rfl (ob_imgT 18 rfl rfl rfl fun y14 => ob_appendW (news := [S k9]) (size := 1) (bytes := 16) rfl rfl Tryd.underlying29 Tryd.type9 rfl rfl rfl rfl (fun w m hK => .inr ⟨_, rfl, hK.2⟩) rfl (by decide) (by decide) rfl (by simp only [maxLen]; omega) (by omega)) <| .consA 19 rfl rfl <| .nil) ?_
      intro a11 w11 m11 hst11 hle11 hk11
      have hfr11 := hk11.fr (T' := [(11, _)]) (.old rfl rfl <| .nil)
      obtain ⟨⟨oz9, cz9⟩, e23, _⟩ := hk11.ex 19 rfl
      replace hfr11 := hfr11.cons (hk11.same 4 rfl e23)
      replace hst11 := hst11.fin (L' := [_, _, _]) (.cons e23 <| .nil)
      have hlh11 := hlh10.trans hle11
      clear hst10 hfr10 hk11
      have he9l : ks.length + 1 = (ks ++ [k9]).length := by simp
      have he9m : ks.map S ++ [S k9] = (ks ++ [k9]).map S := by simp
      dsimp only [MP.mem] at hst11 hfr11
      rw [he9m, he9l] at hst11
      rw [he9l] at hfr11
      exact ⟨(l8, (dn ++ [(k9, x9)]), _, (ks ++ [k9]), oz9, cz9), m11, by show l8.length < l.length; omega, ⟨hst11, hlh11, hfr11.sub (.cons rfl <| .cons rfl <| .nil), ⟨by rw [List.append_assoc]; exact (hp9.symm.append_left dn).trans hpm, by rw [hks9]; simp⟩⟩⟩
    · exact absurd hb13 (by simp)

end Go.Proofs.YtlihpgjabohebaaDoor
