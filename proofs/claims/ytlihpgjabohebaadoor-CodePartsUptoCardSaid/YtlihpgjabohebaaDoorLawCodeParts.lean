/-
  A law of chapter 15, walked. Conditions: those of the theorem.
-/
import Derived.Test.YtlihpgjabohebaaDoorCref4
import Derived.Test.YtlihpgjabohebaaDoorCref
namespace Go.Proofs.YtlihpgjabohebaaDoor
set_option linter.all false
set_option maxRecDepth 4000
open Go.RowKit
theorem right_kind {t : Cd} (h : rightC t = true) : 1 ≤ t.kind ∧ t.kind ≤ 15 := by
  rcases kind_cases t with hk | hk
  · omega
  · rw [rightC_eq] at h
    have : headC t = false := by
      obtain ⟨h1, h2, h3, h4, h5, h6, h7, h8, h9, h10, h11, h12, h13, h14, h15⟩ := hk
      unfold headC; simp [*]
    rw [this] at h; cases h
theorem atom_right {t : Cd} (h : rightC t = true) : atomC t = decide (t.kind ≤ 5) := by
  have := (right_kind h).1
  unfold atomC; simp [this]
theorem right_node (k : Int) (s p : Str) (l : List Cd) (az : List Ca) : rightC (nodeC k s p l az) = (headC (nodeC k s p l az) && armsOk k 0 az && l.all rightC && az.all fun a => rightC a.body) := rightC_eq _
theorem right_unit : rightC unitC = true := by decide
theorem atom_unit : atomC unitC = true := by decide
theorem cds_cells {m : Mem} {g : Nat} (l : List (Cd × List Value)) (hc : CellsAt m ⟨g, 0, none⟩ (l.map Prod.snd).flatten) (h : ∀ x ∈ l, CdR m x.1 x.2) (hb : l.length ≤ 100) : Cds m (some ⟨g, 0, none⟩) l.length l.length (l.map Prod.fst) := by
  have h1 := Sl.of_row (R := fun m vs (x : Cd × List Value) => CdR m x.1 vs) (sz := 6) (f := Prod.snd) (.inr ⟨_, rfl, by rw [List.flatMap_def]; exact hc⟩) rfl (Nat.le_refl _) (by omega) (by omega) fun x hx => ⟨(h x hx).len, h x hx⟩
  refine ⟨by simp, h1.cap, h1.big, fun i x hx => ?_⟩
  rw [List.getElem?_map] at hx
  cases e : l[i]? with
  | none => rw [e] at hx; cases hx
  | some y =>
    rw [e] at hx; simp only [Option.map_some, Option.some.injEq] at hx; subst hx
    exact h1.at_ i y e
def AllR (m : Mem) : List (Cd × List Value) → Prop
  | [] => True
  | x :: l => CdR m x.1 x.2 ∧ AllR m l
theorem allR {m : Mem} : ∀ (l : List (Cd × List Value)), AllR m l → ∀ x ∈ l, CdR m x.1 x.2
  | [], _, x, hx => by cases hx
  | y :: l, h, x, hx => by
    rcases List.mem_cons.1 hx with rfl | hx
    · exact h.1
    · exact allR l h.2 x hx
theorem node3_R {m : Mem} {k : Int} {s p : Str} {t u v : Cd} {g : Nat} {vs us ws : List Value} (hk : InI64 k) (hc : CellsAt m ⟨g, 0, none⟩ [vs, us, ws].flatten) (h : CdR m t vs) (h2 : CdR m u us) (h3 : CdR m v ws) : CdR m (nodeC k s p [t, u, v] []) (cdV (nodeC k s p [t, u, v] []) ⟨some ⟨g, 0, none⟩, 3, none, 0⟩) :=
  CdR.build hk i0 (cds_cells [(t, vs), (u, us), (v, ws)] hc (fun x hx => by simp only [List.mem_cons, List.not_mem_nil, or_false] at hx; rcases hx with rfl | rfl | rfl <;> assumption) (Nat.le_of_ble_eq_true rfl)) Sl.empty
theorem size_cnt (t : Cd) : sizeC t ≤ cntC t := by
  induction t using Cd.rec_ with
  | h t ihk iha =>
    have hk : ∀ (l : List Cd), (∀ u ∈ l, u ∈ t.kids) → sizeKs l ≤ cntKs l := by
      intro l
      induction l with
      | nil => intro _; simp [sizeKs]
      | cons u l ih => intro h; rw [sizeKs, cntKs]; have h1 := ih (fun v hv => h v (.tail _ hv)); have h2 := ihk u (h u (.head _)); omega
    have ha : ∀ (l : List Ca), (∀ u ∈ l, u ∈ t.arms) → sizeAs l ≤ cntAs l := by
      intro l
      induction l with
      | nil => intro _; simp [sizeAs]
      | cons u l ih => intro h; rw [sizeAs_cons, cntAs_cons]; have h1 := ih (fun v hv => h v (.tail _ hv)); have h2 := iha u (h u (.head _)); omega
    rw [sizeC_eq, cntC_eq]
    have h1 := hk t.kids (fun _ h => h); have h2 := ha t.arms (fun _ h => h); omega
theorem cntKs_len : ∀ l : List Cd, l.length ≤ cntKs l
  | [] => Nat.zero_le _
  | t :: ts => by rw [cntKs, List.length_cons, cntC_eq]; have := cntKs_len ts; omega
theorem cntAs_len : ∀ l : List Ca, l.length ≤ cntAs l
  | [] => Nat.zero_le _
  | t :: ts => by rw [cntAs_cons, List.length_cons, cntC_eq]; have := cntAs_len ts; omega
theorem kids_cnt (t : Cd) : t.kids.length + t.arms.length ≤ cntC t := by rw [cntC_eq]; have := cntKs_len t.kids; have := cntAs_len t.arms; omega
def Inf (a b : Str) : Prop := ∃ p q, b = p ++ (a ++ q)
theorem Inf.refl (a : Str) : Inf a a := ⟨[], [], by simp⟩
theorem Inf.trans {a b c : Str} (h : Inf a b) (h2 : Inf b c) : Inf a c := by
  obtain ⟨p, q, rfl⟩ := h; obtain ⟨x, y, rfl⟩ := h2
  exact ⟨x ++ p, q ++ y, by simp⟩
theorem inf_spc {w : Str} : ∀ {l : List Str}, w ∈ l → Inf w (spc l)
  | x :: l, h => by
    rcases List.mem_cons.1 h with rfl | h
    · exact ⟨[32], spc l, rfl⟩
    · obtain ⟨p, q, e⟩ := inf_spc h
      exact ⟨32 :: x ++ p, q, by rw [spc_cons, e]; simp⟩
theorem inf_join {w : Str} {l : List Str} (h : w ∈ l) : Inf w (joinW l) := by
  cases l with
  | nil => cases h
  | cons x l =>
    rw [join_spc]
    rcases List.mem_cons.1 h with rfl | h
    · exact ⟨[], spc l, rfl⟩
    · obtain ⟨p, q, e⟩ := inf_spc h
      exact ⟨x ++ p, q, by rw [e]; simp⟩
theorem inf_braces (t : Cd) : Inf (textC t) (bracesC t) := ⟨[123, 32], [32, 125], by simp [bracesC]⟩
theorem inf_kid (fr : Nat) : ∀ (l : List Cd) (i : Nat) (u : Cd), u ∈ l → ∃ w ∈ kidsW fr i l, Inf (textC u) w
  | v :: l, i, u, h => by
    rw [kidsW_cons]
    rcases List.mem_cons.1 h with rfl | h
    · refine ⟨_, .head _, ?_⟩
      unfold kidW plainC
      split
      · split
        · exact inf_braces u
        · exact Inf.refl _
      · exact inf_braces u
    · obtain ⟨w, hw, hi⟩ := inf_kid fr l (i + 1) u h
      exact ⟨w, .tail _ hw, hi⟩
theorem inf_arm : ∀ (l : List Ca) (a : Ca), a ∈ l → ∃ w ∈ armsW l, Inf (textC a.body) w
  | b :: l, a, h => by
    rw [armsW_cons]
    rcases List.mem_cons.1 h with rfl | h
    · exact ⟨bracesC a.body, List.mem_append_left _ (by unfold armW; simp), inf_braces _⟩
    · obtain ⟨w, hw, hi⟩ := inf_arm l a h
      exact ⟨w, List.mem_append_right _ hw, hi⟩
theorem inf_part {t u : Cd} (h : rightC t = true) (hu : u ∈ partsC t) : Inf (textC u) (textC t) := by
  have hk := right_kindT h
  have h4 : 4 < t.kind := by
    rcases Int.lt_or_le 4 t.kind with h4 | h4
    · exact h4
    · exfalso
      have hh := h
      rw [rightC_eq] at hh
      simp only [Bool.and_eq_true] at hh
      have hd := hh.1.1.1
      have : t.kids = [] ∧ t.arms = [] := by
        unfold headC at hd
        rcases (show t.kind = 1 ∨ t.kind = 2 ∨ t.kind = 3 ∨ t.kind = 4 by omega) with e | e | e | e <;> simp [e] at hd <;> simp [hd]
      unfold partsC at hu
      rw [this.1, this.2] at hu; cases hu
  rw [textC_eq t, if_neg (by omega), if_neg (by omega), if_neg (by omega), if_neg (by omega)]
  rcases partsC_sub hu with hu | ⟨a, ha, rfl⟩
  · obtain ⟨w, hw, hi⟩ := inf_kid (fromC t.kind t.kids.length) t.kids 0 u hu
    have hw2 : w ∈ wordsC t := by unfold wordsC; exact List.mem_append_left _ (List.mem_append_right _ hw)
    exact hi.trans (inf_join hw2)
  · obtain ⟨w, hw, hi⟩ := inf_arm t.arms a ha
    have hw2 : w ∈ wordsC t := by unfold wordsC; exact List.mem_append_right _ hw
    exact hi.trans (inf_join hw2)
theorem right_part {t u : Cd} (h : rightC t = true) (hu : u ∈ partsC t) : rightC u = true := by
  rw [rightC_parts] at h
  simp only [Bool.and_eq_true] at h
  exact List.all_eq_true.1 h.2 u hu
theorem bulk_part {t u : Cd} (hu : u ∈ partsC t) : bulkC u ≤ bulkC t := by
  rcases partsC_sub hu with hu | ⟨a, ha, rfl⟩
  · have := bulk_kid hu; omega
  · have := bulk_arm ha; omega
/-- Does a text stand at some place of another one? -/
def At (s t : Str) (k : Nat) : Prop := k + t.length ≤ s.length ∧ (s.take (k + t.length)).drop k = t
open Classical in
noncomputable def withinB (s t : Str) : Bool := decide (∃ k, At s t k)
open Classical in
theorem within_yes {s t : Str} {k : Nat} (h : At s t k) : withinB s t = true := by unfold withinB; exact @decide_eq_true _ _ ⟨k, h⟩
open Classical in
theorem within_no {s t : Str} (h : ∀ k, ¬ At s t k) : withinB s t = false := by unfold withinB; exact @decide_eq_false _ _ fun ⟨k, hk⟩ => h k hk
theorem within_inf {s t : Str} (h : Inf t s) : withinB s t = true := by
  obtain ⟨p, q, rfl⟩ := h
  refine within_yes (k := p.length) ⟨by simp, ?_⟩
  rw [← List.append_assoc, show p.length + t.length = (p ++ t).length by simp, List.take_left, List.drop_left]
set_option maxHeartbeats 400000 in
theorem within_c {w : World} {m : Mem} {s : Str} {u : Str} (hA : Agree w m) (hs : s.length ≤ 1000000000) (hu : u.length ≤ 1000000000) : FnV Tryd.prog 23 #[S s, S u] w m (fun _ _ v => v = .bool (withinB s u)) := by
  refine fn_enter (vs := [_, _]) Tryd.func23 rfl rfl rfl fun a0 hfr0 => ?_
  have hst0 := st_enter hA (loc_nil [] _ w m)
  have hM : MLe m m := MLe.refl m
  refine seq_any fun _ hK1 => ?_
  refine rp0 hst0 hfr0 (.cons rfl (ob_assign rfl) <| .nil) ?_
  intro a1 w1 m1 hst1 hle1 hk1
  have hfr1 := hk1.fr (T' := [(0, _), (1, _)]) (.old rfl rfl <| .old rfl rfl <| .nil)
  clear hst0 hfr0 hk1
  refine hK1 _ _ ?_; clear hK1
  refine seq_any fun _ hK2 => ?_
  refine seq_any fun _ hK3 => ?_
  refine rp0 hst1 hfr1 (.cons rfl (ob_assign rfl) <| .nil) ?_
  intro a2 w2 m2 hst2 hle2 hk2
  have hfr2 := hk2.fr (T' := [(0, _), (1, _), (5, _)]) (.old rfl rfl <| .old rfl rfl <| .new rfl <| .nil)
  clear hst1 hfr1 hk2
  refine hK3 _ _ ?_; clear hK3
  refine wp_block ?_
  refine loop_any (T := [(0, _), (1, _)]) (fun (y : Nat) => ([(5, .int .i64 (y : Int))] : List (Nat × Value))) (fun _ => _) (fun (y : Nat) m => (y ≤ (s.length + 1)) ∧ (∀ k, k < y → ¬ At s u k)) (fun y => (s.length + 1) - y) (0) ⟨hst2, MLe.refl _, hfr2.sub (.cons rfl <| .cons rfl <| .cons rfl <| .nil), ⟨Nat.zero_le _, fun k hk => absurd hk (Nat.not_lt_zero k)⟩⟩ fun y a3 w3 m3 hh3 => ?_
  have hst3 := hh3.st; have hle3 := hh3.le; have hfr3 := hh3.fr; have hrel := hh3.rel; clear hh3
  clear hst2 hfr2
  obtain ⟨hyn, hno⟩ := hrel
  have hlh3 := hle3
  refine seq_any fun _ hK5 => ?_
  refine seq_any fun _ hK6 => ?_
  refine rp0 hst3 hfr3 (.cons rfl (ob_move rfl) <| .cons rfl (ob_move rfl) <| .cons rfl (ob_slen rfl Tryd.underlying9) <| .cons rfl (ob_add rfl rfl ⟨by omega, by omega⟩) <| .cons rfl (ob_move rfl) <| .cons rfl (ob_slen rfl Tryd.underlying9) <| .cons rfl (ob_leq rfl rfl) <| .nil) ?_
  intro a4 w4 m4 hst4 hle4 hk4
  have hfr4 := hk4.fr (T' := [(5, _), (0, _), (1, _), (12, _)]) (.old rfl rfl <| .old rfl rfl <| .old rfl rfl <| .new rfl <| .nil)
  have hlh4 := hlh3.trans hle4
  clear hst3 hfr3 hk4
  refine hK6 _ _ ?_; clear hK6
  refine cond_any hfr4 rfl rfl (fun hb12 => ?_) (fun hb12 => ?_)
  · try simp only [nq1, nq2, nq3, nq4, nq5, nq6, nq7, nq8, nq9, u8_eq] at hb12
    refine wp_skip ?_
    refine hK5 _ _ ?_; clear hK5
    refine seq_any fun _ hK7 => ?_
    refine wp_block ?_
    refine seq_any fun _ hK8 => ?_
    refine rp0 hst4 hfr4 (.cons rfl (ob_move rfl) <| .cons rfl (ob_move rfl) <| .cons rfl (ob_move rfl) <| .cons rfl (ob_move rfl) <| .cons rfl (ob_slen rfl Tryd.underlying9) <| .cons rfl (ob_add rfl rfl ⟨by omega, by omega⟩) <| .cons rfl (ob_sslice rfl (.some rfl rfl) (.some rfl rfl) Tryd.underlying9 (by omega) (by omega)) <| .cons rfl (ob_move rfl) <| .cons rfl (ob_seql rfl rfl) <| .nil) ?_
    intro a5 w5 m5 hst5 hle5 hk5
    have hfr5 := hk5.fr (T' := [(5, _), (0, _), (1, _), (23, _)]) (.old rfl rfl <| .old rfl rfl <| .old rfl rfl <| .new rfl <| .nil)
    have hlh5 := hlh4.trans hle5
    clear hst4 hfr4 hk5
    refine hK8 _ _ ?_; clear hK8
    refine cond_any hfr5 rfl rfl (fun hb23 => ?_) (fun hb23 => ?_)
    · try simp only [nq1, nq2, nq3, nq4, nq5, nq6, nq7, nq8, nq9, u8_eq] at hb23
      refine seq_any fun _ hK9 => ?_
      refine rp0 hst5 hfr5 (.cons rfl (ob_assign rfl) <| .nil) ?_
      intro a6 w6 m6 hst6 hle6 hk6
      have hfr6 := hk6.fr (T' := [(5, _), (4, _)]) (.old rfl rfl <| .new rfl <| .nil)
      have hlh6 := hlh5.trans hle6
      clear hst5 hfr5 hk6
      refine hK9 _ _ ?_; clear hK9
      refine wp_ret ?_
      repeat (with_reducible first | refine then_ret ?_ | refine block_ret ?_)
      exact fn_ret hst6 hfr6 rfl (.tmp rfl <| .nil) (by refine congrArg Value.bool ?_; exact (within_yes (k := y) ⟨by omega, hb23⟩).symm)
    · try simp only [nq1, nq2, nq3, nq4, nq5, nq6, nq7, nq8, nq9, u8_eq] at hb23
      refine wp_skip ?_
      refine hK7 _ _ ?_; clear hK7
      refine rp0 hst5 hfr5 (.cons rfl (ob_move rfl) <| .cons rfl (ob_add rfl rfl ⟨by omega, by omega⟩) <| .cons rfl (ob_assign rfl) <| .nil) ?_
      intro a6 w6 m6 hst6 hle6 hk6
      have hfr6 := hk6.fr (T' := [(0, _), (1, _), (5, _)]) (.old rfl rfl <| .old rfl rfl <| .new rfl <| .nil)
      have hlh6 := hlh5.trans hle6
      clear hst5 hfr5 hk6
      exact ⟨y + 1, m6, by show (s.length + 1) - (y + 1) < (s.length + 1) - y; omega, ⟨hst6, hlh6, hfr6.sub (.cons rfl <| .cons rfl <| .cons rfl <| .nil), ⟨by show y + 1 ≤ (s.length + 1); omega, fun k hk => (Nat.lt_succ_iff_lt_or_eq.1 hk).elim (hno k) (fun e => by subst e; exact fun h => hb23 h.2)⟩⟩⟩
  · try simp only [nq1, nq2, nq3, nq4, nq5, nq6, nq7, nq8, nq9, u8_eq] at hb12
    have hno2 : ∀ k, ¬ At s u k := fun k hk => by rcases Nat.lt_or_ge k y with h | h; exact hno k h hk; have := hk.1; omega
    refine wp_exit ?_
    refine hK2 _ _ ?_; clear hK2
    refine seq_any fun _ hK11 => ?_
    refine rp0 hst4 hfr4 (.cons rfl (ob_assign rfl) <| .nil) ?_
    intro a5 w5 m5 hst5 hle5 hk5
    have hfr5 := hk5.fr (T' := [(5, _), (4, _)]) (.old rfl rfl <| .new rfl <| .nil)
    have hlh5 := hlh4.trans hle5
    clear hst4 hfr4 hk5
    refine hK11 _ _ ?_; clear hK11
    refine wp_ret ?_
    repeat (with_reducible first | refine then_ret ?_ | refine block_ret ?_)
    exact fn_ret hst5 hfr5 rfl (.tmp rfl <| .nil) (by refine congrArg Value.bool ?_; exact (within_no hno2).symm)

set_option maxHeartbeats 1600000 in
theorem codeParts_c {w : World} {m : Mem} {t : Cd} {vs_t : List Value} (hA : Agree w m) (h_t : CdR m t vs_t) (hT : Tab w) (hb : bulkC t ≤ 100000000) : FnV Tryd.prog 6 #[.agg vs_t.toArray] w m (fun _ _ v => v = .bool true) := by
  obtain ⟨⟨oK_t, cK_t, oA_t, cA_t⟩, rfl, ⟨hik_t, hin_t⟩, hkk_t, haa_t⟩ := h_t.open_
  dsimp only at hkk_t haa_t
  have hbg_t := hkk_t.big; have hcp_t := hkk_t.cap; have hbh_t := haa_t.big; have hcq_t := haa_t.cap
  refine fn_enter (vs := [_]) Tryd.func6 rfl rfl rfl fun a0 hfr0 => ?_
  have hst0 := st_enter hA (loc_nil [] _ w m)
  have hM : MLe m m := MLe.refl m
  have hsc := size_cnt t
  have hcb := cnt_bulk t
  have hpl9 := partsC_len t
  have hsp9 := sizeC_parts t
  have htx9 := (text_len t).1
  have hkl9 := kids_cnt t
  refine seq_any fun _ hK1 => ?_
  refine rp0 hst0 hfr0 (.cons rfl (ob_box rfl rfl) <| .cons rfl (ob_assign rfl) <| .nil) ?_
  intro a1 w1 m1 hst1 hle1 hk1
  have hfr1 := hk1.fr (T' := []) (.nil)
  obtain ⟨g2, e2, hc1⟩ := hk1.ex 1 rfl
  replace hfr1 := hfr1.cons e2
  replace h_t := h_t.mono hle1
  replace hkk_t := hkk_t.mono hle1
  replace haa_t := haa_t.mono hle1
  clear hst0 hfr0 hk1
  refine hK1 _ _ ?_; clear hK1
  refine seq_any fun _ hK3 => ?_
  refine rp0 hst1 hfr1 (.cons rfl (ob_callE rfl (.nil) Tryd.call10 (fun w m hK => by have hle_ := KC.le hK; have hA := KC.agree hK; have hT := tab_keep hT hK.st.ext; exact shown_c hA hT)) <| .cons rfl (ob_assign rfl) <| .nil) ?_
  intro a2 w2 m2 hst2 hle2 hk2
  have hfr2 := hk2.fr (T' := [(1, _), (3, _)]) (.old rfl rfl <| .new rfl <| .nil)
  replace h_t := h_t.mono hle2
  replace hkk_t := hkk_t.mono hle2
  replace haa_t := haa_t.mono hle2
  replace hc1 := hc1.mono hle2
  clear hst1 hfr1 hk2
  refine hK3 _ _ ?_; clear hK3
  refine seq_any fun _ hK4 => ?_
  refine seq_any fun _ hK5 => ?_
  refine rp0 hst2 hfr2 (.cons rfl (ob_loadS' rfl hc1 Tryd.isAgg25 Tryd.sizeOf25 rfl rfl) <| .cons rfl (ob_callE rfl (.cons rfl <| .nil) Tryd.call11 (fun w m hK => by have hle_ := KC.le hK; have hA := KC.agree hK; have h_t := h_t.mono hle_; exact count_c t hA h_t)) <| .cons rfl (ob_gtr rfl rfl) <| .cons rfl (ob_move rfl) <| .cons rfl (ob_loadS' rfl hc1 Tryd.isAgg25 Tryd.sizeOf25 rfl rfl) <| .cons rfl (ob_callE rfl (.cons rfl <| .nil) Tryd.call12 (fun w m hK => by have hle_ := KC.le hK; have hA := KC.agree hK; have h_t := h_t.mono hle_; exact right_c t hA h_t)) <| .cons rfl (ob_not rfl) <| .cons rfl (ob_or rfl rfl rfl) <| .nil) ?_
  intro a3 w3 m3 hst3 hle3 hk3
  have hfr3 := hk3.fr (T' := [(1, _), (3, _), (20, _)]) (.old rfl rfl <| .old rfl rfl <| .new rfl <| .nil)
  replace h_t := h_t.mono hle3
  replace hkk_t := hkk_t.mono hle3
  replace haa_t := haa_t.mono hle3
  replace hc1 := hc1.mono hle3
  clear hst2 hfr2 hk3
  refine hK5 _ _ ?_; clear hK5
  refine cond_any hfr3 rfl rfl (fun hb20 => ?_) (fun hb20 => ?_)
  · try simp only [nq1, nq2, nq3, nq4, nq5, nq6, nq7, nq8, nq9, u8_eq] at hb20
    refine seq_any fun _ hK6 => ?_
    refine rp0 hst3 hfr3 (.cons rfl (ob_move rfl) <| .cons rfl (ob_assign rfl) <| .nil) ?_
    intro a4 w4 m4 hst4 hle4 hk4
    have hfr4 := hk4.fr (T' := [(2, _)]) (.new rfl <| .nil)
    clear hst3 hfr3 hk4
    refine hK6 _ _ ?_; clear hK6
    refine wp_ret ?_
    repeat (with_reducible first | refine then_ret ?_ | refine block_ret ?_)
    exact fn_ret hst4 hfr4 rfl (.tmp rfl <| .nil) (rfl)
  · try simp only [nq1, nq2, nq3, nq4, nq5, nq6, nq7, nq8, nq9, u8_eq] at hb20
    have hrt : rightC t = true := hb20.2
    refine wp_skip ?_
    refine hK4 _ _ ?_; clear hK4
    refine seq_any fun _ hK8 => ?_
    refine rp0 hst3 hfr3 (.cons rfl (ob_loadS' rfl hc1 Tryd.isAgg25 Tryd.sizeOf25 rfl rfl) <| .cons rfl (ob_callE rfl (.cons rfl <| .nil) Tryd.call17 (fun w m hK => by have hle_ := KC.le hK; have hA := KC.agree hK; have hT := tab_keep hT hK.st.ext; have h_t := h_t.mono hle_; exact textF_c hA h_t hT hb)) <| .cons rfl (ob_move rfl) <| .cons rfl (ob_extract rfl rfl) <| .cons rfl (ob_extract rfl rfl) <| .cons rfl (ob_assign rfl) <| .cons rfl (ob_assign rfl) <| .nil) ?_
    intro a4 w4 m4 hst4 hle4 hk4
    have hfr4 := hk4.fr (T' := [(1, _), (3, _), (4, _), (5, _)]) (.old rfl rfl <| .old rfl rfl <| .new rfl <| .new rfl <| .nil)
    replace h_t := h_t.mono hle4
    replace hkk_t := hkk_t.mono hle4
    replace haa_t := haa_t.mono hle4
    replace hc1 := hc1.mono hle4
    clear hst3 hfr3 hk4
    simp only [hrt, if_true] at hfr4
    refine hK8 _ _ ?_; clear hK8
    refine seq_any fun _ hK9 => ?_
    refine rp0 hst4 hfr4 (.cons rfl (ob_assign rfl) <| .nil) ?_
    intro a5 w5 m5 hst5 hle5 hk5
    have hfr5 := hk5.fr (T' := [(1, _), (3, _), (4, _), (5, _), (6, _)]) (.old rfl rfl <| .old rfl rfl <| .old rfl rfl <| .old rfl rfl <| .new rfl <| .nil)
    replace h_t := h_t.mono hle5
    replace hkk_t := hkk_t.mono hle5
    replace haa_t := haa_t.mono hle5
    replace hc1 := hc1.mono hle5
    clear hst4 hfr4 hk5
    refine hK9 _ _ ?_; clear hK9
    refine seq_any fun _ hK10 => ?_
    refine rp0 hst5 hfr5 (.cons rfl (ob_assign rfl) <| .nil) ?_
    intro a6 w6 m6 hst6 hle6 hk6
    have hfr6 := hk6.fr (T' := [(1, _), (3, _), (4, _), (5, _), (6, _), (7, _)]) (.old rfl rfl <| .old rfl rfl <| .old rfl rfl <| .old rfl rfl <| .old rfl rfl <| .new rfl <| .nil)
    replace h_t := h_t.mono hle6
    replace hkk_t := hkk_t.mono hle6
    replace haa_t := haa_t.mono hle6
    replace hc1 := hc1.mono hle6
    clear hst5 hfr5 hk6
    have hst6 := hst6.more (r := .rowx (.slice none 0 0) 0 6 25 (MP.reads (fun m vs t => CdR m t vs) 6 [])) rowx_new List.nodup_nil (by simp [Res.blocks, rowBlock])
    have hsl_P : Cds m6 none ([] : List Cd).length 0 ([] : List Cd) := Sl.empty
    refine hK10 _ _ ?_; clear hK10
    refine seq_any fun _ hK11 => ?_
    refine ra0 (tch := [(3, 0, (fun v => .rowx (nz v) _ _ _ _))]) hst6 hfr6 (.cons rfl (ob_move rfl) <| .cons rfl (ob_fieldAddrO (off := 4) rfl Tryd.underlying25 rfl rfl Tryd.sizeOf22 rfl) <| .cons rfl (ob_load1 rfl hc1 Tryd.isAgg22 rfl) <| .consT rfl rfl (fun _ => rfl) rfl (ob_appendX (size := 6) (bytes := 96) (l := ([] : List Cd)) (l' := t.kids) rfl rfl (fun _ => by first | exact .inl rfl | exact .inr (.inl rfl)) Tryd.underlying22 Tryd.type25 rfl rfl rfl rfl (fun w m hK => hkk_t.mono (KC.le hK)) rfl (by decide) (by simp only [maxLen]; omega) (by omega)) <| .consA 30 rfl rfl <| .nil) ?_
    intro a7 w7 m7 hst7 hle7 hk7
    have hfr7 := hk7.fr (T' := [(1, _), (3, _), (4, _), (5, _), (6, _)]) (.old rfl rfl <| .old rfl rfl <| .old rfl rfl <| .old rfl rfl <| .old rfl rfl <| .nil)
    obtain ⟨⟨P_12o, P_12p⟩, e13, hsl_P_12⟩ := hk7.ex 30 rfl
    replace hfr7 := hfr7.cons (hk7.same 7 rfl e13)
    replace hst7 := hst7.fin (L' := [_]) (.cons e13 <| .nil)
    replace h_t := h_t.mono hle7
    replace haa_t := haa_t.mono hle7
    replace hc1 := hc1.mono hle7
    clear hst6 hfr6 hk7
    replace hsl_P_12 : Cds m7 P_12o (([] : List Cd) ++ t.kids).length P_12p (([] : List Cd) ++ t.kids) := hsl_P_12
    refine hK11 _ _ ?_; clear hK11
    refine seq_any fun _ hK14 => ?_
    refine seq_any fun _ hK15 => ?_
    refine rp0 hst7 hfr7 (.cons rfl (ob_assign rfl) <| .nil) ?_
    intro a8 w8 m8 hst8 hle8 hk8
    have hfr8 := hk8.fr (T' := [(1, _), (3, _), (4, _), (5, _), (6, _), (7, _), (8, _)]) (.old rfl rfl <| .old rfl rfl <| .old rfl rfl <| .old rfl rfl <| .old rfl rfl <| .old rfl rfl <| .new rfl <| .nil)
    replace h_t := h_t.mono hle8
    replace haa_t := haa_t.mono hle8
    replace hc1 := hc1.mono hle8
    replace hsl_P_12 := hsl_P_12.mono hle8
    clear hst7 hfr7 hk8
    refine hK15 _ _ ?_; clear hK15
    refine wp_block ?_
    refine loop_any (T := [(1, _), (3, _), (4, _), (5, _), (6, _)]) (fun (y : Nat × Option Addr × Nat × List Cd) => ([(7, .slice y.2.1 y.2.2.2.length y.2.2.1), (8, .int .i64 (y.1 : Int))] : List (Nat × Value))) (fun y => [.rowx (nz (.slice y.2.1 y.2.2.2.length y.2.2.1)) y.2.2.2.length 6 25 (MP.reads (fun m vs t => CdR m t vs) 6 y.2.2.2)]) (fun (y : Nat × Option Addr × Nat × List Cd) m => (fun (y : Nat) (pqo : Option Addr) (pqp : Nat) (pq : List Cd) => (y ≤ t.arms.length) ∧ (Cds m pqo pq.length pqp pq) ∧ (pq = t.kids ++ (t.arms.take y).map Ca.body)) y.1 y.2.1 y.2.2.1 y.2.2.2) (fun y => t.arms.length - y.1) ((0, P_12o, P_12p, (([] : List Cd) ++ t.kids))) ⟨hst8, MLe.refl _, hfr8.sub (.cons rfl <| .cons rfl <| .cons rfl <| .cons rfl <| .cons rfl <| .cons rfl <| .cons rfl <| .nil), ⟨Nat.zero_le _, hsl_P_12, by simp⟩⟩ fun y a9 w9 m9 hh9 => ?_
    have hst9 := hh9.st; have hle9 := hh9.le; have hfr9 := hh9.fr; have hrel := hh9.rel; clear hh9
    replace h_t := h_t.mono hle9
    replace haa_t := haa_t.mono hle9
    replace hc1 := hc1.mono hle9
    clear hst8 hfr8
    obtain ⟨y, pqo, pqp, pq⟩ := y
    dsimp only at hrel hfr9 hst9
    obtain ⟨hyn, hsl_pq, hlen_pq⟩ := hrel
    have hlh9 := hle9
    refine seq_any fun _ hK17 => ?_
    refine seq_any fun _ hK18 => ?_
    refine rp0 hst9 hfr9 (.cons rfl (ob_move rfl) <| .cons rfl (ob_fieldAddrO (off := 5) rfl Tryd.underlying25 rfl rfl Tryd.sizeOf23 rfl) <| .cons rfl (ob_load1 rfl hc1 Tryd.isAgg23 rfl) <| .cons rfl (ob_len rfl Tryd.underlying23) <| .cons rfl (ob_lss rfl rfl) <| .nil) ?_
    intro a10 w10 m10 hst10 hle10 hk10
    have hfr10 := hk10.fr (T' := [(7, _), (8, _), (1, _), (3, _), (4, _), (5, _), (6, _), (35, _)]) (.old rfl rfl <| .old rfl rfl <| .old rfl rfl <| .old rfl rfl <| .old rfl rfl <| .old rfl rfl <| .old rfl rfl <| .new rfl <| .nil)
    replace h_t := h_t.mono hle10
    replace haa_t := haa_t.mono hle10
    replace hc1 := hc1.mono hle10
    replace hsl_pq := hsl_pq.mono hle10
    have hlh10 := hlh9.trans hle10
    clear hst9 hfr9 hk10
    refine hK18 _ _ ?_; clear hK18
    refine cond_any hfr10 rfl rfl (fun hb35 => ?_) (fun hb35 => ?_)
    · try simp only [nq1, nq2, nq3, nq4, nq5, nq6, nq7, nq8, nq9, u8_eq] at hb35
      refine wp_skip ?_
      refine hK17 _ _ ?_; clear hK17
      refine seq_any fun _ hK19 => ?_
      refine wp_block ?_
      obtain ⟨p20, vs20, x20, ho20, hd20, hm_x20, ht20, hcv20, hl20, hv20⟩ := haa_t.nth (k := y) (by omega)
      cases ho20
      obtain ⟨oV20, cV20, bs20, rfl, hva20, hbd20⟩ := hv20.open_
      have hbv20 := hva20.big; have hcv20_ := hva20.cap
      obtain ⟨⟨oK20b, cK20b, oA20b, cA20b⟩, rfl, ⟨hik20b, hin20b⟩, hkk20b, haa20b⟩ := hbd20.open_
      dsimp only at hkk20b haa20b
      have hbg20b := hkk20b.big; have hcp20b := hkk20b.cap; have hbh20b := haa20b.big; have hcq20b := haa20b.cap
      have hpn8 : pq.length = t.kids.length + y := by rw [hlen_pq]; simp; omega
      refine ra0 (tch := [(8, 0, (fun v => .rowx (nz v) _ _ _ _))]) hst10 hfr10 (.cons rfl (ob_move rfl) <| .cons rfl (ob_fieldAddrO (off := 5) rfl Tryd.underlying25 rfl rfl Tryd.sizeOf23 rfl) <| .cons rfl (ob_load1 rfl hc1 Tryd.isAgg23 rfl) <| .cons rfl (ob_move rfl) <| .cons rfl (ob_indexAddr (k := y) rfl rfl Tryd.underlying23 Tryd.sizeOf35 rfl (by omega)) <| .cons rfl (ob_fieldAddrO (off := 3) rfl Tryd.underlying35 rfl rfl Tryd.sizeOf25 rfl) <| .cons rfl (ob_loadS rfl hcv20 Tryd.isAgg25 Tryd.sizeOf25 rfl rfl) <| .cons rfl (ob_buildSlice1 rfl Tryd.underlying22 Tryd.sizeOf25 Tryd.zeroValue25 rfl rfl rfl rfl) <| .consT rfl rfl (fun _ => rfl) rfl (ob_imgT 45 rfl rfl rfl fun y45 => ob_appendX (size := 6) (bytes := 96) (l := pq) (l' := [x20.body]) rfl rfl (fun _ => by first | exact .inl rfl | exact .inr (.inl rfl)) Tryd.underlying22 Tryd.type25 rfl rfl rfl rfl (fun w m hK => Sl.one (R := fun m vs t => CdR m t vs) hK.2 (hbd20.mono (KC.le hK)).len (hbd20.mono (KC.le hK))) rfl (by decide) (by simp only [maxLen]; omega) (by omega)) <| .consA 46 rfl rfl <| .nil) ?_
      intro a11 w11 m11 hst11 hle11 hk11
      have hfr11 := hk11.fr (T' := [(8, _), (1, _), (3, _), (4, _), (5, _), (6, _)]) (.old rfl rfl <| .old rfl rfl <| .old rfl rfl <| .old rfl rfl <| .old rfl rfl <| .old rfl rfl <| .nil)
      obtain ⟨⟨P_21o, P_21p⟩, e22, hsl_P_21⟩ := hk11.ex 46 rfl
      replace hfr11 := hfr11.cons (hk11.same 7 rfl e22)
      replace hst11 := hst11.fin (L' := [_]) (.cons e22 <| .nil)
      have hlh11 := hlh10.trans hle11
      clear hst10 hfr10 hk11
      replace hsl_P_21 : Cds m11 P_21o (pq ++ [x20.body]).length P_21p (pq ++ [x20.body]) := hsl_P_21
      refine hK19 _ _ ?_; clear hK19
      refine rp0 hst11 hfr11 (.cons rfl (ob_move rfl) <| .cons rfl (ob_add rfl rfl ⟨by omega, by omega⟩) <| .cons rfl (ob_assign rfl) <| .nil) ?_
      intro a12 w12 m12 hst12 hle12 hk12
      have hfr12 := hk12.fr (T' := [(1, _), (3, _), (4, _), (5, _), (6, _), (7, _), (8, _)]) (.old rfl rfl <| .old rfl rfl <| .old rfl rfl <| .old rfl rfl <| .old rfl rfl <| .old rfl rfl <| .new rfl <| .nil)
      replace hsl_P_21 := hsl_P_21.mono hle12
      have hlh12 := hlh11.trans hle12
      clear hst11 hfr11 hk12
      exact ⟨(y + 1, P_21o, P_21p, (pq ++ [x20.body])), m12, by show t.arms.length - (y + 1) < t.arms.length - y; omega, ⟨hst12, hlh12, hfr12.sub (.cons rfl <| .cons rfl <| .cons rfl <| .cons rfl <| .cons rfl <| .cons rfl <| .cons rfl <| .nil), ⟨by show y + 1 ≤ t.arms.length; omega, hsl_P_21, by rw [hlen_pq, ht20]; simp⟩⟩⟩
    · try simp only [nq1, nq2, nq3, nq4, nq5, nq6, nq7, nq8, nq9, u8_eq] at hb35
      have hge : y = t.arms.length := by omega
      rw [List.take_of_length_le (by omega)] at hlen_pq
      have hfin : pq = partsC t := hlen_pq
      have hpn9 : pq.length = t.kids.length + t.arms.length := by rw [hfin, hpl9]
      refine wp_exit ?_
      refine hK14 _ _ ?_; clear hK14
      refine seq_any fun _ hK23 => ?_
      refine seq_any fun _ hK24 => ?_
      refine rp0 hst10 hfr10 (.cons rfl (ob_assign rfl) <| .nil) ?_
      intro a11 w11 m11 hst11 hle11 hk11
      have hfr11 := hk11.fr (T' := [(7, _), (8, _), (1, _), (3, _), (4, _), (5, _), (6, _), (9, _)]) (.old rfl rfl <| .old rfl rfl <| .old rfl rfl <| .old rfl rfl <| .old rfl rfl <| .old rfl rfl <| .old rfl rfl <| .new rfl <| .nil)
      replace h_t := h_t.mono hle11
      replace hc1 := hc1.mono hle11
      replace hsl_pq := hsl_pq.mono hle11
      have hlh11 := hlh10.trans hle11
      clear hst10 hfr10 hk11
      refine hK24 _ _ ?_; clear hK24
      refine wp_block ?_
      have hlq25 := hlh11
      refine loop_any (T := [(7, _), (8, _), (1, _), (3, _), (4, _), (5, _)]) (fun (y : Nat × Int) => ([(6, .int .i64 y.2), (9, .int .i64 (y.1 : Int))] : List (Nat × Value))) (fun _ => _) (fun (y : Nat × Int) m => (fun (y : Nat) (a : Int) => (y ≤ pq.length) ∧ (a = 1 + (((pq.take y).map sizeC).sum : Nat))) y.1 y.2) (fun y => pq.length - y.1) ((0, 1)) ⟨hst11, MLe.refl _, hfr11.sub (.cons rfl <| .cons rfl <| .cons rfl <| .cons rfl <| .cons rfl <| .cons rfl <| .cons rfl <| .cons rfl <| .nil), ⟨Nat.zero_le _, by simp⟩⟩ fun y a12 w12 m12 hh12 => ?_
      have hst12 := hh12.st; have hle12 := hh12.le; have hfr12 := hh12.fr; have hrel := hh12.rel; clear hh12
      replace h_t := h_t.mono hle12
      replace hc1 := hc1.mono hle12
      replace hsl_pq := hsl_pq.mono hle12
      clear hst11 hfr11
      obtain ⟨y, a⟩ := y
      dsimp only at hrel hfr12 hst12
      obtain ⟨hyn, ha⟩ := hrel
      have hlh12 := hle12
      refine seq_any fun _ hK26 => ?_
      refine seq_any fun _ hK27 => ?_
      refine rp0 hst12 hfr12 (.cons rfl (ob_move rfl) <| .cons rfl (ob_move rfl) <| .cons rfl (ob_len rfl Tryd.underlying22) <| .cons rfl (ob_lss rfl rfl) <| .nil) ?_
      intro a13 w13 m13 hst13 hle13 hk13
      have hfr13 := hk13.fr (T' := [(6, _), (9, _), (7, _), (8, _), (1, _), (3, _), (4, _), (5, _), (50, _)]) (.old rfl rfl <| .old rfl rfl <| .old rfl rfl <| .old rfl rfl <| .old rfl rfl <| .old rfl rfl <| .old rfl rfl <| .old rfl rfl <| .new rfl <| .nil)
      replace h_t := h_t.mono hle13
      replace hc1 := hc1.mono hle13
      replace hsl_pq := hsl_pq.mono hle13
      have hlh13 := hlh12.trans hle13
      clear hst12 hfr12 hk13
      refine hK27 _ _ ?_; clear hK27
      refine cond_any hfr13 rfl rfl (fun hb50 => ?_) (fun hb50 => ?_)
      · try simp only [nq1, nq2, nq3, nq4, nq5, nq6, nq7, nq8, nq9, u8_eq] at hb50
        refine wp_skip ?_
        refine hK26 _ _ ?_; clear hK26
        refine seq_any fun _ hK28 => ?_
        refine wp_block ?_
        refine seq_any fun _ hK29 => ?_
        obtain ⟨p30, vs30, x30, ho30, hd30, hm_x30, ht30, hcv30, hl30, hv30⟩ := hsl_pq.nth (k := y) (by omega)
        cases ho30
        obtain ⟨⟨oK30, cK30, oA30, cA30⟩, rfl, ⟨hik30, hin30⟩, hkk30, haa30⟩ := hv30.open_
        dsimp only at hkk30 haa30
        have hbg30 := hkk30.big; have hcp30 := hkk30.cap; have hbh30 := haa30.big; have hcq30 := haa30.cap
        have hpu9 : x30 ∈ partsC t := hfin ▸ hm_x30
        have hru9 := right_part hrt hpu9
        have hbu9 := bulk_part hpu9
        have hsu9 := sizeC_part hpu9
        have htu9 := (text_len x30).1
        have hwi9 := within_inf (inf_part hrt hpu9)
        have hsl9 : ((pq.take y).map sizeC).sum ≤ sizeC t := by have h1 := sum_take_le sizeC pq y; rw [hfin] at h1 ⊢; omega
        refine rp0 hst13 hfr13 (.cons rfl (ob_move rfl) <| .cons rfl (ob_move rfl) <| .cons rfl (ob_indexAddr (k := y) rfl rfl Tryd.underlying22 Tryd.sizeOf25 rfl (by omega)) <| .cons rfl (ob_loadS' rfl hcv30 Tryd.isAgg25 Tryd.sizeOf25 rfl rfl) <| .cons rfl (ob_callE rfl (.cons rfl <| .nil) Tryd.call17 (fun w m hK => by have hle_ := KC.le hK; have hA := KC.agree hK; have hT := tab_keep hT hK.st.ext; have hv30 := hv30.mono hle_; exact textF_c hA hv30 hT (by omega))) <| .cons rfl (ob_move rfl) <| .cons rfl (ob_extract rfl rfl) <| .cons rfl (ob_extract rfl rfl) <| .cons rfl (ob_assign rfl) <| .cons rfl (ob_assign rfl) <| .nil) ?_
        intro a14 w14 m14 hst14 hle14 hk14
        have hfr14 := hk14.fr (T' := [(6, _), (9, _), (7, _), (8, _), (1, _), (3, _), (4, _), (5, _), (10, _), (11, _)]) (.old rfl rfl <| .old rfl rfl <| .old rfl rfl <| .old rfl rfl <| .old rfl rfl <| .old rfl rfl <| .old rfl rfl <| .old rfl rfl <| .new rfl <| .new rfl <| .nil)
        replace hcv30 := hcv30.mono hle14
        replace hv30 := hv30.mono hle14
        have hlh14 := hlh13.trans hle14
        clear hst13 hfr13 hk14
        simp only [hru9, if_true] at hfr14
        refine hK29 _ _ ?_; clear hK29
        refine seq_any fun _ hK31 => ?_
        refine seq_any fun _ hK32 => ?_
        refine rp0 hst14 hfr14 (.cons rfl (ob_move rfl) <| .cons rfl (ob_move rfl) <| .cons rfl (ob_indexAddr (k := y) rfl rfl Tryd.underlying22 Tryd.sizeOf25 rfl (by omega)) <| .cons rfl (ob_loadS' rfl hcv30 Tryd.isAgg25 Tryd.sizeOf25 rfl rfl) <| .cons rfl (ob_callE rfl (.cons rfl <| .nil) Tryd.call12 (fun w m hK => by have hle_ := KC.le hK; have hA := KC.agree hK; have hv30 := hv30.mono hle_; exact right_c x30 hA hv30)) <| .cons rfl (ob_not rfl) <| .cons rfl (ob_move rfl) <| .cons rfl (ob_move rfl) <| .cons rfl (ob_neq rfl rfl) <| .cons rfl (ob_or rfl rfl rfl) <| .cons rfl (ob_move rfl) <| .cons rfl (ob_move rfl) <| .cons rfl (ob_move rfl) <| .cons rfl (ob_callE rfl (.cons rfl <| .cons rfl <| .nil) Tryd.call23 (fun w m hK => by have hle_ := KC.le hK; have hA := KC.agree hK; exact within_c hA (by omega) (by omega))) <| .cons rfl (ob_not rfl) <| .cons rfl (ob_or rfl rfl rfl) <| .nil) ?_
        intro a15 w15 m15 hst15 hle15 hk15
        have hfr15 := hk15.fr (T' := [(6, _), (9, _), (7, _), (8, _), (1, _), (3, _), (4, _), (5, _), (76, _)]) (.old rfl rfl <| .old rfl rfl <| .old rfl rfl <| .old rfl rfl <| .old rfl rfl <| .old rfl rfl <| .old rfl rfl <| .old rfl rfl <| .new rfl <| .nil)
        replace hcv30 := hcv30.mono hle15
        replace hv30 := hv30.mono hle15
        have hlh15 := hlh14.trans hle15
        clear hst14 hfr14 hk15
        refine hK32 _ _ ?_; clear hK32
        refine cond_any hfr15 rfl rfl (fun hb76 => ?_) (fun hb76 => ?_)
        · exact absurd hb76 (by rw [hru9, hwi9]; simp)
        · try simp only [nq1, nq2, nq3, nq4, nq5, nq6, nq7, nq8, nq9, u8_eq] at hb76
          refine wp_skip ?_
          refine hK31 _ _ ?_; clear hK31
          refine rp0 hst15 hfr15 (.cons rfl (ob_move rfl) <| .cons rfl (ob_move rfl) <| .cons rfl (ob_move rfl) <| .cons rfl (ob_indexAddr (k := y) rfl rfl Tryd.underlying22 Tryd.sizeOf25 rfl (by omega)) <| .cons rfl (ob_loadS' rfl hcv30 Tryd.isAgg25 Tryd.sizeOf25 rfl rfl) <| .cons rfl (ob_callE rfl (.cons rfl <| .nil) Tryd.call19 (fun w m hK => by have hle_ := KC.le hK; have hA := KC.agree hK; have hv30 := hv30.mono hle_; exact size_c x30 hA hv30 (by omega))) <| .cons rfl (ob_add rfl rfl ⟨by omega, by omega⟩) <| .cons rfl (ob_assign rfl) <| .nil) ?_
          intro a16 w16 m16 hst16 hle16 hk16
          have hfr16 := hk16.fr (T' := [(9, _), (7, _), (8, _), (1, _), (3, _), (4, _), (5, _), (6, _)]) (.old rfl rfl <| .old rfl rfl <| .old rfl rfl <| .old rfl rfl <| .old rfl rfl <| .old rfl rfl <| .old rfl rfl <| .new rfl <| .nil)
          have hlh16 := hlh15.trans hle16
          clear hst15 hfr15 hk16
          refine hK28 _ _ ?_; clear hK28
          refine rp0 hst16 hfr16 (.cons rfl (ob_move rfl) <| .cons rfl (ob_add rfl rfl ⟨by omega, by omega⟩) <| .cons rfl (ob_assign rfl) <| .nil) ?_
          intro a17 w17 m17 hst17 hle17 hk17
          have hfr17 := hk17.fr (T' := [(7, _), (8, _), (1, _), (3, _), (4, _), (5, _), (6, _), (9, _)]) (.old rfl rfl <| .old rfl rfl <| .old rfl rfl <| .old rfl rfl <| .old rfl rfl <| .old rfl rfl <| .old rfl rfl <| .new rfl <| .nil)
          have hlh17 := hlh16.trans hle17
          clear hst16 hfr16 hk17
          exact ⟨(y + 1, (a + (sizeC x30 : Int))), m17, by show pq.length - (y + 1) < pq.length - y; omega, ⟨hst17, hlh17, hfr17.sub (.cons rfl <| .cons rfl <| .cons rfl <| .cons rfl <| .cons rfl <| .cons rfl <| .cons rfl <| .cons rfl <| .nil), ⟨by show y + 1 ≤ pq.length; omega, by rw [ha, ht30, List.map_append, List.sum_append]; simp; omega⟩⟩⟩
      · try simp only [nq1, nq2, nq3, nq4, nq5, nq6, nq7, nq8, nq9, u8_eq] at hb50
        have hge : y = pq.length := by omega
        rw [List.take_of_length_le (by omega), hfin] at ha
        refine wp_exit ?_
        refine hK23 _ _ ?_; clear hK23
        refine seq_any fun _ hK33 => ?_
        refine rp0 hst13 hfr13 (.cons rfl (ob_move rfl) <| .cons rfl (ob_move rfl) <| .cons rfl (ob_move rfl) <| .cons rfl (ob_eql rfl rfl) <| .cons rfl (ob_and rfl rfl rfl) <| .cons rfl (ob_move rfl) <| .cons rfl (ob_loadS' rfl hc1 Tryd.isAgg25 Tryd.sizeOf25 rfl rfl) <| .cons rfl (ob_callE rfl (.cons rfl <| .nil) Tryd.call19 (fun w m hK => by have hle_ := KC.le hK; have hA := KC.agree hK; have h_t := h_t.mono hle_; exact size_c t hA h_t (by omega))) <| .cons rfl (ob_move rfl) <| .cons rfl (ob_eql rfl rfl) <| .cons rfl (ob_and rfl rfl rfl) <| .cons rfl (ob_assign rfl) <| .nil) ?_
        intro a14 w14 m14 hst14 hle14 hk14
        have hfr14 := hk14.fr (T' := [(6, _), (9, _), (7, _), (8, _), (2, _)]) (.old rfl rfl <| .old rfl rfl <| .old rfl rfl <| .old rfl rfl <| .new rfl <| .nil)
        have hlh14 := hlh13.trans hle14
        clear hst13 hfr13 hk14
        refine hK33 _ _ ?_; clear hK33
        refine wp_ret ?_
        repeat (with_reducible first | refine then_ret ?_ | refine block_ret ?_)
        exact fn_ret hst14 hfr14 rfl (.tmp rfl <| .nil) (by refine congrArg Value.bool ?_; simp; omega)

end Go.Proofs.YtlihpgjabohebaaDoor
