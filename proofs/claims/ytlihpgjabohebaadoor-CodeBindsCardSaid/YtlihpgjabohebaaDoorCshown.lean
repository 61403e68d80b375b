/-
  Code: Text, what must be in any case, how many pieces. Conditions: those of each theorem.
-/
import Derived.Test.YtlihpgjabohebaaDoorCtext1
namespace Go.Proofs.YtlihpgjabohebaaDoor
set_option linter.all false
set_option maxRecDepth 4000
open Go.RowKit
abbrev noY : CdY := ⟨none, 0, none, 0⟩
def varC (s : Str) : Cd := ⟨1, s, [], 0, [], []⟩
def intC (n : Int) : Cd := ⟨2, [], [], n, [], []⟩
def unitC : Cd := ⟨4, [], [], 0, [], []⟩
def nodeC (k : Int) (s p : Str) (l : List Cd) (az : List Ca) : Cd := ⟨k, s, p, 0, l, az⟩
theorem i0 : InI64 0 := ⟨by decide, by decide⟩
theorem var_R {m : Mem} (s : Str) : CdR m (varC s) (cdV (varC s) noY) := CdR.build ⟨by show -9223372036854775808 ≤ (1 : Int); decide, by show (1 : Int) ≤ 9223372036854775807; decide⟩ i0 Sl.empty Sl.empty
theorem unit_R {m : Mem} : CdR m unitC (cdV unitC noY) := CdR.build ⟨by show -9223372036854775808 ≤ (4 : Int); decide, by show (4 : Int) ≤ 9223372036854775807; decide⟩ i0 Sl.empty Sl.empty
theorem int_R {m : Mem} {n : Int} (hn : InI64 n) : CdR m (intC n) (cdV (intC n) noY) := CdR.build ⟨by show -9223372036854775808 ≤ (2 : Int); decide, by show (2 : Int) ≤ 9223372036854775807; decide⟩ hn Sl.empty Sl.empty
theorem zero_R {m : Mem} : CdR m ⟨0, [], [], 0, [], []⟩ (cdV ⟨0, [], [], 0, [], []⟩ noY) := CdR.build i0 i0 Sl.empty Sl.empty
theorem node1_R {m : Mem} {k : Int} {s p : Str} {t : Cd} {g : Nat} {vs : List Value} (hk : InI64 k) (hc : CellsAt m ⟨g, 0, none⟩ vs) (h : CdR m t vs) : CdR m (nodeC k s p [t] []) (cdV (nodeC k s p [t] []) ⟨some ⟨g, 0, none⟩, 1, none, 0⟩) :=
  CdR.build hk i0 (Sl.one (R := fun m vs t => CdR m t vs) hc h.len h) Sl.empty
theorem node2_R {m : Mem} {k : Int} {s p : Str} {t u : Cd} {g : Nat} {vs us : List Value} (hk : InI64 k) (hc : CellsAt m ⟨g, 0, none⟩ (vs ++ us)) (h : CdR m t vs) (h2 : CdR m u us) : CdR m (nodeC k s p [t, u] []) (cdV (nodeC k s p [t, u] []) ⟨some ⟨g, 0, none⟩, 2, none, 0⟩) :=
  CdR.build hk i0 (Sl.two (R := fun m vs t => CdR m t vs) hc h.len h2.len h h2) Sl.empty
def callS : Cd := nodeC 6 [] [] [varC [102], intC 1] []
def bindS : Cd := nodeC 8 [120] [] [callS, varC [120]] []
def badS : Cd := nodeC 6 [] [] [callS, callS] []
theorem right_bind : rightC bindS = true := by decide
theorem right_bad : rightC badS = false := by decide
theorem right_zero : rightC ⟨0, [], [], 0, [], []⟩ = false := by decide
theorem free_bind : freeP bindS = [[102]] := by
  have h : (freeMap bindS).map Prod.fst = [[102]] := by decide
  unfold freeP; rw [h]; exact List.perm_singleton.1 (sortS_perm _)
theorem size_bind : sizeC bindS = 5 := by decide
theorem itoa0 : Go.Lib.itoa 0 = [48] := by unfold Go.Lib.itoa; rw [if_neg (by omega), Go.Lib.decDigits]; rfl
theorem itoa1 : Go.Lib.itoa 1 = [49] := by unfold Go.Lib.itoa; rw [if_neg (by omega), Go.Lib.decDigits]; rfl
theorem bulk_bind : bulkC bindS ≤ 100000000 := by simp [bindS, callS, nodeC, varC, intC, bulkC, bulkKs, bulkAs, itoa0, itoa1]
theorem bulk_bad : bulkC badS ≤ 100000000 := by simp [badS, callS, nodeC, varC, intC, bulkC, bulkKs, bulkAs, itoa0, itoa1]
theorem text_bind : textC bindS = [98, 105, 110, 100, 32, 120, 32, 123, 32, 99, 97, 108, 108, 32, 102, 32, 49, 32, 125, 32, 123, 32, 120, 32, 125] := by
  simp [bindS, callS, nodeC, varC, intC, textC, kidsW, armsW, headW, fromC, joinW, Go.Lib.join, itoa1, Cd.kind]
set_option maxHeartbeats 400000 in
theorem textF_c {w : World} {m : Mem} {t : Cd} {vs_t : List Value} (hA : Agree w m) (h_t : CdR m t vs_t) (hT : Tab w) (hb : bulkC t ≤ 100000000) : FnV Tryd.prog 17 #[.agg vs_t.toArray] w m (fun _ _ v => v = .tuple #[S (if rightC t then textC t else []), .int .i64 (if rightC t then 0 else 1)]) := by
  obtain ⟨⟨oK_t, cK_t, oA_t, cA_t⟩, rfl, ⟨hik_t, hin_t⟩, hkk_t, haa_t⟩ := h_t.open_
  dsimp only at hkk_t haa_t
  have hbg_t := hkk_t.big; have hcp_t := hkk_t.cap; have hbh_t := haa_t.big; have hcq_t := haa_t.cap
  refine fn_enter (vs := [_]) Tryd.func17 rfl rfl rfl fun a0 hfr0 => ?_
  have hst0 := st_enter hA (loc_nil [] _ w m)
  have hM : MLe m m := MLe.refl m
  refine seq_any fun _ hK1 => ?_
  refine rp0 hst0 hfr0 (.cons rfl (ob_box rfl rfl) <| .cons rfl (ob_assign rfl) <| .cons rfl (ob_assign rfl) <| .nil) ?_
  intro a1 w1 m1 hst1 hle1 hk1
  have hfr1 := hk1.fr (T' := []) (.nil)
  obtain ⟨g2, e2, hc1⟩ := hk1.ex 1 rfl
  replace hfr1 := hfr1.cons e2
  replace h_t := h_t.mono hle1
  clear hst0 hfr0 hk1
  refine hK1 _ _ ?_; clear hK1
  refine seq_any fun _ hK3 => ?_
  refine seq_any fun _ hK4 => ?_
  refine rp0 hst1 hfr1 (.cons rfl (ob_loadS' rfl hc1 Tryd.isAgg25 Tryd.sizeOf25 rfl rfl) <| .cons rfl (ob_callE rfl (.cons rfl <| .nil) Tryd.call12 (fun w m hK => by have hle_ := KC.le hK; have hA := KC.agree hK; have h_t := h_t.mono hle_; exact right_c t hA h_t)) <| .cons rfl (ob_not rfl) <| .nil) ?_
  intro a2 w2 m2 hst2 hle2 hk2
  have hfr2 := hk2.fr (T' := [(1, _), (6, _)]) (.old rfl rfl <| .new rfl <| .nil)
  replace h_t := h_t.mono hle2
  replace hc1 := hc1.mono hle2
  clear hst1 hfr1 hk2
  refine hK4 _ _ ?_; clear hK4
  refine cond_any hfr2 rfl rfl (fun hb6 => ?_) (fun hb6 => ?_)
  · try simp only [nq1, nq2, nq3, nq4, nq5, nq6, nq7, nq8, nq9, u8_eq] at hb6
    refine seq_any fun _ hK5 => ?_
    refine rp0 hst2 hfr2 (.cons rfl (ob_assign rfl) <| .cons rfl (ob_assign rfl) <| .nil) ?_
    intro a3 w3 m3 hst3 hle3 hk3
    have hfr3 := hk3.fr (T' := [(2, _), (3, _)]) (.new rfl <| .new rfl <| .nil)
    clear hst2 hfr2 hk3
    refine hK5 _ _ ?_; clear hK5
    refine wp_ret ?_
    repeat (with_reducible first | refine then_ret ?_ | refine block_ret ?_)
    exact fn_ret hst3 hfr3 rfl (.tmp rfl <| .tmp rfl <| .nil) (by rw [hb6]; rfl)
  · try simp only [nq1, nq2, nq3, nq4, nq5, nq6, nq7, nq8, nq9, u8_eq] at hb6
    refine wp_skip ?_
    refine hK3 _ _ ?_; clear hK3
    refine seq_any fun _ hK7 => ?_
    refine rp0 hst2 hfr2 (.cons rfl (ob_loadS' rfl hc1 Tryd.isAgg25 Tryd.sizeOf25 rfl rfl) <| .cons rfl (ob_callE rfl (.cons rfl <| .nil) Tryd.call36 (fun w m hK => by have hle_ := KC.le hK; have hA := KC.agree hK; have hT := tab_keep hT hK.st.ext; have h_t := h_t.mono hle_; exact text_c t hA h_t hT hb)) <| .cons rfl (ob_assign rfl) <| .cons rfl (ob_assign rfl) <| .nil) ?_
    intro a3 w3 m3 hst3 hle3 hk3
    have hfr3 := hk3.fr (T' := [(2, _), (3, _)]) (.new rfl <| .new rfl <| .nil)
    clear hst2 hfr2 hk3
    refine hK7 _ _ ?_; clear hK7
    refine wp_ret ?_
    repeat (with_reducible first | refine then_ret ?_ | refine block_ret ?_)
    exact fn_ret hst3 hfr3 rfl (.tmp rfl <| .tmp rfl <| .nil) (by rw [hb6]; rfl)

set_option maxHeartbeats 400000 in
theorem variable_c {w : World} {m : Mem} {s : Str} (hA : Agree w m)  : FnV Tryd.prog 14 #[S s] w m (fun _ _ v => v = .agg (cdV (varC s) noY).toArray) := by
  refine fn_enter (vs := [_]) Tryd.func14 rfl rfl rfl fun a0 hfr0 => ?_
  have hst0 := st_enter hA (loc_nil [] _ w m)
  have hM : MLe m m := MLe.refl m
  refine seq_any fun _ hK1 => ?_
  replace hst0 := hst0.more (r := .free) trivial List.nodup_nil (by simp [Res.blocks])
  refine ra0 (tch := [(0, 0, (fun v => .blk v _))]) hst0 hfr0 (.consT rfl rfl (fun _ => rfl) rfl (ob_allocL Tryd.zeroValue25 rfl) <| .nil) ?_
  intro a1 w1 m1 hst1 hle1 hk1
  have hfr1 := hk1.fr (T' := [(0, _)]) (.old rfl rfl <| .nil)
  obtain ⟨g2, e2, _⟩ := hk1.ex 2 rfl
  replace hfr1 := hfr1.cons e2
  replace hst1 := hst1.fin (L' := [_]) (.cons e2 <| .nil)
  clear hst0 hfr0 hk1
  refine hK1 _ _ ?_; clear hK1
  refine seq_any fun _ hK3 => ?_
  refine ra0 (tch := [(2, 0, (fun _ => .blk _ _))]) hst1 hfr1 (.cons rfl (ob_move rfl) <| .cons rfl (ob_buildS (.cons rfl <| .cons rfl <| .nil) Tryd.underlying25 Tryd.zeroValue25 (.cons Tryd.sizeOf3 <| .cons Tryd.sizeOf9 <| .cons Tryd.sizeOf9 <| .cons Tryd.sizeOf3 <| .cons Tryd.sizeOf22 <| .cons Tryd.sizeOf23 <| .nil) rfl) <| .consT rfl rfl (fun _ => rfl) rfl (ob_store' rfl rfl rfl Tryd.sizeOf25 rfl rfl rfl) <| .nil) ?_
  intro a2 w2 m2 hst2 hle2 hk2
  have hfr2 := hk2.fr (T' := [(2, _)]) (.old rfl rfl <| .nil)
  replace hst2 := hst2.fin (L' := [_]) (.cons rfl <| .nil)
  try simp only [List.take_succ_cons, List.take_zero, List.drop_succ_cons, List.drop_zero, List.cons_append, List.nil_append, List.append_nil, List.length_cons, List.length_nil, Nat.zero_add, Nat.reduceAdd] at hst2
  clear hst1 hfr1 hk2
  refine hK3 _ _ ?_; clear hK3
  refine wp_ret ?_
  repeat (with_reducible first | refine then_ret ?_ | refine block_ret ?_)
  exact fn_ret hst2 hfr2 rfl (.cell rfl (load_blk (blk_heap (hst2.loc.at_ (k := 0) rfl)) Tryd.isAgg25 Tryd.sizeOf25) <| .nil) (rfl)

set_option maxHeartbeats 400000 in
theorem has_c {w : World} {m : Mem} {o_l : Option Addr} {c_l : Nat} {l : List Str} {s : Str} (hA : Agree w m) (h_l : Strs m o_l l.length c_l l) : FnV Tryd.prog 15 #[.slice o_l l.length c_l, S s] w m (fun _ _ v => v = .bool (decide (s ∈ l))) := by
  have hb_l := h_l.big; have hc_l := h_l.cap
  refine fn_enter (vs := [_, _]) Tryd.func15 rfl rfl rfl fun a0 hfr0 => ?_
  have hst0 := st_enter hA (loc_nil [] _ w m)
  have hM : MLe m m := MLe.refl m
  refine seq_any fun _ hK1 => ?_
  refine rp0 hst0 hfr0 (.cons rfl (ob_assign rfl) <| .nil) ?_
  intro a1 w1 m1 hst1 hle1 hk1
  have hfr1 := hk1.fr (T' := [(0, _), (1, _)]) (.old rfl rfl <| .old rfl rfl <| .nil)
  replace h_l := h_l.mono hle1
  clear hst0 hfr0 hk1
  refine hK1 _ _ ?_; clear hK1
  refine seq_any fun _ hK2 => ?_
  refine seq_any fun _ hK3 => ?_
  refine rp0 hst1 hfr1 (.cons rfl (ob_assign rfl) <| .nil) ?_
  intro a2 w2 m2 hst2 hle2 hk2
  have hfr2 := hk2.fr (T' := [(0, _), (1, _), (5, _)]) (.old rfl rfl <| .old rfl rfl <| .new rfl <| .nil)
  replace h_l := h_l.mono hle2
  clear hst1 hfr1 hk2
  refine hK3 _ _ ?_; clear hK3
  refine wp_block ?_
  refine loop_any (T := [(0, _), (1, _)]) (fun (y : Nat) => ([(5, .int .i64 (y : Int))] : List (Nat × Value))) (fun _ => _) (fun (y : Nat) m => (y ≤ l.length) ∧ ((s ∈ l) = (s ∈ l.drop y))) (fun y => l.length - y) (0) ⟨hst2, MLe.refl _, hfr2.sub (.cons rfl <| .cons rfl <| .cons rfl <| .nil), ⟨Nat.zero_le _, rfl⟩⟩ fun y a3 w3 m3 hh3 => ?_
  have hst3 := hh3.st; have hle3 := hh3.le; have hfr3 := hh3.fr; have hrel := hh3.rel; clear hh3
  replace h_l := h_l.mono hle3
  clear hst2 hfr2
  obtain ⟨hyn, hrem⟩ := hrel
  have hlh3 := hle3
  refine seq_any fun _ hK5 => ?_
  refine seq_any fun _ hK6 => ?_
  refine rp0 hst3 hfr3 (.cons rfl (ob_move rfl) <| .cons rfl (ob_move rfl) <| .cons rfl (ob_len rfl Tryd.underlying29) <| .cons rfl (ob_lss rfl rfl) <| .nil) ?_
  intro a4 w4 m4 hst4 hle4 hk4
  have hfr4 := hk4.fr (T' := [(5, _), (0, _), (1, _), (9, _)]) (.old rfl rfl <| .old rfl rfl <| .old rfl rfl <| .new rfl <| .nil)
  replace h_l := h_l.mono hle4
  have hlh4 := hlh3.trans hle4
  clear hst3 hfr3 hk4
  refine hK6 _ _ ?_; clear hK6
  refine cond_any hfr4 rfl rfl (fun hb9 => ?_) (fun hb9 => ?_)
  · try simp only [nq1, nq2, nq3, nq4, nq5, nq6, nq7, nq8, nq9, u8_eq] at hb9
    refine wp_skip ?_
    refine hK5 _ _ ?_; clear hK5
    refine seq_any fun _ hK7 => ?_
    refine wp_block ?_
    refine seq_any fun _ hK8 => ?_
    obtain ⟨p9, vs9, x9, ho9, hd9, hm_x9, ht9, hcv9, hl9, hv9⟩ := h_l.nth (k := y) (by omega)
    cases ho9
    subst hv9
    try rw [hd9] at hrem
    try simp only [List.mem_cons] at hrem
    refine rp0 hst4 hfr4 (.cons rfl (ob_move rfl) <| .cons rfl (ob_move rfl) <| .cons rfl (ob_indexAddr (k := y) rfl rfl Tryd.underlying29 Tryd.sizeOf9 rfl (by omega)) <| .cons rfl (ob_load1' rfl hcv9 Tryd.isAgg9 rfl) <| .cons rfl (ob_move rfl) <| .cons rfl (ob_seql rfl rfl) <| .nil) ?_
    intro a5 w5 m5 hst5 hle5 hk5
    have hfr5 := hk5.fr (T' := [(5, _), (0, _), (1, _), (17, _)]) (.old rfl rfl <| .old rfl rfl <| .old rfl rfl <| .new rfl <| .nil)
    have hlh5 := hlh4.trans hle5
    clear hst4 hfr4 hk5
    refine hK8 _ _ ?_; clear hK8
    refine cond_any hfr5 rfl rfl (fun hb17 => ?_) (fun hb17 => ?_)
    · try simp only [nq1, nq2, nq3, nq4, nq5, nq6, nq7, nq8, nq9, u8_eq] at hb17
      have hr : decide (s ∈ l) = true := decide_eq_true (by rw [hrem]; exact .inl hb17.symm)
      refine seq_any fun _ hK10 => ?_
      refine rp0 hst5 hfr5 (.cons rfl (ob_assign rfl) <| .nil) ?_
      intro a6 w6 m6 hst6 hle6 hk6
      have hfr6 := hk6.fr (T' := [(5, _), (4, _)]) (.old rfl rfl <| .new rfl <| .nil)
      have hlh6 := hlh5.trans hle6
      clear hst5 hfr5 hk6
      refine hK10 _ _ ?_; clear hK10
      refine wp_ret ?_
      repeat (with_reducible first | refine then_ret ?_ | refine block_ret ?_)
      exact fn_ret hst6 hfr6 rfl (.tmp rfl <| .nil) (by rw [hr]; rfl)
    · try simp only [nq1, nq2, nq3, nq4, nq5, nq6, nq7, nq8, nq9, u8_eq] at hb17
      refine wp_skip ?_
      refine hK7 _ _ ?_; clear hK7
      refine rp0 hst5 hfr5 (.cons rfl (ob_move rfl) <| .cons rfl (ob_add rfl rfl ⟨by omega, by omega⟩) <| .cons rfl (ob_assign rfl) <| .nil) ?_
      intro a6 w6 m6 hst6 hle6 hk6
      have hfr6 := hk6.fr (T' := [(0, _), (1, _), (5, _)]) (.old rfl rfl <| .old rfl rfl <| .new rfl <| .nil)
      have hlh6 := hlh5.trans hle6
      clear hst5 hfr5 hk6
      exact ⟨y + 1, m6, by show l.length - (y + 1) < l.length - y; omega, ⟨hst6, hlh6, hfr6.sub (.cons rfl <| .cons rfl <| .cons rfl <| .nil), ⟨by show y + 1 ≤ l.length; omega, by rw [hrem]; simp only [eq_iff_iff]; exact ⟨fun h => h.resolve_left (Ne.symm hb17), .inr⟩⟩⟩⟩
  · try simp only [nq1, nq2, nq3, nq4, nq5, nq6, nq7, nq8, nq9, u8_eq] at hb9
    have hge : y = l.length := by omega
    rw [List.drop_of_length_le (by omega)] at hrem
    refine wp_exit ?_
    refine hK2 _ _ ?_; clear hK2
    refine seq_any fun _ hK12 => ?_
    refine rp0 hst4 hfr4 (.cons rfl (ob_assign rfl) <| .nil) ?_
    intro a5 w5 m5 hst5 hle5 hk5
    have hfr5 := hk5.fr (T' := [(5, _), (4, _)]) (.old rfl rfl <| .new rfl <| .nil)
    have hlh5 := hlh4.trans hle5
    clear hst4 hfr4 hk5
    refine hK12 _ _ ?_; clear hK12
    refine wp_ret ?_
    repeat (with_reducible first | refine then_ret ?_ | refine block_ret ?_)
    exact fn_ret hst5 hfr5 rfl (.tmp rfl <| .nil) (by rw [decide_eq_false (by rw [hrem]; simp)]; rfl)

abbrev count_G (t : Cd) : Prop := ∀ {w : World} {m : Mem} {vs_t : List Value} (hA : Agree w m) (h_t : CdR m t vs_t), FnV Tryd.prog 11 #[.agg vs_t.toArray] w m (fun _ _ v => v = .int .i64 ((min (cntC t) 2001 : Nat) : Int))
set_option maxHeartbeats 800000 in
theorem count_s {t : Cd} (ihk : ∀ u ∈ t.kids, count_G u) (iha : ∀ a ∈ t.arms, count_G a.body) {w : World} {m : Mem} {vs_t : List Value} (hA : Agree w m) (h_t : CdR m t vs_t) : FnV Tryd.prog 11 #[.agg vs_t.toArray] w m (fun _ _ v => v = .int .i64 ((min (cntC t) 2001 : Nat) : Int)) := by
  obtain ⟨⟨oK_t, cK_t, oA_t, cA_t⟩, rfl, ⟨hik_t, hin_t⟩, hkk_t, haa_t⟩ := h_t.open_
  dsimp only at hkk_t haa_t
  have hbg_t := hkk_t.big; have hcp_t := hkk_t.cap; have hbh_t := haa_t.big; have hcq_t := haa_t.cap
  refine fn_enter (vs := [_]) Tryd.func11 rfl rfl rfl fun a0 hfr0 => ?_
  have hst0 := st_enter hA (loc_nil [] _ w m)
  have hM : MLe m m := MLe.refl m
  have hce := cntC_eq t
  refine seq_any fun _ hK1 => ?_
  refine rp0 hst0 hfr0 (.cons rfl (ob_box rfl rfl) <| .cons rfl (ob_assign rfl) <| .nil) ?_
  intro a1 w1 m1 hst1 hle1 hk1
  have hfr1 := hk1.fr (T' := []) (.nil)
  obtain ⟨g2, e2, hc1⟩ := hk1.ex 1 rfl
  replace hfr1 := hfr1.cons e2
  replace h_t := h_t.mono hle1
  replace hkk_t := hkk_t.mono hle1
  replace haa_t := haa_t.mono hle1
  clear hst0 hfr0 hk1
  refine hK1 _ _ ?_; clear hK1
  refine seq_any fun _ hK3 => ?_
  refine rp0 hst1 hfr1 (.cons rfl (ob_assign rfl) <| .nil) ?_
  intro a2 w2 m2 hst2 hle2 hk2
  have hfr2 := hk2.fr (T' := [(1, _), (3, _)]) (.old rfl rfl <| .new rfl <| .nil)
  replace h_t := h_t.mono hle2
  replace hkk_t := hkk_t.mono hle2
  replace haa_t := haa_t.mono hle2
  replace hc1 := hc1.mono hle2
  clear hst1 hfr1 hk2
  refine hK3 _ _ ?_; clear hK3
  refine seq_any fun _ hK4 => ?_
  refine seq_any fun _ hK5 => ?_
  refine rp0 hst2 hfr2 (.cons rfl (ob_assign rfl) <| .nil) ?_
  intro a3 w3 m3 hst3 hle3 hk3
  have hfr3 := hk3.fr (T' := [(1, _), (3, _), (4, _)]) (.old rfl rfl <| .old rfl rfl <| .new rfl <| .nil)
  replace h_t := h_t.mono hle3
  replace hkk_t := hkk_t.mono hle3
  replace haa_t := haa_t.mono hle3
  replace hc1 := hc1.mono hle3
  clear hst2 hfr2 hk3
  refine hK5 _ _ ?_; clear hK5
  refine wp_block ?_
  refine loop_any (T := [(1, _)]) (fun (y : Nat × Int) => ([(3, .int .i64 y.2), (4, .int .i64 (y.1 : Int))] : List (Nat × Value))) (fun _ => _) (fun (y : Nat × Int) m => (fun (y : Nat) (a : Int) => (y ≤ t.kids.length) ∧ ((a ≤ 2000 ∧ a + cntKs (t.kids.drop y) = ((1 + cntKs t.kids : Nat) : Int)) ∨ (2000 < a ∧ 2000 < 1 + cntKs t.kids)) ∧ (1 ≤ a ∧ a ≤ 4001)) y.1 y.2) (fun y => t.kids.length - y.1) ((0, 1)) ⟨hst3, MLe.refl _, hfr3.sub (.cons rfl <| .cons rfl <| .cons rfl <| .nil), ⟨Nat.zero_le _, .inl ⟨by omega, by rw [List.drop_zero]; omega⟩, ⟨by omega, by omega⟩⟩⟩ fun y a4 w4 m4 hh4 => ?_
  have hst4 := hh4.st; have hle4 := hh4.le; have hfr4 := hh4.fr; have hrel := hh4.rel; clear hh4
  replace h_t := h_t.mono hle4
  replace hkk_t := hkk_t.mono hle4
  replace haa_t := haa_t.mono hle4
  replace hc1 := hc1.mono hle4
  clear hst3 hfr3
  obtain ⟨y, a⟩ := y
  dsimp only at hrel hfr4 hst4
  obtain ⟨hyn, hj, hj2⟩ := hrel
  have hlh4 := hle4
  refine seq_any fun _ hK7 => ?_
  refine seq_any fun _ hK8 => ?_
  refine rp0 hst4 hfr4 (.cons rfl (ob_move rfl) <| .cons rfl (ob_fieldAddrO (off := 4) rfl Tryd.underlying25 rfl rfl Tryd.sizeOf22 rfl) <| .cons rfl (ob_load1 rfl hc1 Tryd.isAgg22 rfl) <| .cons rfl (ob_len rfl Tryd.underlying22) <| .cons rfl (ob_lss rfl rfl) <| .cons rfl (ob_move rfl) <| .cons rfl (ob_move rfl) <| .cons rfl (ob_leq rfl rfl) <| .cons rfl (ob_and rfl rfl rfl) <| .nil) ?_
  intro a5 w5 m5 hst5 hle5 hk5
  have hfr5 := hk5.fr (T' := [(3, _), (4, _), (1, _), (14, _)]) (.old rfl rfl <| .old rfl rfl <| .old rfl rfl <| .new rfl <| .nil)
  replace h_t := h_t.mono hle5
  replace hkk_t := hkk_t.mono hle5
  replace haa_t := haa_t.mono hle5
  replace hc1 := hc1.mono hle5
  have hlh5 := hlh4.trans hle5
  clear hst4 hfr4 hk5
  refine hK8 _ _ ?_; clear hK8
  refine cond_any hfr5 rfl rfl (fun hb14 => ?_) (fun hb14 => ?_)
  · try simp only [nq1, nq2, nq3, nq4, nq5, nq6, nq7, nq8, nq9, u8_eq] at hb14
    refine wp_skip ?_
    refine hK7 _ _ ?_; clear hK7
    refine seq_any fun _ hK9 => ?_
    refine wp_block ?_
    obtain ⟨p10, vs10, x10, ho10, hd10, hm_x10, ht10, hcv10, hl10, hv10⟩ := hkk_t.nth (k := y) (by omega)
    cases ho10
    obtain ⟨⟨oK10, cK10, oA10, cA10⟩, rfl, ⟨hik10, hin10⟩, hkk10, haa10⟩ := hv10.open_
    dsimp only at hkk10 haa10
    have hbg10 := hkk10.big; have hcp10 := hkk10.cap; have hbh10 := haa10.big; have hcq10 := haa10.cap
    rw [hd10, cntKs] at hj
    refine rp0 hst5 hfr5 (.cons rfl (ob_move rfl) <| .cons rfl (ob_fieldAddrO (off := 4) rfl Tryd.underlying25 rfl rfl Tryd.sizeOf22 rfl) <| .cons rfl (ob_load1 rfl hc1 Tryd.isAgg22 rfl) <| .cons rfl (ob_move rfl) <| .cons rfl (ob_indexAddr (k := y) rfl rfl Tryd.underlying22 Tryd.sizeOf25 rfl (by omega)) <| .cons rfl (ob_loadS' rfl hcv10 Tryd.isAgg25 Tryd.sizeOf25 rfl rfl) <| .cons rfl (ob_callE rfl (.cons rfl <| .nil) Tryd.call11 (fun w m hK => by have hle_ := KC.le hK; have hA := KC.agree hK; have h_t := h_t.mono hle_; have hkk_t := hkk_t.mono hle_; have haa_t := haa_t.mono hle_; have hc1 := hc1.mono hle_; have hcv10 := hcv10.mono hle_; have hv10 := hv10.mono hle_; have hkk10 := hkk10.mono hle_; have haa10 := haa10.mono hle_; exact ihk x10 (by assumption) hA hv10)) <| .cons rfl (ob_add rfl rfl ⟨by omega, by omega⟩) <| .cons rfl (ob_assign rfl) <| .nil) ?_
    intro a6 w6 m6 hst6 hle6 hk6
    have hfr6 := hk6.fr (T' := [(4, _), (1, _), (3, _)]) (.old rfl rfl <| .old rfl rfl <| .new rfl <| .nil)
    have hlh6 := hlh5.trans hle6
    clear hst5 hfr5 hk6
    refine hK9 _ _ ?_; clear hK9
    refine rp0 hst6 hfr6 (.cons rfl (ob_move rfl) <| .cons rfl (ob_add rfl rfl ⟨by omega, by omega⟩) <| .cons rfl (ob_assign rfl) <| .nil) ?_
    intro a7 w7 m7 hst7 hle7 hk7
    have hfr7 := hk7.fr (T' := [(1, _), (3, _), (4, _)]) (.old rfl rfl <| .old rfl rfl <| .new rfl <| .nil)
    have hlh7 := hlh6.trans hle7
    clear hst6 hfr6 hk7
    exact ⟨(y + 1, (a + ((min (cntC x10) 2001 : Nat) : Int))), m7, by show t.kids.length - (y + 1) < t.kids.length - y; omega, ⟨hst7, hlh7, hfr7.sub (.cons rfl <| .cons rfl <| .cons rfl <| .nil), ⟨by show y + 1 ≤ t.kids.length; omega, by show (a + ((min (cntC x10) 2001 : Nat) : Int) ≤ 2000 ∧ a + ((min (cntC x10) 2001 : Nat) : Int) + (cntKs (t.kids.drop (y + 1)) : Int) = _) ∨ (2000 < a + ((min (cntC x10) 2001 : Nat) : Int) ∧ _); have hm9 := cntKs_mem hm_x10; omega, by show 1 ≤ a + ((min (cntC x10) 2001 : Nat) : Int) ∧ a + ((min (cntC x10) 2001 : Nat) : Int) ≤ 4001; omega⟩⟩⟩
  · try simp only [nq1, nq2, nq3, nq4, nq5, nq6, nq7, nq8, nq9, u8_eq] at hb14
    have hd9 : y = t.kids.length → cntKs (t.kids.drop y) = 0 := fun h => by rw [List.drop_of_length_le (by omega), cntKs]
    have hx9 : (a ≤ 2000 ∧ a = ((1 + cntKs t.kids : Nat) : Int)) ∨ (2000 < a ∧ 2000 < 1 + cntKs t.kids) := by rcases hj with hj | hj; (rcases Nat.lt_or_ge y t.kids.length with h | h; exact .inl ⟨hj.1, by omega⟩; exact .inl ⟨hj.1, by have := hd9 (by omega); omega⟩); exact .inr hj
    clear hj
    refine wp_exit ?_
    refine hK4 _ _ ?_; clear hK4
    refine seq_any fun _ hK11 => ?_
    refine seq_any fun _ hK12 => ?_
    refine rp0 hst5 hfr5 (.cons rfl (ob_assign rfl) <| .nil) ?_
    intro a6 w6 m6 hst6 hle6 hk6
    have hfr6 := hk6.fr (T' := [(3, _), (4, _), (1, _), (5, _)]) (.old rfl rfl <| .old rfl rfl <| .old rfl rfl <| .new rfl <| .nil)
    replace h_t := h_t.mono hle6
    replace hkk_t := hkk_t.mono hle6
    replace haa_t := haa_t.mono hle6
    replace hc1 := hc1.mono hle6
    have hlh6 := hlh5.trans hle6
    clear hst5 hfr5 hk6
    refine hK12 _ _ ?_; clear hK12
    refine wp_block ?_
    have hlq13 := hlh6
    refine loop_any (T := [(4, _), (1, _)]) (fun (y : Nat × Int) => ([(3, .int .i64 y.2), (5, .int .i64 (y.1 : Int))] : List (Nat × Value))) (fun _ => _) (fun (y : Nat × Int) m => (fun (y : Nat) (b : Int) => (y ≤ t.arms.length) ∧ ((b ≤ 2000 ∧ b + cntAs (t.arms.drop y) = (cntC t : Int)) ∨ (2000 < b ∧ 2000 < cntC t)) ∧ (1 ≤ b ∧ b ≤ 6001)) y.1 y.2) (fun y => t.arms.length - y.1) ((0, a)) ⟨hst6, MLe.refl _, hfr6.sub (.cons rfl <| .cons rfl <| .cons rfl <| .cons rfl <| .nil), ⟨Nat.zero_le _, by rw [List.drop_zero, hce]; omega, ⟨by omega, by omega⟩⟩⟩ fun y a7 w7 m7 hh7 => ?_
    have hst7 := hh7.st; have hle7 := hh7.le; have hfr7 := hh7.fr; have hrel := hh7.rel; clear hh7
    replace h_t := h_t.mono hle7
    replace hkk_t := hkk_t.mono hle7
    replace haa_t := haa_t.mono hle7
    replace hc1 := hc1.mono hle7
    clear hst6 hfr6
    obtain ⟨y, b⟩ := y
    dsimp only at hrel hfr7 hst7
    obtain ⟨hyn, hj, hj3⟩ := hrel
    have hlh7 := hle7
    refine seq_any fun _ hK14 => ?_
    refine seq_any fun _ hK15 => ?_
    refine rp0 hst7 hfr7 (.cons rfl (ob_move rfl) <| .cons rfl (ob_fieldAddrO (off := 5) rfl Tryd.underlying25 rfl rfl Tryd.sizeOf23 rfl) <| .cons rfl (ob_load1 rfl hc1 Tryd.isAgg23 rfl) <| .cons rfl (ob_len rfl Tryd.underlying23) <| .cons rfl (ob_lss rfl rfl) <| .cons rfl (ob_move rfl) <| .cons rfl (ob_move rfl) <| .cons rfl (ob_leq rfl rfl) <| .cons rfl (ob_and rfl rfl rfl) <| .nil) ?_
    intro a8 w8 m8 hst8 hle8 hk8
    have hfr8 := hk8.fr (T' := [(3, _), (5, _), (4, _), (1, _), (33, _)]) (.old rfl rfl <| .old rfl rfl <| .old rfl rfl <| .old rfl rfl <| .new rfl <| .nil)
    replace h_t := h_t.mono hle8
    replace hkk_t := hkk_t.mono hle8
    replace haa_t := haa_t.mono hle8
    replace hc1 := hc1.mono hle8
    have hlh8 := hlh7.trans hle8
    clear hst7 hfr7 hk8
    refine hK15 _ _ ?_; clear hK15
    refine cond_any hfr8 rfl rfl (fun hb33 => ?_) (fun hb33 => ?_)
    · try simp only [nq1, nq2, nq3, nq4, nq5, nq6, nq7, nq8, nq9, u8_eq] at hb33
      refine wp_skip ?_
      refine hK14 _ _ ?_; clear hK14
      refine seq_any fun _ hK16 => ?_
      refine wp_block ?_
      obtain ⟨p17, vs17, x17, ho17, hd17, hm_x17, ht17, hcv17, hl17, hv17⟩ := haa_t.nth (k := y) (by omega)
      cases ho17
      obtain ⟨oV17, cV17, bs17, rfl, hva17, hbd17⟩ := hv17.open_
      have hbv17 := hva17.big; have hcv17_ := hva17.cap
      obtain ⟨⟨oK17b, cK17b, oA17b, cA17b⟩, rfl, ⟨hik17b, hin17b⟩, hkk17b, haa17b⟩ := hbd17.open_
      dsimp only at hkk17b haa17b
      have hbg17b := hkk17b.big; have hcp17b := hkk17b.cap; have hbh17b := haa17b.big; have hcq17b := haa17b.cap
      rw [hd17, cntAs_cons] at hj
      refine region_plain (fun _ => mixed) hst8 hfr8 (by kernel_rfl) (by kernel_rfl) (.cons rfl (ob_move rfl) <| .cons rfl (ob_fieldAddrO (off := 5) rfl Tryd.underlying25 rfl rfl Tryd.sizeOf23 rfl) <| .cons rfl (ob_load1 rfl hc1 Tryd.isAgg23 rfl) <| .cons rfl (ob_move rfl) <| .cons rfl (ob_indexAddr (k := y) rfl rfl Tryd.underlying23 Tryd.sizeOf35 rfl (by omega)) <| .cons rfl (ob_fieldAddrO (off := 1) rfl Tryd.underlying35 rfl rfl Tryd.sizeOf29 rfl) <| .cons rfl (ob_load1 rfl hcv17 Tryd.isAgg29 rfl) <| .cons rfl (ob_len rfl Tryd.underlying29) <| .cons rfl (ob_min2 rfl rfl) <| .cons rfl (ob_add rfl rfl ⟨by omega, by omega⟩) <| .cons rfl (ob_fieldAddrO (off := 5) rfl Tryd.underlying25 rfl rfl Tryd.sizeOf23 rfl) <| .cons rfl (ob_load1 rfl hc1 Tryd.isAgg23 rfl) <| .cons rfl (ob_move rfl) <| .cons rfl (ob_indexAddr (k := y) rfl rfl Tryd.underlying23 Tryd.sizeOf35 rfl (by omega)) <| .cons rfl (ob_fieldAddrO (off := 3) rfl Tryd.underlying35 rfl rfl Tryd.sizeOf25 rfl) <| .cons rfl (ob_loadS rfl hcv17 Tryd.isAgg25 Tryd.sizeOf25 rfl rfl) <| .cons rfl (ob_callE rfl (.cons rfl <| .nil) Tryd.call11 (fun w m hK => by have hle_ := KC.le hK; have hA := KC.agree hK; have h_t := h_t.mono hle_; have hkk_t := hkk_t.mono hle_; have haa_t := haa_t.mono hle_; have hc1 := hc1.mono hle_; have hcv17 := hcv17.mono hle_; have hv17 := hv17.mono hle_; have hva17 := hva17.mono hle_; have hbd17 := hbd17.mono hle_; have hkk17b := hkk17b.mono hle_; have haa17b := haa17b.mono hle_; exact iha x17 (by assumption) hA hbd17)) <| .cons rfl (ob_add rfl rfl ⟨by omega, by omega⟩) <| .cons rfl (ob_assign rfl) <| .nil) ?_
      intro a9 w9 m9 hst9 hle9 hk9
      have hfr9 := hk9.fr (T' := [(5, _), (4, _), (1, _), (3, _)]) (.old rfl rfl <| .old rfl rfl <| .old rfl rfl <| .new rfl <| .nil)
      have hlh9 := hlh8.trans hle9
      clear hst8 hfr8 hk9
      rw [show (if (2000 : Int) < (x17.vars.length : Int) then (2000 : Int) else (x17.vars.length : Int)) = ((min x17.vars.length 2000 : Nat) : Int) by split <;> omega] at hfr9
      refine hK16 _ _ ?_; clear hK16
      refine rp0 hst9 hfr9 (.cons rfl (ob_move rfl) <| .cons rfl (ob_add rfl rfl ⟨by omega, by omega⟩) <| .cons rfl (ob_assign rfl) <| .nil) ?_
      intro a10 w10 m10 hst10 hle10 hk10
      have hfr10 := hk10.fr (T' := [(4, _), (1, _), (3, _), (5, _)]) (.old rfl rfl <| .old rfl rfl <| .old rfl rfl <| .new rfl <| .nil)
      have hlh10 := hlh9.trans hle10
      clear hst9 hfr9 hk10
      exact ⟨(y + 1, (b + ((min x17.vars.length 2000 : Nat) : Int) + ((min (cntC x17.body) 2001 : Nat) : Int))), m10, by show t.arms.length - (y + 1) < t.arms.length - y; omega, ⟨hst10, hlh10, hfr10.sub (.cons rfl <| .cons rfl <| .cons rfl <| .cons rfl <| .nil), ⟨by show y + 1 ≤ t.arms.length; omega, by have hm9 := cntAs_mem hm_x17; dsimp only; omega, by dsimp only; omega⟩⟩⟩
    · try simp only [nq1, nq2, nq3, nq4, nq5, nq6, nq7, nq8, nq9, u8_eq] at hb33
      have hd9 : y = t.arms.length → cntAs (t.arms.drop y) = 0 := fun h => by rw [List.drop_of_length_le (by omega), cntAs]
      have hx8 : (b ≤ 2000 ∧ b = (cntC t : Int)) ∨ (2000 < b ∧ 2000 < cntC t) := by rcases hj with hj | hj; (rcases Nat.lt_or_ge y t.arms.length with h | h; exact .inl ⟨hj.1, by omega⟩; exact .inl ⟨hj.1, by have := hd9 (by omega); omega⟩); exact .inr hj
      clear hj
      refine wp_exit ?_
      refine hK11 _ _ ?_; clear hK11
      refine seq_any fun _ hK18 => ?_
      refine rp0 hst8 hfr8 (.cons rfl (ob_move rfl) <| .cons rfl (ob_min2 rfl rfl) <| .cons rfl (ob_assign rfl) <| .nil) ?_
      intro a9 w9 m9 hst9 hle9 hk9
      have hfr9 := hk9.fr (T' := [(3, _), (5, _), (4, _), (2, _)]) (.old rfl rfl <| .old rfl rfl <| .old rfl rfl <| .new rfl <| .nil)
      have hlh9 := hlh8.trans hle9
      clear hst8 hfr8 hk9
      refine hK18 _ _ ?_; clear hK18
      refine wp_ret ?_
      repeat (with_reducible first | refine then_ret ?_ | refine block_ret ?_)
      exact fn_ret hst9 hfr9 rfl (.tmp rfl <| .nil) (by refine congrArg (Value.int _) ?_; omega)
theorem count_c (t : Cd) : count_G t := Cd.rec_ (p := count_G) (fun t ihk iha => count_s ihk iha) t

set_option maxHeartbeats 800000 in
theorem shown_c {w : World} {m : Mem}  (hA : Agree w m) (hT : Tab w) : FnV Tryd.prog 10 #[] w m (fun _ _ v => v = .bool true) := by
  refine fn_enter (vs := []) Tryd.func10 rfl rfl rfl fun a0 hfr0 => ?_
  have hst0 := st_enter hA (loc_nil [] _ w m)
  have hM : MLe m m := MLe.refl m
  refine seq_any fun _ hK1 => ?_
  refine rp0 hst0 hfr0 (.cons rfl (ob_assign rfl) <| .nil) ?_
  intro a1 w1 m1 hst1 hle1 hk1
  have hfr1 := hk1.fr (T' := []) (.nil)
  clear hst0 hfr0 hk1
  refine hK1 _ _ ?_; clear hK1
  refine seq_any fun _ hK2 => ?_
  refine region_cut 3 (by kernel_rfl) ?_
  refine ops_seq (tch := []) hst1 hfr1 (by kernel_rfl) (by kernel_rfl) (by kernel_rfl) (.cons rfl (ob_callE rfl (.cons rfl <| .nil) Tryd.call14 (fun w m hK => by have hle_ := KC.le hK; have hA := KC.agree hK; exact variable_c hA)) <| .cons rfl (ob_buildS (cs := cdV (intC 1) noY) (.cons rfl <| .cons rfl <| .nil) Tryd.underlying25 Tryd.zeroValue25 (.cons Tryd.sizeOf3 <| .cons Tryd.sizeOf9 <| .cons Tryd.sizeOf9 <| .cons Tryd.sizeOf3 <| .cons Tryd.sizeOf22 <| .cons Tryd.sizeOf23 <| .nil) (rfl)) <| .cons rfl (ob_buildSlice2 rfl rfl Tryd.underlying22 Tryd.sizeOf25 Tryd.zeroValue25 rfl rfl rfl rfl rfl) <| .nil) ?_
  intro a2 w2 m2 hst2 hle2 hk2
  have hfr2 := hk2.fr (T' := []) (.nil)
  obtain ⟨gK, e3, hK⟩ := hk2.ex 10 rfl
  replace hfr2 := hfr2.cons e3
  clear hst1 hfr1 hk2
  have hcall : CdR m2 callS _ := node2_R ⟨by decide, by decide⟩ hK (var_R _) (int_R ⟨by decide, by decide⟩)
  replace hst2 := hst2.more (r := .free) trivial List.nodup_nil (by simp [Res.blocks])
  refine ops_seq (tch := [(1, 0, (fun v => .blk v _)), (2, 0, (fun v => .blk v _))]) hst2 hfr2 (by kernel_rfl) (by kernel_rfl) (by kernel_rfl) (.cons rfl (ob_buildS (cs := cdV callS ⟨some ⟨gK, 0, none⟩, 2, none, 0⟩) (.cons rfl <| .cons rfl <| .nil) Tryd.underlying25 Tryd.zeroValue25 (.cons Tryd.sizeOf3 <| .cons Tryd.sizeOf9 <| .cons Tryd.sizeOf9 <| .cons Tryd.sizeOf3 <| .cons Tryd.sizeOf22 <| .cons Tryd.sizeOf23 <| .nil) (rfl)) <| .consT rfl rfl (fun _ => rfl) rfl (ob_allocL Tryd.zeroValue25 rfl) <| .consT rfl rfl (fun _ => rfl) rfl (ob_imgT 1 rfl rfl rfl fun y1 => ob_storeF rfl rfl rfl rfl rfl Tryd.sizeOf25 rfl rfl rfl) <| .nil) ?_
  intro a3 w3 m3 hst3 hle3 hk3
  have hfr3 := hk3.fr (T' := [(10, _)]) (.old rfl rfl <| .nil)
  obtain ⟨g1, e4, _⟩ := hk3.ex 1 rfl
  replace hfr3 := hfr3.cons e4
  replace hst3 := hst3.fin (L' := [_]) (.cons e4 <| .cons e4 <| .nil)
  try simp only [List.take_succ_cons, List.take_zero, List.drop_succ_cons, List.drop_zero, List.cons_append, List.nil_append, List.append_nil, List.length_cons, List.length_nil, Nat.zero_add, Nat.reduceAdd] at hst3
  replace hK := hK.mono hle3
  replace hcall := hcall.mono hle3
  clear hst2 hfr2 hk3
  refine hK2 _ _ ?_; clear hK2
  refine seq_any fun _ hK5 => ?_
  replace hst3 := hst3.more (r := .free) trivial List.nodup_nil (by simp [Res.blocks])
  refine region_any (tch := [(4, 1, (fun v => .blk v _)), (5, 1, (fun v => .blkx v _ _))]) (fun _ => mixed) hst3 hfr3 (by kernel_rfl) (by kernel_rfl) (by kernel_rfl) (.cons rfl (ob_loadLA (j := 0) rfl rfl Tryd.isAgg25 Tryd.sizeOf25 rfl) <| .cons rfl (ob_callE rfl (.cons rfl <| .nil) Tryd.call14 (fun w m hK => by have hle_ := KC.le hK; have hA := KC.agree hK; exact variable_c hA)) <| .cons rfl (ob_buildSlice2 rfl rfl Tryd.underlying22 Tryd.sizeOf25 Tryd.zeroValue25 rfl rfl rfl rfl rfl) <| .cons rfl (ob_imgV 14 rfl rfl rfl fun y14 => ob_buildS (cs := cdV bindS ⟨some ⟨y14, 0, none⟩, 2, none, 0⟩) (.cons rfl <| .cons rfl <| .cons rfl <| .nil) Tryd.underlying25 Tryd.zeroValue25 (.cons Tryd.sizeOf3 <| .cons Tryd.sizeOf9 <| .cons Tryd.sizeOf9 <| .cons Tryd.sizeOf3 <| .cons Tryd.sizeOf22 <| .cons Tryd.sizeOf23 <| .nil) (rfl)) <| .consT rfl rfl (fun _ => rfl) rfl (ob_allocL Tryd.zeroValue25 rfl) <| .consT rfl rfl (fun _ => rfl) rfl (ob_imgT 2 rfl rfl rfl fun y2 => ob_imgTX 15 rfl rfl rfl fun y15 => ob_storeF rfl rfl rfl rfl rfl Tryd.sizeOf25 rfl rfl rfl) <| .nil) ?_
  intro a4 w4 m4 hst4 hle4 hk4
  have hfr4 := hk4.fr (T' := [(1, _)]) (.old rfl rfl <| .nil)
  obtain ⟨g2, e6, _⟩ := hk4.ex 2 rfl
  replace hfr4 := hfr4.cons e6
  replace hst4 := hst4.fin (L' := [_, _]) (.cons e6 <| .cons e6 <| .nil)
  try simp only [List.take_succ_cons, List.take_zero, List.drop_succ_cons, List.drop_zero, List.cons_append, List.nil_append, List.append_nil, List.length_cons, List.length_nil, Nat.zero_add, Nat.reduceAdd] at hst4
  obtain ⟨gB, hcb, hst4⟩ := hst4.unx (k := 1) rfl (fun _ => rfl)
  replace hK := hK.mono hle4
  replace hcall := hcall.mono hle4
  clear hst3 hfr3 hk4
  have hcb9 : CellsAt m4 ⟨gB, 0, none⟩ (cdV callS ⟨some ⟨gK, 0, none⟩, 2, none, 0⟩ ++ cdV (varC [120]) noY) := hcb
  have hbind : CdR m4 bindS _ := node2_R ⟨by decide, by decide⟩ hcb9 hcall (var_R _)
  refine hK5 _ _ ?_; clear hK5
  refine seq_any fun _ hK8 => ?_
  refine rp0 hst4 hfr4 (.cons rfl (ob_loadLA (j := 1) rfl rfl Tryd.isAgg25 Tryd.sizeOf25 rfl) <| .cons rfl (ob_callE rfl (.cons rfl <| .nil) Tryd.call17 (fun w m hK => by have hle_ := KC.le hK; have hA := KC.agree hK; have hT := tab_keep hT hK.st.ext; have hbind := hbind.mono hle_; exact textF_c (t := bindS) hA hbind hT bulk_bind)) <| .cons rfl (ob_move rfl) <| .cons rfl (ob_extract rfl rfl) <| .cons rfl (ob_extract rfl rfl) <| .cons rfl (ob_assign rfl) <| .cons rfl (ob_assign rfl) <| .nil) ?_
  intro a5 w5 m5 hst5 hle5 hk5
  have hfr5 := hk5.fr (T' := [(1, _), (2, _), (3, _), (4, _)]) (.old rfl rfl <| .old rfl rfl <| .new rfl <| .new rfl <| .nil)
  replace hK := hK.mono hle5
  replace hcall := hcall.mono hle5
  replace hbind := hbind.mono hle5
  clear hst4 hfr4 hk5
  refine hK8 _ _ ?_; clear hK8
  refine seq_any fun _ hK9 => ?_
  refine region_cut 3 (by kernel_rfl) ?_
  refine ops_seq (tch := []) hst5 hfr5 (by kernel_rfl) (by kernel_rfl) (by kernel_rfl) (.cons rfl (ob_loadLA (j := 0) rfl rfl Tryd.isAgg25 Tryd.sizeOf25 rfl) <| .cons rfl (ob_loadLA (j := 0) rfl rfl Tryd.isAgg25 Tryd.sizeOf25 rfl) <| .cons rfl (ob_buildSlice2 rfl rfl Tryd.underlying22 Tryd.sizeOf25 Tryd.zeroValue25 rfl rfl rfl rfl rfl) <| .nil) ?_
  intro a6 w6 m6 hst6 hle6 hk6
  have hfr6 := hk6.fr (T' := [(1, _), (2, _), (3, _), (4, _)]) (.old rfl rfl <| .old rfl rfl <| .old rfl rfl <| .old rfl rfl <| .nil)
  obtain ⟨gQ, e10, hQ⟩ := hk6.ex 24 rfl
  replace hfr6 := hfr6.cons e10
  replace hK := hK.mono hle6
  replace hcall := hcall.mono hle6
  replace hbind := hbind.mono hle6
  clear hst5 hfr5 hk6
  have hbad : CdR m6 badS _ := node2_R ⟨by decide, by decide⟩ hQ hcall hcall
  refine ops_seq (tch := []) hst6 hfr6 (by kernel_rfl) (by kernel_rfl) (by kernel_rfl) (.cons rfl (ob_buildS (cs := cdV badS ⟨some ⟨gQ, 0, none⟩, 2, none, 0⟩) (.cons rfl <| .cons rfl <| .nil) Tryd.underlying25 Tryd.zeroValue25 (.cons Tryd.sizeOf3 <| .cons Tryd.sizeOf9 <| .cons Tryd.sizeOf9 <| .cons Tryd.sizeOf3 <| .cons Tryd.sizeOf22 <| .cons Tryd.sizeOf23 <| .nil) (rfl)) <| .cons rfl (ob_callE rfl (.cons rfl <| .nil) Tryd.call17 (fun w m hK => by have hle_ := KC.le hK; have hA := KC.agree hK; have hT := tab_keep hT hK.st.ext; have hbad := hbad.mono hle_; exact textF_c (t := badS) hA hbad hT bulk_bad)) <| .cons rfl (ob_move rfl) <| .cons rfl (ob_extract rfl rfl) <| .cons rfl (ob_extract rfl rfl) <| .cons rfl (ob_assign rfl) <| .cons rfl (ob_assign rfl) <| .nil) ?_
  intro a7 w7 m7 hst7 hle7 hk7
  have hfr7 := hk7.fr (T' := [(1, _), (2, _), (3, _), (4, _), (24, _), (6, _)]) (.old rfl rfl <| .old rfl rfl <| .old rfl rfl <| .old rfl rfl <| .old rfl rfl <| .new rfl <| .nil)
  replace hK := hK.mono hle7
  replace hbind := hbind.mono hle7
  clear hst6 hfr6 hk7
  refine hK9 _ _ ?_; clear hK9
  refine seq_any fun _ hK11 => ?_
  refine ra0 (tch := []) hst7 hfr7 (.cons rfl (ob_loadLA (j := 1) rfl rfl Tryd.isAgg25 Tryd.sizeOf25 rfl) <| .cons rfl (ob_call (φ := MP.strs (freeP bindS)) rfl (.cons rfl <| .nil) Tryd.call13 (fun w m hK => by have hle_ := KC.le hK; have hA := KC.agree hK; have hbind := hbind.mono hle_; exact FnG.mono (freeF_c (t := bindS) hA hbind (by decide)) fun _ _ _ _ h => h)) <| .consA 30 rfl rfl <| .nil) ?_
  intro a8 w8 m8 hst8 hle8 hk8
  have hfr8 := hk8.fr (T' := [(2, _), (3, _), (4, _), (6, _)]) (.old rfl rfl <| .old rfl rfl <| .old rfl rfl <| .old rfl rfl <| .nil)
  obtain ⟨⟨oF, cF⟩, e12, hF⟩ := hk8.ex 30 rfl
  replace hfr8 := hfr8.cons (hk8.same 7 rfl e12)
  replace hK := hK.mono hle8
  replace hbind := hbind.mono hle8
  clear hst7 hfr7 hk8
  dsimp only [MP.strs, MP.mem] at hF
  rw [free_bind] at hF
  dsimp only [MP.strs, MP.mem] at hfr8
  rw [free_bind] at hfr8
  refine hK11 _ _ ?_; clear hK11
  refine seq_any fun _ hK13 => ?_
  have hl9 : ([[102]] : List Str).length = 1 := rfl
  obtain ⟨p14, vs14, x14, ho14, hd14, hm_x14, ht14, hcv14, hl14, hv14⟩ := hF.nth (k := 0) (by omega)
  cases ho14
  subst hv14
  have hx9 : x14 = [102] := by injection hd14 with h; exact h.symm
  subst hx9
  refine rp0 hst8 hfr8 (.cons rfl (ob_move rfl) <| .cons rfl (ob_seql rfl rfl) <| .cons rfl (ob_move rfl) <| .cons rfl (ob_move rfl) <| .cons rfl (ob_eql rfl rfl) <| .cons rfl (ob_and rfl rfl rfl) <| .cons rfl (ob_move rfl) <| .cons rfl (ob_move rfl) <| .cons rfl (ob_eql rfl rfl) <| .cons rfl (ob_and rfl rfl rfl) <| .cons rfl (ob_move rfl) <| .cons rfl (ob_loadLA (j := 1) rfl rfl Tryd.isAgg25 Tryd.sizeOf25 rfl) <| .cons rfl (ob_callE rfl (.cons rfl <| .nil) Tryd.call12 (fun w m hK => by have hle_ := KC.le hK; have hA := KC.agree hK; have hbind := hbind.mono hle_; exact right_c bindS hA hbind)) <| .cons rfl (ob_and rfl rfl rfl) <| .cons rfl (ob_move rfl) <| .cons rfl (ob_buildS (.nil) Tryd.underlying25 Tryd.zeroValue25 (.cons Tryd.sizeOf3 <| .cons Tryd.sizeOf9 <| .cons Tryd.sizeOf9 <| .cons Tryd.sizeOf3 <| .cons Tryd.sizeOf22 <| .cons Tryd.sizeOf23 <| .nil) rfl) <| .cons rfl (ob_callE rfl (.cons rfl <| .nil) Tryd.call12 (fun w m hK => by have hle_ := KC.le hK; have hA := KC.agree hK; exact right_c ⟨0, [], [], 0, [], []⟩ hA zero_R)) <| .cons rfl (ob_not rfl) <| .cons rfl (ob_and rfl rfl rfl) <| .cons rfl (ob_move rfl) <| .cons rfl (ob_move rfl) <| .cons rfl (ob_len rfl Tryd.underlying29) <| .cons rfl (ob_eql rfl rfl) <| .cons rfl (ob_and rfl rfl rfl) <| .cons rfl (ob_move rfl) <| .cons rfl (ob_move rfl) <| .cons rfl (ob_indexAddr (k := 0) rfl rfl Tryd.underlying29 Tryd.sizeOf9 rfl (by omega)) <| .cons rfl (ob_load1' rfl hcv14 Tryd.isAgg9 rfl) <| .cons rfl (ob_seql rfl rfl) <| .cons rfl (ob_and rfl rfl rfl) <| .cons rfl (ob_move rfl) <| .cons rfl (ob_loadLA (j := 1) rfl rfl Tryd.isAgg25 Tryd.sizeOf25 rfl) <| .cons rfl (ob_callE rfl (.cons rfl <| .nil) Tryd.call19 (fun w m hK => by have hle_ := KC.le hK; have hA := KC.agree hK; have hbind := hbind.mono hle_; exact size_c bindS hA hbind (by decide))) <| .cons rfl (ob_eql rfl rfl) <| .cons rfl (ob_and rfl rfl rfl) <| .cons rfl (ob_assign rfl) <| .nil) ?_
  intro a9 w9 m9 hst9 hle9 hk9
  have hfr9 := hk9.fr (T' := [(0, _)]) (.new rfl <| .nil)
  clear hst8 hfr8 hk9
  refine hK13 _ _ ?_; clear hK13
  refine wp_ret ?_
  repeat (with_reducible first | refine then_ret ?_ | refine block_ret ?_)
  exact fn_ret hst9 hfr9 rfl (.tmp rfl <| .nil) (by refine congrArg Value.bool ?_; rw [right_bind, right_bad, right_zero, text_bind, size_bind]; decide)

end Go.Proofs.YtlihpgjabohebaaDoor
