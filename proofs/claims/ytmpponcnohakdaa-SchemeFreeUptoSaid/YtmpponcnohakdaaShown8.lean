/-
  Package scheme: the matcher goes through types. Conditions: those of each theorem.
-/
import Derived.Test.YtmpponcnohakdaaPlain8
namespace Go.Proofs.Ytmpponcnohakdaa
set_option linter.all false
set_option maxRecDepth 4000
open Go.RowKit
set_option maxHeartbeats 400000 in
theorem tvar_c {w : World} {m : Mem} {n : Int} (hA : Agree w m)  : FnV Try.prog 22 #[.int .i64 n] w m (fun _ _ v => v = .agg (varV n).toArray) := by
  refine fn_enter (vs := [_]) Try.func22 rfl rfl rfl fun a0 hfr0 => ?_
  have hst0 := st_enter hA (loc_nil [] _ w m)
  have hM : MLe m m := MLe.refl m
  refine seq_any fun _ hK1 => ?_
  replace hst0 := hst0.more (r := .free) trivial List.nodup_nil (by simp [Res.blocks])
  refine ra0 (tch := [(0, 0, (fun v => .blk v _))]) hst0 hfr0 (.consT rfl rfl (fun _ => rfl) rfl (ob_allocL Try.zeroValue27 rfl) <| .nil) ?_
  intro a1 w1 m1 hst1 hle1 hk1
  have hfr1 := hk1.fr (T' := [(0, _)]) (.old rfl rfl <| .nil)
  obtain ⟨g2, e2, _⟩ := hk1.ex 2 rfl
  replace hfr1 := hfr1.cons e2
  replace hst1 := hst1.fin (L' := [_]) (.cons e2 <| .nil)
  clear hst0 hfr0 hk1
  refine hK1 _ _ ?_; clear hK1
  refine seq_any fun _ hK3 => ?_
  refine ra0 (tch := [(2, 0, (fun _ => .blk _ _))]) hst1 hfr1 (.cons rfl (ob_move rfl) <| .cons rfl (ob_buildS (.cons rfl <| .cons rfl <| .nil) Try.underlying27 Try.zeroValue27 (.cons Try.sizeOf3 <| .cons Try.sizeOf9 <| .cons Try.sizeOf3 <| .cons Try.sizeOf22 <| .cons Try.sizeOf25 <| .nil) rfl) <| .consT rfl rfl (fun _ => rfl) rfl (ob_store' rfl rfl rfl Try.sizeOf27 rfl rfl rfl) <| .nil) ?_
  intro a2 w2 m2 hst2 hle2 hk2
  have hfr2 := hk2.fr (T' := [(2, _)]) (.old rfl rfl <| .nil)
  replace hst2 := hst2.fin (L' := [_]) (.cons rfl <| .nil)
  clear hst1 hfr1 hk2
  refine hK3 _ _ ?_; clear hK3
  refine wp_ret ?_
  repeat (with_reducible first | refine then_ret ?_ | refine block_ret ?_)
  exact fn_ret hst2 hfr2 rfl (.cell rfl (load_blk (blk_heap (hst2.loc.at_ (k := 0) rfl)) Try.isAgg27 Try.sizeOf27) <| .nil) (rfl)

set_option maxHeartbeats 400000 in
theorem fun_c {w : World} {m : Mem} {a : Ty} {vs_a : List Value} {b : Ty} {vs_b : List Value} (hA : Agree w m) (h_a : TyR m a vs_a) (h_b : TyR m b vs_b) : FnV Try.prog 23 #[.agg vs_a.toArray, .agg vs_b.toArray] w m (fun _ m v => (MP.ty (fT a b)).p m v) := by
  obtain ⟨o_a, c_a, oL_a, cL_a, rfl, hk_a, hs_a, hi_a, hj_a, hr_a⟩ := h_a.open_
  have hbg_a := hk_a.big; have hcp_a := hk_a.cap; have hbs_a := hs_a.big; have hcs_a := hs_a.cap
  have hrw_a : RwR _ ⟨a.labels, a.rv⟩ _ := ⟨_, _, rfl, hs_a, hr_a⟩
  obtain ⟨o_b, c_b, oL_b, cL_b, rfl, hk_b, hs_b, hi_b, hj_b, hr_b⟩ := h_b.open_
  have hbg_b := hk_b.big; have hcp_b := hk_b.cap; have hbs_b := hs_b.big; have hcs_b := hs_b.cap
  have hrw_b : RwR _ ⟨b.labels, b.rv⟩ _ := ⟨_, _, rfl, hs_b, hr_b⟩
  refine fn_enter (vs := [_, _]) Try.func23 rfl rfl rfl fun a0 hfr0 => ?_
  have hst0 := st_enter hA (loc_nil [] _ w m)
  have hM : MLe m m := MLe.refl m
  refine seq_any fun _ hK1 => ?_
  replace hst0 := hst0.more (r := .free) trivial List.nodup_nil (by simp [Res.blocks])
  refine ra0 (tch := [(2, 0, (fun v => .blk v _))]) hst0 hfr0 (.cons rfl (ob_box rfl rfl) <| .cons rfl (ob_box rfl rfl) <| .consT rfl rfl (fun _ => rfl) rfl (ob_allocL Try.zeroValue27 rfl) <| .nil) ?_
  intro a1 w1 m1 hst1 hle1 hk1
  have hfr1 := hk1.fr (T' := []) (.nil)
  obtain ⟨g2, e2, hc2⟩ := hk1.ex 2 rfl
  replace hfr1 := hfr1.cons e2
  obtain ⟨g3, e3, hc3⟩ := hk1.ex 3 rfl
  replace hfr1 := hfr1.cons e3
  obtain ⟨g4, e4, _⟩ := hk1.ex 4 rfl
  replace hfr1 := hfr1.cons e4
  replace hst1 := hst1.fin (L' := [_]) (.cons e4 <| .nil)
  replace h_a := h_a.mono hle1
  replace h_b := h_b.mono hle1
  clear hst0 hfr0 hk1
  refine hK1 _ _ ?_; clear hK1
  refine seq_any fun _ hK5 => ?_
  refine ra0 (tch := [(4, 0, (fun _ => .blkx _ _ _))]) hst1 hfr1 (.cons rfl (ob_loadS' rfl hc2 Try.isAgg27 Try.sizeOf27 rfl rfl) <| .cons rfl (ob_loadS' rfl hc3 Try.isAgg27 Try.sizeOf27 rfl rfl) <| .cons rfl (ob_buildSlice (.cons rfl <| .cons rfl <| .nil) Try.underlying22 Try.sizeOf27 Try.zeroValue27 rfl rfl rfl rfl) <| .cons rfl (ob_imgV 7 rfl rfl rfl fun y7 => ob_buildS (.cons rfl <| .cons rfl <| .nil) Try.underlying27 Try.zeroValue27 (.cons Try.sizeOf3 <| .cons Try.sizeOf9 <| .cons Try.sizeOf3 <| .cons Try.sizeOf22 <| .cons Try.sizeOf25 <| .nil) rfl) <| .consT rfl rfl (fun _ => rfl) rfl (ob_imgTX 8 rfl rfl rfl fun y8 => ob_store' rfl rfl rfl Try.sizeOf27 rfl rfl rfl) <| .nil) ?_
  intro a2 w2 m2 hst2 hle2 hk2
  have hfr2 := hk2.fr (T' := [(4, _)]) (.old rfl rfl <| .nil)
  replace hst2 := hst2.fin (L' := [_]) (.cons rfl <| .nil)
  try simp only [List.take_succ_cons, List.take_zero, List.drop_succ_cons, List.drop_zero, List.cons_append, List.nil_append, List.append_nil, List.length_cons, List.length_nil, Nat.zero_add, Nat.reduceAdd] at hst2
  obtain ⟨gs, hgs, hst2⟩ := hst2.unx (k := 0) rfl (fun _ => rfl)
  replace h_a := h_a.mono hle2
  replace h_b := h_b.mono hle2
  clear hst1 hfr1 hk2
  refine hK5 _ _ ?_; clear hK5
  refine wp_ret ?_
  repeat (with_reducible first | refine then_ret ?_ | refine block_ret ?_)
  exact fn_ret hst2 hfr2 rfl (.cell rfl (load_blk (blk_heap (hst2.loc.at_ (k := 0) rfl)) Try.isAgg27 Try.sizeOf27) <| .nil) (⟨((some ⟨gs, 0, none⟩, 2), (_, _)), rfl, TyR.build (k := 5) (v := 0) (r := 0) (s := []) (Sl.two (vs := [_, _, _, _, _, _]) hgs rfl rfl h_a h_b) Sl.empty ⟨by omega, by omega⟩ ⟨by omega, by omega⟩ ⟨by omega, by omega⟩⟩)

set_option maxHeartbeats 400000 in
theorem in_c {w : World} {m : Mem} {o_l : Option Addr} {c_l : Nat} {l : List Int} {n : Int} (hA : Agree w m) (h_l : Ints m o_l l.length c_l l) : FnV Try.prog 20 #[.slice o_l l.length c_l, .int .i64 n] w m (fun _ _ v => v = .bool (decide (n ∈ l))) := by
  have hb_l := h_l.big; have hc_l := h_l.cap
  refine fn_enter (vs := [_, _]) Try.func20 rfl rfl rfl fun a0 hfr0 => ?_
  have hst0 := st_enter hA (loc_nil [] _ w m)
  have hM : MLe m m := MLe.refl m
  refine seq_any fun _ hK1 => ?_
  refine rp0 hst0 hfr0 (.cons rfl (ob_assign rfl) <| .nil) ?_
  intro a1 w1 m1 hst1 hle1 hk1
  have hfr1 := hk1.fr (T' := [(0, _), (1, _)]) (.old rfl rfl <| .old rfl rfl <| .nil)
  replace h_l := h_l.mono hle1
  clear hst0 hfr0 hk1
  refine hK1 _ _ ?_; clear hK1
  refine seq_any fun _ hK2 => ?_
  refine seq_any fun _ hK3 => ?_
  refine rp0 hst1 hfr1 (.cons rfl (ob_assign rfl) <| .nil) ?_
  intro a2 w2 m2 hst2 hle2 hk2
  have hfr2 := hk2.fr (T' := [(0, _), (1, _), (5, _)]) (.old rfl rfl <| .old rfl rfl <| .new rfl <| .nil)
  replace h_l := h_l.mono hle2
  clear hst1 hfr1 hk2
  refine hK3 _ _ ?_; clear hK3
  refine wp_block ?_
  refine loop_any (T := [(0, _), (1, _)]) (fun (y : Nat) => ([(5, .int .i64 (y : Int))] : List (Nat × Value))) (fun _ => _) (fun (y : Nat) m => (y ≤ l.length) ∧ ((n ∈ l) = (n ∈ l.drop y))) (fun y => l.length - y) (0) ⟨hst2, MLe.refl _, hfr2.sub (.cons rfl <| .cons rfl <| .cons rfl <| .nil), ⟨Nat.zero_le _, rfl⟩⟩ fun y a3 w3 m3 hh3 => ?_
  have hst3 := hh3.st; have hle3 := hh3.le; have hfr3 := hh3.fr; have hrel := hh3.rel; clear hh3
  replace h_l := h_l.mono hle3
  clear hst2 hfr2
  obtain ⟨hyn, hrem⟩ := hrel
  have hlh3 := hle3
  refine seq_any fun _ hK5 => ?_
  refine seq_any fun _ hK6 => ?_
  refine rp0 hst3 hfr3 (.cons rfl (ob_move rfl) <| .cons rfl (ob_move rfl) <| .cons rfl (ob_len rfl Try.underlying33) <| .cons rfl (ob_lss rfl rfl) <| .nil) ?_
  intro a4 w4 m4 hst4 hle4 hk4
  have hfr4 := hk4.fr (T' := [(5, _), (0, _), (1, _), (9, _)]) (.old rfl rfl <| .old rfl rfl <| .old rfl rfl <| .new rfl <| .nil)
  replace h_l := h_l.mono hle4
  have hlh4 := hlh3.trans hle4
  clear hst3 hfr3 hk4
  refine hK6 _ _ ?_; clear hK6
  refine cond_any hfr4 rfl rfl (fun hb9 => ?_) (fun hb9 => ?_)
  · try simp only [nq1, nq2, nq3, nq4, nq5, nq6, nq7, nq8, nq9, u8_eq] at hb9
    refine wp_skip ?_
    refine hK5 _ _ ?_; clear hK5
    refine seq_any fun _ hK7 => ?_
    refine wp_block ?_
    refine seq_any fun _ hK8 => ?_
    obtain ⟨p9, vs9, x9, ho9, hd9, hm_x9, ht9, hcv9, hl9, hv9⟩ := h_l.nth (k := y) (by omega)
    cases ho9
    subst hv9
    try rw [hd9] at hrem
    try simp only [List.mem_cons] at hrem
    refine rp0 hst4 hfr4 (.cons rfl (ob_move rfl) <| .cons rfl (ob_move rfl) <| .cons rfl (ob_indexAddr (k := y) rfl rfl Try.underlying33 Try.sizeOf3 rfl (by omega)) <| .cons rfl (ob_load1' rfl hcv9 Try.isAgg3 rfl) <| .cons rfl (ob_move rfl) <| .cons rfl (ob_eql rfl rfl) <| .nil) ?_
    intro a5 w5 m5 hst5 hle5 hk5
    have hfr5 := hk5.fr (T' := [(5, _), (0, _), (1, _), (17, _)]) (.old rfl rfl <| .old rfl rfl <| .old rfl rfl <| .new rfl <| .nil)
    have hlh5 := hlh4.trans hle5
    clear hst4 hfr4 hk5
    refine hK8 _ _ ?_; clear hK8
    refine cond_any hfr5 rfl rfl (fun hb17 => ?_) (fun hb17 => ?_)
    · try simp only [nq1, nq2, nq3, nq4, nq5, nq6, nq7, nq8, nq9, u8_eq] at hb17
      refine seq_any fun _ hK10 => ?_
      refine rp0 hst5 hfr5 (.cons rfl (ob_assign rfl) <| .nil) ?_
      intro a6 w6 m6 hst6 hle6 hk6
      have hfr6 := hk6.fr (T' := [(5, _), (4, _)]) (.old rfl rfl <| .new rfl <| .nil)
      have hlh6 := hlh5.trans hle6
      clear hst5 hfr5 hk6
      refine hK10 _ _ ?_; clear hK10
      refine wp_ret ?_
      repeat (with_reducible first | refine then_ret ?_ | refine block_ret ?_)
      exact fn_ret hst6 hfr6 rfl (.tmp rfl <| .nil) (by rw [show decide (n ∈ l) = true from decide_eq_true (by rw [hrem]; exact .inl hb17.symm)]; rfl)
    · try simp only [nq1, nq2, nq3, nq4, nq5, nq6, nq7, nq8, nq9, u8_eq] at hb17
      refine wp_skip ?_
      refine hK7 _ _ ?_; clear hK7
      refine rp0 hst5 hfr5 (.cons rfl (ob_move rfl) <| .cons rfl (ob_add rfl rfl ⟨by omega, by omega⟩) <| .cons rfl (ob_assign rfl) <| .nil) ?_
      intro a6 w6 m6 hst6 hle6 hk6
      have hfr6 := hk6.fr (T' := [(0, _), (1, _), (5, _)]) (.old rfl rfl <| .old rfl rfl <| .new rfl <| .nil)
      have hlh6 := hlh5.trans hle6
      clear hst5 hfr5 hk6
      exact ⟨y + 1, m6, by show l.length - (y + 1) < l.length - y; omega, ⟨hst6, hlh6, hfr6.sub (.cons rfl <| .cons rfl <| .cons rfl <| .nil), ⟨by show y + 1 ≤ l.length; omega, by rw [hrem]; simp only [eq_iff_iff]; constructor; (intro h; rcases h with h | h; (exact absurd h.symm hb17); exact h); exact .inr⟩⟩⟩
  · try simp only [nq1, nq2, nq3, nq4, nq5, nq6, nq7, nq8, nq9, u8_eq] at hb9
    have hge : y = l.length := by omega
    rw [List.drop_of_length_le (by omega)] at hrem
    refine wp_exit ?_
    refine hK2 _ _ ?_; clear hK2
    refine seq_any fun _ hK12 => ?_
    refine rp0 hst4 hfr4 (.cons rfl (ob_assign rfl) <| .nil) ?_
    intro a5 w5 m5 hst5 hle5 hk5
    have hfr5 := hk5.fr (T' := [(5, _), (4, _)]) (.old rfl rfl <| .new rfl <| .nil)
    have hlh5 := hlh4.trans hle5
    clear hst4 hfr4 hk5
    refine hK12 _ _ ?_; clear hK12
    refine wp_ret ?_
    repeat (with_reducible first | refine then_ret ?_ | refine block_ret ?_)
    exact fn_ret hst5 hfr5 rfl (.tmp rfl <| .nil) (by rw [show decide (n ∈ l) = false from decide_eq_false (by rw [hrem]; simp)]; rfl)

set_option maxHeartbeats 1600000 in
theorem shown_c {w : World} {m : Mem}  (hA : Agree w m)  : FnV Try.prog 6 #[] w m (fun _ _ v => v = .bool true) := by
  refine fn_enter (vs := []) Try.func6 rfl rfl rfl fun a0 hfr0 => ?_
  have hst0 := st_enter hA (loc_nil [] _ w m)
  have hM : MLe m m := MLe.refl m
  refine seq_any fun _ hK1 => ?_
  refine rp0 hst0 hfr0 (.cons rfl (ob_assign rfl) <| .nil) ?_
  intro a1 w1 m1 hst1 hle1 hk1
  have hfr1 := hk1.fr (T' := []) (.nil)
  clear hst0 hfr0 hk1
  refine hK1 _ _ ?_; clear hK1
  refine seq_any fun _ hK2 => ?_
  refine region_cut 2 (by kernel_rfl) ?_
  refine ops_seq (tch := []) hst1 hfr1 (by kernel_rfl) (by kernel_rfl) (by kernel_rfl) (.cons rfl (ob_callE rfl (.cons rfl <| .nil) Try.call22 (fun w m hK => by have hle_ := KC.le hK; have hA := KC.agree hK; exact tvar_c hA)) <| .cons rfl (ob_call (φ := MP.sch ⟨[], [], varT 2⟩) rfl (.cons rfl <| .nil) Try.call10 (fun w m hK => by have hle_ := KC.le hK; have hA := KC.agree hK; exact FnG.mono (bareR_c (t := varT 2) hA (varT_R ⟨by omega, by omega⟩) rfl (Nat.zero_le _)) fun _ _ _ _ h => h)) <| .nil) ?_
  intro a2 w2 m2 hst2 hle2 hk2
  have hfr2 := hk2.fr (T' := []) (.nil)
  obtain ⟨yb, e3, hyb⟩ := hk2.ex 6 rfl
  replace hfr2 := hfr2.cons e3
  clear hst1 hfr1 hk2
  refine ops_cut 4 (by kernel_rfl) ?_
  refine ops_seq (tch := []) hst2 hfr2 (by kernel_rfl) (by kernel_rfl) (by kernel_rfl) (.cons rfl (ob_buildSlice1 rfl Try.underlying32 Try.sizeOf35 Try.zeroValue35 rfl rfl rfl rfl) <| .cons rfl (ob_callE rfl (.cons rfl <| .nil) Try.call22 (fun w m hK => by have hle_ := KC.le hK; have hA := KC.agree hK; exact tvar_c hA)) <| .cons rfl (ob_callE rfl (.cons rfl <| .nil) Try.call22 (fun w m hK => by have hle_ := KC.le hK; have hA := KC.agree hK; exact tvar_c hA)) <| .cons rfl (ob_call (φ := MP.ty gT) rfl (.cons rfl <| .cons rfl <| .nil) Try.call23 (fun w m hK => by have hle_ := KC.le hK; have hA := KC.agree hK; exact FnG.mono (fun_c (a := varT 1) (b := varT 2) hA (varT_R ⟨by omega, by omega⟩) (varT_R ⟨by omega, by omega⟩)) fun _ _ _ _ h => h)) <| .nil) ?_
  intro a3 w3 m3 hst3 hle3 hk3
  have hfr3 := hk3.fr (T' := [(6, _)]) (.old rfl rfl <| .nil)
  obtain ⟨gL, e4, hgL⟩ := hk3.ex 7 rfl
  replace hfr3 := hfr3.cons e4
  obtain ⟨yf, e5, hfT⟩ := hk3.ex 10 rfl
  replace hfr3 := hfr3.cons e5
  replace hyb := hyb.mono hle3
  clear hst2 hfr2 hk3
  have hsE : Schs m3 (some ⟨gL, 0, none⟩) 1 1 gE := Sl.one (by exact hgL) rfl hyb
  replace hst3 := hst3.more (r := .free) trivial List.nodup_nil (by simp [Res.blocks])
  refine ops_seq (tch := [(1, 0, (fun v => .blk v _)), (2, 0, (fun v => .blkx v _ _))]) hst3 hfr3 (by kernel_rfl) (by kernel_rfl) (by kernel_rfl) (.cons rfl (ob_call (φ := MP.sch gS) rfl (.cons rfl <| .cons rfl <| .nil) Try.call11 (fun w m hK => by have hle_ := KC.le hK; have hA := KC.agree hK; have hfT := hfT.mono hle_; have hsE := hsE.mono hle_; exact FnG.mono (genR_c (env := gE) (t := gT) hA hsE hfT gT_right (by decide) (by decide) (by decide)) fun _ _ _ _ h => h)) <| .consT rfl rfl (fun _ => rfl) rfl (ob_allocL Try.zeroValue35 rfl) <| .consT rfl rfl (fun _ => rfl) rfl (ob_imgT 1 rfl rfl rfl fun y1 => ob_imgTX 11 rfl rfl rfl fun y11 => ob_storeF rfl rfl rfl rfl rfl Try.sizeOf35 rfl rfl rfl) <| .nil) ?_
  intro a4 w4 m4 hst4 hle4 hk4
  have hfr4 := hk4.fr (T' := [(6, _), (7, _), (10, _)]) (.old rfl rfl <| .old rfl rfl <| .old rfl rfl <| .nil)
  obtain ⟨g6, e6, _⟩ := hk4.ex 1 rfl
  replace hfr4 := hfr4.cons e6
  replace hst4 := hst4.fin (L' := [_]) (.cons e6 <| .cons e6 <| .nil)
  try simp only [List.take_succ_cons, List.take_zero, List.drop_succ_cons, List.drop_zero, List.cons_append, List.nil_append, List.append_nil, List.length_cons, List.length_nil, Nat.zero_add, Nat.reduceAdd] at hst4
  obtain ⟨⟨⟨⟨oS, cS⟩, oR, cR⟩, ⟨oT, cT⟩, oU, cU⟩, hgS, hst4⟩ := hst4.unx (k := 0) rfl (fun _ => rfl)
  clear hst3 hfr3 hk4
  refine hK2 _ _ ?_; clear hK2
  refine seq_any fun _ hK8 => ?_
  replace hst4 := hst4.more (r := .free) trivial List.nodup_nil (by simp [Res.blocks])
  refine ra0 (tch := [(1, 1, (fun v => .blk v _)), (2, 1, (fun v => .blk v _))]) hst4 hfr4 (.cons rfl (ob_buildS (.cons rfl <| .nil) Try.underlying27 Try.zeroValue27 (.cons Try.sizeOf3 <| .cons Try.sizeOf9 <| .cons Try.sizeOf3 <| .cons Try.sizeOf22 <| .cons Try.sizeOf25 <| .nil) rfl) <| .consT rfl rfl (fun _ => rfl) rfl (ob_allocL Try.zeroValue27 rfl) <| .consT rfl rfl (fun _ => rfl) rfl (ob_imgT 2 rfl rfl rfl fun y2 => ob_storeF rfl rfl rfl rfl rfl Try.sizeOf27 rfl rfl rfl) <| .nil) ?_
  intro a5 w5 m5 hst5 hle5 hk5
  have hfr5 := hk5.fr (T' := [(1, _)]) (.old rfl rfl <| .nil)
  obtain ⟨g9, e9, _⟩ := hk5.ex 2 rfl
  replace hfr5 := hfr5.cons e9
  replace hst5 := hst5.fin (L' := [_, _]) (.cons e9 <| .cons e9 <| .nil)
  try simp only [List.take_succ_cons, List.take_zero, List.drop_succ_cons, List.drop_zero, List.cons_append, List.nil_append, List.append_nil, List.length_cons, List.length_nil, Nat.zero_add, Nat.reduceAdd] at hst5
  replace hgS := hgS.mono hle5
  clear hst4 hfr4 hk5
  refine hK8 _ _ ?_; clear hK8
  refine seq_any fun _ hK10 => ?_
  replace hst5 := hst5.more (r := .free) trivial List.nodup_nil (by simp [Res.blocks])
  refine ra0 (tch := [(5, 2, (fun v => .blk v _)), (6, 2, (fun v => .blkx v _ _))]) hst5 hfr5 (.cons rfl (ob_loadLA (j := 0) rfl rfl Try.isAgg35 Try.sizeOf35 rfl) <| .cons rfl (ob_call (φ := MP.tyn (fT (varT 7) (varT 2)) 8) rfl (.cons rfl <| .cons rfl <| .nil) Try.call15 (fun w m hK => by have hle_ := KC.le hK; have hA := KC.agree hK; have hgS := hgS.mono hle_; exact FnG.mono ((by have h9 := fresh_c (s := gS) (k := 7) hA hgS (by decide) ⟨by omega, by omega⟩ (by decide); rw [show gS.ty = gT from rfl, g_fresh] at h9; exact h9)) fun _ _ _ _ h => h)) <| .cons rfl (ob_imgV 15 rfl rfl rfl fun y15 => ob_move rfl) <| .cons rfl (ob_imgV 13 rfl rfl rfl fun y13 => ob_extract rfl rfl) <| .cons rfl (ob_imgV 13 rfl rfl rfl fun y13 => ob_extract rfl rfl) <| .consT rfl rfl (fun _ => rfl) rfl (ob_allocL Try.zeroValue27 rfl) <| .consT rfl rfl (fun _ => rfl) rfl (ob_imgT 3 rfl rfl rfl fun y3 => ob_imgTX 16 rfl rfl rfl fun y16 => ob_storeF rfl rfl rfl rfl rfl Try.sizeOf27 rfl rfl rfl) <| .consA 17 rfl rfl <| .nil) ?_
  intro a6 w6 m6 hst6 hle6 hk6
  have hfr6 := hk6.fr (T' := [(1, _), (2, _)]) (.old rfl rfl <| .old rfl rfl <| .nil)
  obtain ⟨y11, e11, hy11⟩ := hk6.ex 17 rfl
  obtain ⟨g12, e12, _⟩ := hk6.ex 3 rfl
  replace hfr6 := hfr6.cons e12
  replace hfr6 := hfr6.cons (hk6.same 4 rfl e11)
  replace hst6 := hst6.fin (L' := [_, _, _]) (.cons e12 <| .cons e12 <| .nil)
  try simp only [List.take_succ_cons, List.take_zero, List.drop_succ_cons, List.drop_zero, List.cons_append, List.nil_append, List.append_nil, List.length_cons, List.length_nil, Nat.zero_add, Nat.reduceAdd] at hst6
  obtain ⟨⟨⟨oF, cF⟩, oG, cG⟩, hF, hst6⟩ := hst6.unx (k := 2) rfl (fun _ => rfl)
  replace hgS := hgS.mono hle6
  clear hst5 hfr5 hk6
  have hsT := (schV_open hgS).1
  have hsR := (schV_open hgS).2.1
  have hkF := tyV_open hF
  have hl1 : gS.ts.length = 1 := rfl
  have hl2 : gS.rs.length = 0 := rfl
  have hl3 : (fT (varT 7) (varT 2)).args.length = 2 := rfl
  refine hK10 _ _ ?_; clear hK10
  refine seq_any fun _ hK14 => ?_
  obtain ⟨p15, vs15, x15, ho15, hd15, hm_x15, ht15, hcv15, hl15, hv15⟩ := hsT.nth (k := 0) (by omega)
  cases ho15
  subst hv15
  obtain ⟨p16, vs16, x16, ho16, hd16, hm_x16, ht16, hcv16, hl16, hv16⟩ := hkF.nth (k := 0) (by omega)
  cases ho16
  obtain ⟨o16, c16, oL16, cL16, rfl, hkd16, hs16, hi16, hj16, hr16⟩ := hv16.open_
  have hbg16 := hkd16.big; have hcp16 := hkd16.cap; have hbs16 := hs16.big; have hcs16 := hs16.cap
  have hrw16 : RwR _ ⟨x16.labels, x16.rv⟩ _ := ⟨_, _, rfl, hs16, hr16⟩
  refine region_plain (fun _ => mixed) hst6 hfr6 (by kernel_rfl) (by kernel_rfl) (.cons rfl (ob_fieldAddrO (off := 0) rfl Try.underlying35 rfl rfl Try.sizeOf33 rfl) <| .cons rfl (ob_loadL (j := 0) rfl rfl Try.isAgg33 rfl) <| .cons rfl (ob_len rfl Try.underlying33) <| .cons rfl (ob_eql rfl rfl) <| .cons rfl (ob_move rfl) <| .cons rfl (ob_fieldAddrO (off := 0) rfl Try.underlying35 rfl rfl Try.sizeOf33 rfl) <| .cons rfl (ob_loadL (j := 0) rfl rfl Try.isAgg33 rfl) <| .cons rfl (ob_indexAddr (k := 0) rfl rfl Try.underlying33 Try.sizeOf3 rfl (by omega)) <| .cons rfl (ob_load1' rfl hcv15 Try.isAgg3 rfl) <| .cons rfl (ob_eql rfl rfl) <| .cons rfl (ob_and rfl rfl rfl) <| .cons rfl (ob_move rfl) <| .cons rfl (ob_fieldAddrO (off := 1) rfl Try.underlying35 rfl rfl Try.sizeOf33 rfl) <| .cons rfl (ob_loadL (j := 0) rfl rfl Try.isAgg33 rfl) <| .cons rfl (ob_len rfl Try.underlying33) <| .cons rfl (ob_eql rfl rfl) <| .cons rfl (ob_and rfl rfl rfl) <| .cons rfl (ob_move rfl) <| .cons rfl (ob_loadLA (j := 0) rfl rfl Try.isAgg35 Try.sizeOf35 rfl) <| .cons rfl (ob_loadLA (j := 1) rfl rfl Try.isAgg27 Try.sizeOf27 rfl) <| .cons rfl (ob_callE rfl (.cons rfl <| .nil) Try.call22 (fun w m hK => by have hle_ := KC.le hK; have hA := KC.agree hK; exact tvar_c hA)) <| .cons rfl (ob_call (φ := MP.ty (fT (leafT 1) (varT 2))) rfl (.cons rfl <| .cons rfl <| .nil) Try.call23 (fun w m hK => by have hle_ := KC.le hK; have hA := KC.agree hK; exact FnG.mono (fun_c (a := leafT 1) (b := varT 2) hA (leafR ⟨by omega, by omega⟩) (varT_R ⟨by omega, by omega⟩)) fun _ _ _ _ h => h)) <| .cons rfl (ob_imgE 39 rfl rfl rfl fun y39 => ob_callE rfl (.cons rfl <| .cons rfl <| .nil) Try.call16 (fun w m hK => by have hle_ := KC.le hK; have hA := KC.agree hK; have hr0_ := hK.2; have hgS := hgS.mono hle_; exact (show FnV Try.prog 16 #[_, _] _ _ (fun _ _ v => v = .bool true) from by have h9 := instance_c (s := gS) (t := fT (leafT 1) (varT 2)) hA hgS hr0_ (by decide) (by decide); rw [g_inst1] at h9; exact h9))) <| .cons rfl (ob_and rfl rfl rfl) <| .cons rfl (ob_move rfl) <| .cons rfl (ob_loadLA (j := 0) rfl rfl Try.isAgg35 Try.sizeOf35 rfl) <| .cons rfl (ob_loadLA (j := 1) rfl rfl Try.isAgg27 Try.sizeOf27 rfl) <| .cons rfl (ob_loadLA (j := 1) rfl rfl Try.isAgg27 Try.sizeOf27 rfl) <| .cons rfl (ob_call (φ := MP.ty (fT (leafT 1) (leafT 1))) rfl (.cons rfl <| .cons rfl <| .nil) Try.call23 (fun w m hK => by have hle_ := KC.le hK; have hA := KC.agree hK; exact FnG.mono (fun_c (a := leafT 1) (b := leafT 1) hA (leafR ⟨by omega, by omega⟩) (leafR ⟨by omega, by omega⟩)) fun _ _ _ _ h => h)) <| .cons rfl (ob_imgE 46 rfl rfl rfl fun y46 => ob_callE rfl (.cons rfl <| .cons rfl <| .nil) Try.call16 (fun w m hK => by have hle_ := KC.le hK; have hA := KC.agree hK; have hr0_ := hK.2; have hgS := hgS.mono hle_; exact (show FnV Try.prog 16 #[_, _] _ _ (fun _ _ v => v = .bool false) from by have h9 := instance_c (s := gS) (t := fT (leafT 1) (leafT 1)) hA hgS hr0_ (by decide) (by decide); rw [g_inst2] at h9; exact h9))) <| .cons rfl (ob_not rfl) <| .cons rfl (ob_and rfl rfl rfl) <| .cons rfl (ob_move rfl) <| .cons rfl (ob_move rfl) <| .cons rfl (ob_eql rfl rfl) <| .cons rfl (ob_and rfl rfl rfl) <| .cons rfl (ob_move rfl) <| .cons rfl (ob_fieldAddrO (off := 3) rfl Try.underlying27 rfl rfl Try.sizeOf22 rfl) <| .cons rfl (ob_loadL (j := 2) rfl rfl Try.isAgg22 rfl) <| .cons rfl (ob_len rfl Try.underlying22) <| .cons rfl (ob_eql rfl rfl) <| .cons rfl (ob_and rfl rfl rfl) <| .cons rfl (ob_move rfl) <| .cons rfl (ob_fieldAddrO (off := 3) rfl Try.underlying27 rfl rfl Try.sizeOf22 rfl) <| .cons rfl (ob_loadL (j := 2) rfl rfl Try.isAgg22 rfl) <| .cons rfl (ob_indexAddr (k := 0) rfl rfl Try.underlying22 Try.sizeOf27 rfl (by omega)) <| .cons rfl (ob_fieldAddrO (off := 2) rfl Try.underlying27 rfl rfl Try.sizeOf3 rfl) <| .cons rfl (ob_load1 rfl hcv16 Try.isAgg3 rfl) <| .cons rfl (ob_eql rfl rfl) <| .cons rfl (ob_and rfl rfl rfl) <| .cons rfl (ob_assign rfl) <| .nil) ?_
  intro a7 w7 m7 hst7 hle7 hk7
  have hfr7 := hk7.fr (T' := [(0, _)]) (.new rfl <| .nil)
  clear hst6 hfr6 hk7
  have hx1 : x15 = 1 := (List.cons.inj (show ([1] : List Int) = _ from hd15)).1.symm
  have hx2 : x16 = varT 7 := (List.cons.inj (show [varT 7, varT 2] = _ from hd16)).1.symm
  refine hK14 _ _ ?_; clear hK14
  refine wp_ret ?_
  repeat (with_reducible first | refine then_ret ?_ | refine block_ret ?_)
  exact fn_ret hst7 hfr7 rfl (.tmp rfl <| .nil) (by rw [hl1, hl2, hl3, hx1, hx2]; rfl)

end Go.Proofs.Ytmpponcnohakdaa
