/-
  A term is renamed. Conditions: those of each theorem.
-/
import Derived.Test.YteamjgbhcjojaaaDoorRen1
namespace Go.Proofs.YteamjgbhcjojaaaDoor
set_option linter.all false
set_option maxRecDepth 4000
open Go.RowKit
theorem get3 {α : Type} (a b c : α) (i : Nat) : [a, b, c][min i 2]? = some (if i = 0 then a else if i = 1 then b else c) := by
  rcases i with _ | _ | i
  · rfl
  · rfl
  · rw [show min (i + 1 + 1) 2 = 2 by omega, if_neg (by omega), if_neg (by omega)]; rfl
theorem head_le (k : Int) (s p : Str) (es : List (Str × Str)) (n : Nat) : (headM k s p es n).2.2 ≤ n + 2 := by
  unfold headM; split
  · exact Nat.le_add_right _ _
  · split
    · show n + 1 ≤ n + 2; omega
    · split
      · exact Nat.le_refl _
      · exact Nat.le_add_right _ _
theorem boundM_no {k : Int} (h5 : k ≠ 5) (h7 : k ≠ 7) (h8 : k ≠ 8) (s p : Str) (i : Nat) : boundM k s p i = [] := by
  unfold boundM; rw [if_neg (by omega), if_neg h8]
theorem withM_nil (es : List (Str × Str)) : withM es [] [] = es := by simp only [withM]
theorem scope_no {k : Int} (h5 : k ≠ 5) (h7 : k ≠ 7) (h8 : k ≠ 8) (s p ss pp : Str) (es : List (Str × Str)) (i : Nat) : [vS es, vS es, vS es][min i 2]? = some (vS (withM es (boundM k s p i) (boundM k ss pp i))) := by
  rw [get3, boundM_no h5 h7 h8, boundM_no h5 h7 h8, withM_nil]; congr 1; split; rfl; split <;> rfl
theorem scope_5 {k : Int} (h : k = 5) {s p ss pp : Str} (es : List (Str × Str)) {i : Nat} (hi : i < 1) : [vS (withM es [s] [ss]), vS es, vS es][min i 2]? = some (vS (withM es (boundM k s p i) (boundM k ss pp i))) := by
  obtain rfl : i = 0 := by omega
  unfold boundM; rw [if_pos (.inl h), if_pos (.inl h)]; rfl
theorem scope_7 {k : Int} (h : k = 7) {s p ss pp : Str} (es : List (Str × Str)) (i : Nat) : [vS es, vS (withM es [s] [ss]), vS es][min i 2]? = some (vS (withM es (boundM k s p i) (boundM k ss pp i))) := by
  rw [get3]
  unfold boundM
  by_cases h1 : i = 1
  · rw [if_neg (by omega), if_pos h1, if_pos (by omega), if_pos (by omega)]
  · rw [if_neg (show ¬ (k = 5 ∨ k = 7 ∧ i = 1 ∨ k = 8 ∧ i = 1) by omega), if_neg (show ¬ k = 8 by omega), if_neg (show ¬ (k = 5 ∨ k = 7 ∧ i = 1 ∨ k = 8 ∧ i = 1) by omega), if_neg (show ¬ k = 8 by omega), withM_nil]
    congr 1; split; rfl; first | rfl | rw [if_neg h1]
theorem scope_8 {k : Int} (h : k = 8) {s p ss pp : Str} (es : List (Str × Str)) {i : Nat} (hi : i < 2) : [vS (withM es [s, p] [ss, pp]), vS (withM es [s] [ss]), vS es][min i 2]? = some (vS (withM es (boundM k s p i) (boundM k ss pp i))) := by
  rw [get3]
  unfold boundM
  by_cases h1 : i = 1
  · rw [if_neg (by omega), if_pos h1, if_pos (by omega), if_pos (by omega)]
  · obtain rfl : i = 0 := by omega
    rw [if_pos rfl, if_neg (by omega), if_pos h, if_neg (by omega), if_pos h]
theorem renKs_fst (f g : Nat → List Str) (i : Nat) (es : List (Str × Str)) (t : Tm) (ts : List Tm) (n : Nat) : (renKs f g i es (t :: ts) n).1 = (renT t (withM es (f i) (g i)) n).1 :: (renKs f g (i + 1) es ts (renT t (withM es (f i) (g i)) n).2).1 := by rw [renKs]
theorem renKs_snd (f g : Nat → List Str) (i : Nat) (es : List (Str × Str)) (t : Tm) (ts : List Tm) (n : Nat) : (renKs f g i es (t :: ts) n).2 = (renKs f g (i + 1) es ts (renT t (withM es (f i) (g i)) n).2).2 := by rw [renKs]
theorem renAs_fst (es : List (Str × Str)) (a : Ar) (ts : List Ar) (n : Nat) : (renAs es (a :: ts) n).1 = ⟨a.name, nextN n a.vars, (renT a.body (withM es a.vars (nextN n a.vars)) (n + a.vars.length)).1⟩ :: (renAs es ts (renT a.body (withM es a.vars (nextN n a.vars)) (n + a.vars.length)).2).1 := by obtain ⟨s, v, b⟩ := a; rw [renAs]; rfl
theorem renAs_snd (es : List (Str × Str)) (a : Ar) (ts : List Ar) (n : Nat) : (renAs es (a :: ts) n).2 = (renAs es ts (renT a.body (withM es a.vars (nextN n a.vars)) (n + a.vars.length)).2).2 := by obtain ⟨s, v, b⟩ := a; rw [renAs]; rfl
theorem renT_fst {t : Tm} {es : List (Str × Str)} {n : Nat} {ss pp : Str} {nn : Nat} (h : (ss, pp, nn) = headM t.kind t.name t.param es n) :
    (renT t es n).1 = ⟨t.kind, t.at_, ss, pp, t.n, (renKs (boundM t.kind t.name t.param) (boundM t.kind ss pp) 0 es t.kids nn).1, (renAs es t.arms (renKs (boundM t.kind t.name t.param) (boundM t.kind ss pp) 0 es t.kids nn).2).1, t.row⟩ ∧
    (renT t es n).2 = (renAs es t.arms (renKs (boundM t.kind t.name t.param) (boundM t.kind ss pp) 0 es t.kids nn).2).2 := by
  rw [renT_eq, ← h]; exact ⟨rfl, rfl⟩
theorem map_one {m : Mem} {g : Nat} {es : List (Str × Value)} (h : MapAt S m g es) : Reads (MapR S) 1 m [.map (some g)] [es] := Reads.single rfl ⟨g, rfl, h⟩
theorem splice_one {x : Value} {vs : List Value} (h : vs.length = 1) : splice 0 [x] vs = [x] := by
  unfold splice; rw [List.take_zero, List.drop_of_length_le (by simp [h])]; rfl
theorem splice_whole {ws vs : List Value} (h : vs.length = ws.length) : splice 0 ws vs = ws := by
  unfold splice; rw [List.take_zero, List.drop_of_length_le (by omega)]; simp
theorem ar_body {m : Mem} {a : Ar} {vs ws : List Value} {b : Tm} (h : ArR m a vs) (hb : TmR m b ws) : ArR m ⟨a.name, a.vars, b⟩ (splice 2 ws vs) := by
  obtain ⟨o, c, bs, rfl, h1, h2⟩ := h
  refine ⟨o, c, ws, ?_, h1, hb⟩
  have e1 := h2.len; have e2 := hb.len
  unfold splice
  rw [show List.drop (2 + ws.length) (S a.name :: Value.slice o a.vars.length c :: bs) = [] from List.drop_of_length_le (by simp [e1, e2]), List.append_nil]
  rfl
theorem ar_vars {m : Mem} {a : Ar} {vs : List Value} {l : List Str} {o : Option Addr} {c : Nat} (h : ArR m a vs) (hs : Strs m o l.length c l) : ArR m ⟨a.name, l, a.body⟩ (splice 1 [.slice o l.length c] vs) := by
  obtain ⟨o', c', bs, rfl, h1, h2⟩ := h
  exact ⟨o, c, bs, rfl, hs, h2⟩
def MP.tmS (t : Tm) : MP := MP.mem (fun vs : List Value => .agg vs.toArray) (fun vs m => TmR m t vs) fun hm h => h.mono hm
theorem ar_sel {m : Mem} {a : Ar} {vs : List Value} (h : ArR m a vs) : (MP.tmS a.body).p m (.agg ((vs.drop 2).take 21).toArray) := by
  obtain ⟨o, c, bs, rfl, h1, h2⟩ := h
  exact ⟨bs, by rw [show (S a.name :: Value.slice o a.vars.length c :: bs).drop 2 = bs from rfl, List.take_of_length_le (by rw [h2.len]; decide)]; rfl, h2⟩
theorem ar_selV {m : Mem} {a : Ar} {vs : List Value} (h : ArR m a vs) : ∃ v, vs[1]? = some v ∧ (MP.strs a.vars).p m v := by
  obtain ⟨o, c, bs, rfl, h1, h2⟩ := h
  exact ⟨_, rfl, (o, c), rfl, h1⟩
theorem kids_bulk : ∀ l : List Tm, l.length ≤ bulkKs l
  | [] => Nat.zero_le _
  | t :: l => by rw [bulkKs, List.length_cons, bulkM_eq]; have := kids_bulk l; omega
theorem arms_bulk : ∀ l : List Ar, l.length ≤ bulkAs l
  | [] => Nat.zero_le _
  | ⟨s, v, b⟩ :: l => by rw [bulkAs, List.length_cons, bulkM_eq]; have := arms_bulk l; omega
theorem bulkAs_cons (a : Ar) (ts : List Ar) : bulkAs (a :: ts) = a.name.length + (a.vars.map fun x => x.length + 2).sum + bulkM a.body + bulkAs ts := by obtain ⟨s, l, b⟩ := a; rw [bulkAs]; rfl
theorem get_midY {α : Type} {d l : List α} {x : α} {y : Nat} (h : d.length = y) : (d ++ x :: l)[y]? = some x := by subst h; exact get_mid d l x
theorem set_midY {α : Type} {d l : List α} {x z : α} {y : Nat} (h : d.length = y) : (d ++ x :: l).set y z = (d ++ [z]) ++ l := by subst h; exact set_mid d l x z
theorem set_midX {α : Type} {d l : List α} {x z : α} {y : Nat} (h : d.length = y) : (d ++ x :: l).set y z = d ++ z :: l := by rw [set_midY h]; simp
abbrev rterm_G (t : Tm) : Prop := ∀ {w : World} {m : Mem} {r n : Nat} {vs_t : List Value} {g : Nat} {es : List (Str × Str)} (hA : Agree w m) (hr : (Res.blk (.pointer (some ⟨r, 0, none⟩)) (.cells #[.int .i64 ((n : Nat) : Int)] 63)).holds w m) (h_t : TmR m t vs_t) (h_es : MapAt S m g (vS es)) (hT : Tab w) (hsh : ShT t) (hnb : n + bulkM t ≤ 1000000000) (hNT : NotTab r), FnG Tryd.prog 25 #[.pointer (some ⟨r, 0, none⟩), .agg vs_t.toArray, .map (some g)] [r] w m (fun w' m' v => Loc [r] w.heap.size [.blk (.pointer (some ⟨r, 0, none⟩)) (.cells #[.int .i64 (((renT t es n).2 : Nat) : Int)] 63)] w' m' ∧ (MP.tm (renT t es n).1).p m' v)
set_option maxHeartbeats 4000000 in
theorem rterm_s {t : Tm} (ihk : ∀ u ∈ t.kids, rterm_G u) (iha : ∀ a ∈ t.arms, rterm_G a.body) {w : World} {m : Mem} {r n : Nat} {vs_t : List Value} {g : Nat} {es : List (Str × Str)} (hA : Agree w m) (hr : (Res.blk (.pointer (some ⟨r, 0, none⟩)) (.cells #[.int .i64 ((n : Nat) : Int)] 63)).holds w m) (h_t : TmR m t vs_t) (h_es : MapAt S m g (vS es)) (hT : Tab w) (hsh : ShT t) (hnb : n + bulkM t ≤ 1000000000) (hNT : NotTab r) : FnG Tryd.prog 25 #[.pointer (some ⟨r, 0, none⟩), .agg vs_t.toArray, .map (some g)] [r] w m (fun w' m' v => Loc [r] w.heap.size [.blk (.pointer (some ⟨r, 0, none⟩)) (.cells #[.int .i64 (((renT t es n).2 : Nat) : Int)] 63)] w' m' ∧ (MP.tm (renT t es n).1).p m' v) := by
  obtain ⟨⟨oK_t, cK_t, oA_t, cA_t, oR_t, cR_t, t0_t, t1_t, t2_t, t3_t, t4_t, t5_t, u0_t, u1_t, u2_t, u3_t, u4_t, u5_t⟩, rfl, hon_t, hkk_t, haa_t, hrr_t⟩ := h_t.open_
  dsimp only at hkk_t haa_t hrr_t
  have hbg_t := hkk_t.big; have hcp_t := hkk_t.cap; have hbh_t := haa_t.big; have hcq_t := haa_t.cap
  refine fn_enter (vs := [_, _, _]) Tryd.func25 rfl rfl rfl fun a0 hfr0 => ?_
  have hst0 := st_enter hA (loc_one hr (by simp [Res.blocks, ptrBlock]))
  have hM : MLe m m := MLe.refl m
  have hNTs : ∀ q ∈ [r], NotTab q := fun q hq => by rw [List.mem_singleton] at hq; rw [hq]; exact hNT
  have hbe := bulkM_eq t
  have hkl_ : t.kids.length ≤ bulkKs t.kids := kids_bulk _
  have hal_ : t.arms.length ≤ bulkAs t.arms := arms_bulk _
  refine seq_any fun _ hK1 => ?_
  replace hst0 := hst0.more (r := .free) trivial List.nodup_nil (by simp [Res.blocks])
  replace hst0 := hst0.more (r := .free) trivial List.nodup_nil (by simp [Res.blocks])
  refine ra0 (tch := [(0, 1, (fun v => .blk v _)), (1, 2, (fun v => .blk v _))]) hst0 hfr0 (.consT rfl rfl (fun _ => rfl) rfl (ob_boxL rfl rfl) <| .consT rfl rfl (fun _ => rfl) rfl (ob_allocL Tryd.zeroValue33 rfl) <| .nil) ?_
  intro a1 w1 m1 hst1 hle1 hk1
  have hfr1 := hk1.fr (T' := [(0, _), (2, _)]) (.old rfl rfl <| .old rfl rfl <| .nil)
  obtain ⟨gB, e2, _⟩ := hk1.ex 4 rfl
  replace hfr1 := hfr1.cons e2
  obtain ⟨gT, e3, _⟩ := hk1.ex 6 rfl
  replace hfr1 := hfr1.cons e3
  replace hst1 := hst1.fin (L' := [_, _, _]) (.cons e2 <| .cons e3 <| .nil)
  replace h_t := h_t.mono hle1
  replace hkk_t := hkk_t.mono hle1
  replace haa_t := haa_t.mono hle1
  replace hrr_t := hrr_t.mono hle1
  replace h_es := h_es.mono hle1
  replace hM := hM.trans hle1
  clear hst0 hfr0 hk1
  refine hK1 _ _ ?_; clear hK1
  refine seq_any fun _ hK4 => ?_
  replace hst1 := hst1.more (r := .free) trivial List.nodup_nil (by simp [Res.blocks])
  replace hst1 := hst1.more (r := .free) trivial List.nodup_nil (by simp [Res.blocks])
  refine region_any (tch := [(2, 3, (fun v => .mrowx v t.kids.length 21 33 (MP.reads (fun m vs t => TmR m t vs) 21 t.kids))), (5, 4, (fun v => .mrowx v t.arms.length 23 60 (MP.reads (fun m vs t => ArR m t vs) 23 t.arms))), (7, 1, (fun u => .blk _ (.cells (_ ++ [u] ++ _).toArray _))), (9, 1, (fun u => .blk (.pointer (some ⟨gB, 0, none⟩)) (.cells (((tmV t (⟨oK_t, cK_t, oA_t, cA_t, oR_t, cR_t, t0_t, t1_t, t2_t, t3_t, t4_t, t5_t, u0_t, u1_t, u2_t, u3_t, u4_t, u5_t⟩ : TmY)).take 5 ++ [pv2 u] ++ (tmV t (⟨oK_t, cK_t, oA_t, cA_t, oR_t, cR_t, t0_t, t1_t, t2_t, t3_t, t4_t, t5_t, u0_t, u1_t, u2_t, u3_t, u4_t, u5_t⟩ : TmY)).drop (5 + 1)).take 6 ++ [pv1 u] ++ ((tmV t (⟨oK_t, cK_t, oA_t, cA_t, oR_t, cR_t, t0_t, t1_t, t2_t, t3_t, t4_t, t5_t, u0_t, u1_t, u2_t, u3_t, u4_t, u5_t⟩ : TmY)).take 5 ++ [pv2 u] ++ (tmV t (⟨oK_t, cK_t, oA_t, cA_t, oR_t, cR_t, t0_t, t1_t, t2_t, t3_t, t4_t, t5_t, u0_t, u1_t, u2_t, u3_t, u4_t, u5_t⟩ : TmY)).drop (5 + 1)).drop (6 + 1)).toArray 33)))]) (fun _ => mixed) hst1 hfr1 (by kernel_rfl) (by kernel_rfl) (by kernel_rfl) (.cons rfl (ob_fieldAddrO (off := 5) rfl Tryd.underlying33 rfl rfl Tryd.sizeOf24 rfl) <| .cons rfl (ob_loadL (j := 1) rfl rfl Tryd.isAgg24 rfl) <| .consT rfl rfl (fun _ => rfl) rfl (ob_callT rfl (.cons rfl <| .nil) Tryd.call33 (κ := .ex (MP.made' t.kids.length)) (fun σ w m hK hr hkn => by have hle_ := KC.le hK; have hA := KC.agree hK; have hM := hM.trans hle_; have h_t := h_t.mono hle_; have hkk_t := hkk_t.mono hle_; have haa_t := haa_t.mono hle_; have hrr_t := hrr_t.mono hle_; have h_es := h_es.mono hle_; have hT := tab_keepG hT hK.st.ext hNTs; exact cloneTm_t hA hkk_t (by omega))) <| .cons rfl (ob_fieldAddrO (off := 6) rfl Tryd.underlying33 rfl rfl Tryd.sizeOf25 rfl) <| .cons rfl (ob_loadL (j := 1) rfl rfl Tryd.isAgg25 rfl) <| .consT rfl rfl (fun _ => rfl) rfl (ob_callT rfl (.cons rfl <| .nil) Tryd.call34 (κ := .ex (MP.made' t.arms.length)) (fun σ w m hK hr hkn => by have hle_ := KC.le hK; have hA := KC.agree hK; have hM := hM.trans hle_; have h_t := h_t.mono hle_; have hkk_t := hkk_t.mono hle_; have haa_t := haa_t.mono hle_; have hrr_t := hrr_t.mono hle_; have h_es := h_es.mono hle_; have hT := tab_keepG hT hK.st.ext hNTs; exact cloneAr_t hA haa_t (by omega))) <| .cons rfl (ob_fieldAddrO (off := 5) rfl Tryd.underlying33 rfl rfl Tryd.sizeOf24 rfl) <| .consT rfl rfl (fun _ => rfl) rfl (ob_imgT 19 rfl rfl rfl fun y19 => ob_storeV rfl rfl rfl rfl rfl Tryd.sizeOf24 rfl rfl rfl) <| .cons rfl (ob_fieldAddrO (off := 6) rfl Tryd.underlying33 rfl rfl Tryd.sizeOf25 rfl) <| .consT2 (d' := 19) rfl rfl (fun _ => rfl) rfl rfl rfl (ob_imgT2 22 rfl rfl rfl fun y22 => ob_storeV2 (k := 6) (C := fun x => (tmV t (⟨oK_t, cK_t, oA_t, cA_t, oR_t, cR_t, t0_t, t1_t, t2_t, t3_t, t4_t, t5_t, u0_t, u1_t, u2_t, u3_t, u4_t, u5_t⟩ : TmY)).take 5 ++ [x] ++ (tmV t (⟨oK_t, cK_t, oA_t, cA_t, oR_t, cR_t, t0_t, t1_t, t2_t, t3_t, t4_t, t5_t, u0_t, u1_t, u2_t, u3_t, u4_t, u5_t⟩ : TmY)).drop (5 + 1)) rfl rfl rfl rfl rfl Tryd.sizeOf25 rfl (fun _ => rfl) rfl) <| .nil) ?_
  intro a2 w2 m2 hst2 hle2 hk2
  have hfr2 := hk2.fr (T' := [(0, _), (2, _), (4, _), (6, _)]) (.old rfl rfl <| .old rfl rfl <| .old rfl rfl <| .old rfl rfl <| .nil)
  obtain ⟨⟨oK, cK⟩, e5, hcK⟩ := hk2.ex 19 rfl
  obtain ⟨⟨oA, cA⟩, e6, hcA⟩ := hk2.ex 22 rfl
  replace hst2 := hst2.fin (L' := [_, _, _, _, _]) (.cons e5 <| .cons e6 <| .cons e5 <| .cons (pair_eq e6 e5) <| .nil)
  try simp only [List.take_succ_cons, List.take_zero, List.drop_succ_cons, List.drop_zero, List.cons_append, List.nil_append, List.append_nil, List.length_cons, List.length_nil, Nat.zero_add, Nat.reduceAdd] at hst2
  replace h_t := h_t.mono hle2
  replace hkk_t := hkk_t.mono hle2
  replace haa_t := haa_t.mono hle2
  replace hrr_t := hrr_t.mono hle2
  replace h_es := h_es.mono hle2
  replace hM := hM.trans hle2
  clear hst1 hfr1 hk2
  refine hK4 _ _ ?_; clear hK4
  refine seq_any fun _ hK7 => ?_
  replace hst2 := hst2.more (r := .free) trivial List.nodup_nil (by simp [Res.blocks])
  refine ra0 (tch := [(3, 5, (fun v => .mrowx v _ _ _ _))]) hst2 hfr2 (.cons rfl (ob_move rfl) <| .cons rfl (ob_move rfl) <| .cons rfl (ob_move rfl) <| .consT rfl rfl (fun _ => rfl) rfl (ob_buildSliceMX (R := MapR S) (l := [vS es, vS es, vS es]) (.cons rfl <| .cons rfl <| .cons rfl <| .nil) Tryd.underlying78 Tryd.sizeOf66 Tryd.zeroValue66 rfl rfl rfl rfl rfl (fun w m hK => ((map_one (h_es.mono (KC.le hK))).app (map_one (h_es.mono (KC.le hK)))).app (map_one (h_es.mono (KC.le hK))))) <| .consA 28 rfl rfl <| .nil) ?_
  intro a3 w3 m3 hst3 hle3 hk3
  have hfr3 := hk3.fr (T' := [(0, _), (2, _), (4, _), (6, _)]) (.old rfl rfl <| .old rfl rfl <| .old rfl rfl <| .old rfl rfl <| .nil)
  obtain ⟨gI, e8, _⟩ := hk3.ex 28 rfl
  replace hfr3 := hfr3.cons (hk3.same 7 rfl e8)
  replace hst3 := hst3.fin (L' := [_, _, _, _, _, _]) (.cons e8 <| .nil)
  replace h_t := h_t.mono hle3
  replace hkk_t := hkk_t.mono hle3
  replace haa_t := haa_t.mono hle3
  replace hrr_t := hrr_t.mono hle3
  replace h_es := h_es.mono hle3
  replace hM := hM.trans hle3
  clear hst2 hfr2 hk3
  refine hK7 _ _ ?_; clear hK7
  refine join_any (T := [(0, _), (2, _), (4, _), (6, _), (7, _)]) (fun (y : Str × Str × Nat × List (Str × Value) × List (Str × Value) × List (Str × Value)) => ([] : List (Nat × Value))) (fun y => [.blk (.pointer (some ⟨r, 0, none⟩)) (.cells #[.int .i64 ((y.2.2.1 : Nat) : Int)] 63), .blk (.pointer (some ⟨gB, 0, none⟩)) (.cells ([.int .i64 t.kind, .int .i64 t.at_, S y.1, S y.2.1, .int .i64 t.n, .slice oK t.kids.length cK, .slice oA t.arms.length cA, t0_t, t1_t, t2_t, t3_t, t4_t, t5_t, .slice oR_t t.row.labels.length cR_t, .int .i64 t.row.var, u0_t, u1_t, u2_t, u3_t, u4_t, u5_t] : List Value).toArray 33), _, _, _, .mrowx (.slice (some ⟨gI, 0, none⟩) 3 3) 3 1 66 (MP.reads (MapR S) 1 [y.2.2.2.1, y.2.2.2.2.1, y.2.2.2.2.2])]) (fun (y : Str × Str × Nat × List (Str × Value) × List (Str × Value) × List (Str × Value)) m => (fun (ss : Str) (pp : Str) (nn : Nat) (e0 : List (Str × Value)) (e1 : List (Str × Value)) (e2 : List (Str × Value)) => ((ss, pp, nn) = headM t.kind t.name t.param es n) ∧ (∀ i, i < t.kids.length → [e0, e1, e2][min i 2]? = some (vS (withM es (boundM t.kind t.name t.param i) (boundM t.kind ss pp i))))) y.1 y.2.1 y.2.2.1 y.2.2.2.1 y.2.2.2.2.1 y.2.2.2.2.2) ((t.name, t.param, n, vS es, vS es, vS es)) ⟨hst3, MLe.refl _, hfr3.sub (.cons rfl <| .cons rfl <| .cons rfl <| .cons rfl <| .cons rfl <| .nil), trivial⟩ (fun y a4 w4 m4 hh4 => ?_) (fun K9 hj9 => ?_)
  · have hst4 := hh4.st; have hle4 := hh4.le; have hfr4 := hh4.fr; have hrel := hh4.rel; clear hh4
    replace h_t := h_t.mono hle4
    replace hkk_t := hkk_t.mono hle4
    replace haa_t := haa_t.mono hle4
    replace hrr_t := hrr_t.mono hle4
    replace h_es := h_es.mono hle4
    clear hst3 hfr3
    replace hM := hM.trans hle4
    obtain ⟨ss, pp, nn, e0, e1, e2⟩ := y
    dsimp only at hrel hfr4 hst4
    obtain ⟨hhd, hsc⟩ := hrel
    have hnn9 := head_le t.kind t.name t.param es n
    rw [← hhd] at hnn9
    dsimp only at hnn9
    refine seq_any fun _ hK10 => ?_
    refine seq_any fun _ hK11 => ?_
    refine rp0 hst4 hfr4 (.cons rfl (ob_fieldAddrO (off := 5) rfl Tryd.underlying33 rfl rfl Tryd.sizeOf24 rfl) <| .cons rfl (ob_loadL (j := 1) rfl rfl Tryd.isAgg24 rfl) <| .cons rfl (ob_len rfl Tryd.underlying24) <| .cons rfl (ob_move rfl) <| .nil) ?_
    intro a5 w5 m5 hst5 hle5 hk5
    have hfr5 := hk5.fr (T' := [(0, _), (2, _), (4, _), (6, _), (7, _), (113, _), (114, _)]) (.old rfl rfl <| .old rfl rfl <| .old rfl rfl <| .old rfl rfl <| .old rfl rfl <| .new rfl <| .new rfl <| .nil)
    replace h_t := h_t.mono hle5
    replace hkk_t := hkk_t.mono hle5
    replace haa_t := haa_t.mono hle5
    replace hrr_t := hrr_t.mono hle5
    replace h_es := h_es.mono hle5
    replace hM := hM.trans hle5
    clear hst4 hfr4 hk5
    refine hK11 _ _ ?_; clear hK11
    refine wp_block ?_
    refine loop_any (T := [(0, _), (2, _), (4, _), (6, _), (7, _), (113, _)]) (fun (y : Nat × Nat × List Tm) => ([(114, .int .i64 (y.1 : Int))] : List (Nat × Value))) (fun y => [.blk (.pointer (some ⟨r, 0, none⟩)) (.cells #[.int .i64 ((y.2.1 : Nat) : Int)] 63), _, _, .mrowx (.slice oK t.kids.length cK) t.kids.length 21 33 (MP.reads (fun m vs t => TmR m t vs) 21 (y.2.2 ++ t.kids.drop y.1)), _, _]) (fun (y : Nat × Nat × List Tm) m => (fun (y : Nat) (nk : Nat) (dk : List Tm) => (y ≤ t.kids.length) ∧ (dk.length = y) ∧ ((renKs (boundM t.kind t.name t.param) (boundM t.kind ss pp) 0 es (t.kids) nn).1 = dk ++ (renKs (boundM t.kind t.name t.param) (boundM t.kind ss pp) y es (t.kids.drop y) nk).1) ∧ ((renKs (boundM t.kind t.name t.param) (boundM t.kind ss pp) 0 es (t.kids) nn).2 = (renKs (boundM t.kind t.name t.param) (boundM t.kind ss pp) y es (t.kids.drop y) nk).2) ∧ (nk + bulkKs (t.kids.drop y) ≤ nn + bulkKs t.kids)) y.1 y.2.1 y.2.2) (fun y => t.kids.length - y.1) ((0, nn, [])) ⟨hst5, MLe.refl _, hfr5.sub (.cons rfl <| .cons rfl <| .cons rfl <| .cons rfl <| .cons rfl <| .cons rfl <| .cons rfl <| .nil), ⟨Nat.zero_le _, rfl, rfl, rfl, Nat.le_refl _⟩⟩ fun y a6 w6 m6 hh6 => ?_
    have hst6 := hh6.st; have hle6 := hh6.le; have hfr6 := hh6.fr; have hrel := hh6.rel; clear hh6
    replace h_t := h_t.mono hle6
    replace hkk_t := hkk_t.mono hle6
    replace haa_t := haa_t.mono hle6
    replace hrr_t := hrr_t.mono hle6
    replace h_es := h_es.mono hle6
    clear hst5 hfr5
    replace hM := hM.trans hle6
    obtain ⟨y, nk, dk⟩ := y
    dsimp only at hrel hfr6 hst6
    obtain ⟨hyn, hjl, hj1, hj2, hj3⟩ := hrel
    have hlh6 := hle6
    refine seq_any fun _ hK13 => ?_
    refine rp0 hst6 hfr6 (.cons rfl (ob_lss rfl rfl) <| .nil) ?_
    intro a7 w7 m7 hst7 hle7 hk7
    have hfr7 := hk7.fr (T' := [(114, _), (0, _), (2, _), (4, _), (6, _), (7, _), (113, _), (115, _)]) (.old rfl rfl <| .old rfl rfl <| .old rfl rfl <| .old rfl rfl <| .old rfl rfl <| .old rfl rfl <| .old rfl rfl <| .new rfl <| .nil)
    replace h_t := h_t.mono hle7
    replace hkk_t := hkk_t.mono hle7
    replace haa_t := haa_t.mono hle7
    replace hrr_t := hrr_t.mono hle7
    replace h_es := h_es.mono hle7
    have hlh7 := hlh6.trans hle7
    replace hM := hM.trans hle7
    clear hst6 hfr6 hk7
    refine hK13 _ _ ?_; clear hK13
    refine seq_any fun _ hK14 => ?_
    refine cond_any hfr7 rfl rfl (fun hb115 => ?_) (fun hb115 => ?_)
    · try simp only [nq1, nq2, nq3, nq4, nq5, nq6, nq7, nq8, nq9, u8_eq] at hb115
      refine wp_skip ?_
      refine hK14 _ _ ?_; clear hK14
      refine seq_any fun _ hK15 => ?_
      refine wp_block ?_
      refine seq_any fun _ hK16 => ?_
      refine rp0 hst7 hfr7 (.cons rfl (ob_move rfl) <| .cons rfl (ob_assign rfl) <| .nil) ?_
      intro a8 w8 m8 hst8 hle8 hk8
      have hfr8 := hk8.fr (T' := [(114, _), (0, _), (2, _), (4, _), (6, _), (7, _), (113, _), (13, _)]) (.old rfl rfl <| .old rfl rfl <| .old rfl rfl <| .old rfl rfl <| .old rfl rfl <| .old rfl rfl <| .old rfl rfl <| .new rfl <| .nil)
      replace h_t := h_t.mono hle8
      replace hkk_t := hkk_t.mono hle8
      replace haa_t := haa_t.mono hle8
      replace hrr_t := hrr_t.mono hle8
      replace h_es := h_es.mono hle8
      have hlh8 := hlh7.trans hle8
      replace hM := hM.trans hle8
      clear hst7 hfr7 hk8
      refine hK16 _ _ ?_; clear hK16
      obtain ⟨x9, hx9, hd9⟩ : ∃ x, t.kids[y]? = some x ∧ t.kids.drop y = x :: t.kids.drop (y + 1) := ⟨t.kids[y]'(by omega), List.getElem?_eq_getElem (by omega), List.drop_eq_getElem_cons (by omega)⟩
      have hm9 : x9 ∈ t.kids := List.mem_of_getElem? hx9
      rw [hd9] at hst8
      rw [hd9, renKs_fst] at hj1
      rw [hd9, renKs_snd] at hj2
      rw [hd9, bulkKs] at hj3
      have hga9 : (dk ++ x9 :: t.kids.drop (y + 1))[y]? = some x9 := get_midY hjl
      have hsc9 := hsc y (by omega)
      have hbx9 := bulkKs_mem hm9
      obtain ⟨gK, hgK⟩ := MP.made_some (hst8.loc.at_ (k := 3) rfl) (by omega)
      subst hgK
      refine region_any (tch := [(14, 0, (fun _ => .blk (.pointer (some ⟨r, 0, none⟩)) (.cells #[.int .i64 (((renT x9 (withM es (boundM t.kind t.name t.param y) (boundM t.kind ss pp y)) nk).2 : Nat) : Int)] 63))), (16, 3, (fun _ => .mrowx _ _ _ _ _))]) (fun _ => mixed) hst8 hfr8 (by kernel_rfl) (by kernel_rfl) (by kernel_rfl) (.cons rfl (ob_fieldAddrO (off := 5) rfl Tryd.underlying33 rfl rfl Tryd.sizeOf24 rfl) <| .cons rfl (ob_loadL (j := 1) rfl rfl Tryd.isAgg24 rfl) <| .cons rfl (ob_move rfl) <| .cons rfl (ob_move rfl) <| .cons rfl (ob_fieldAddrO (off := 5) rfl Tryd.underlying33 rfl rfl Tryd.sizeOf24 rfl) <| .cons rfl (ob_loadL (j := 1) rfl rfl Tryd.isAgg24 rfl) <| .cons rfl (ob_move rfl) <| .cons rfl (ob_indexAddr (k := y) rfl rfl Tryd.underlying24 Tryd.sizeOf33 rfl (by omega)) <| .cons rfl (ob_loadMX (R := (fun m vs t => TmR m t vs)) (i := y) (j := 3) (l := dk ++ x9 :: t.kids.drop (y + 1)) rfl rfl Tryd.isAgg33 Tryd.sizeOf33 hga9 (by decide)) <| .cons rfl (ob_move rfl) <| .cons rfl (ob_move rfl) <| .cons rfl (ob_min2 rfl rfl) <| .cons rfl (ob_indexAddr (k := (min y 2)) rfl rfl Tryd.underlying78 Tryd.sizeOf66 (by split <;> omega) (by omega)) <| .cons rfl (ob_loadMX1 (R := MapR S) (i := min y 2) (off := 0) (j := 5) (l := [e0, e1, e2]) (φ := MP.mapAt S (vS (withM es (boundM t.kind t.name t.param y) (boundM t.kind ss pp y)))) rfl rfl Tryd.isAgg66 hsc9 (by decide) (fun m vs h => by obtain ⟨g, rfl, h1⟩ := h; exact ⟨_, rfl, g, rfl, h1⟩)) <| .consT rfl rfl (fun _ => rfl) rfl (ob_imgT 125 rfl rfl rfl fun y125 => ob_imgT 130 rfl rfl rfl fun y130 => ob_callT rfl (.cons rfl <| .cons rfl <| .cons rfl <| .nil) Tryd.call25 (κ := .ex (MP.tm (renT x9 (withM es (boundM t.kind t.name t.param y) (boundM t.kind ss pp y)) nk).1)) (fun σ w m hK hr hkn => by have hle_ := KC.le hK; have hA := KC.agree hK; have hM := hM.trans hle_; have hr0_ := hK.2; have hr1_ := hK.1.2; have h_t := h_t.mono hle_; have hkk_t := hkk_t.mono hle_; have haa_t := haa_t.mono hle_; have hrr_t := hrr_t.mono hle_; have h_es := h_es.mono hle_; have hT := tab_keepG hT hK.1.1.st.ext hNTs; exact (Calls.mono (ihk _ hm9 hA hr hr1_ hr0_ hT (hsh.kid hm9) (by omega) hNT) fun e w2 ⟨v, m2, e1, hE, hL, hv⟩ => ⟨v, m2, e1, touch_of hE hL, hv⟩))) <| .cons rfl (ob_indexAddr (k := y) rfl rfl Tryd.underlying24 Tryd.sizeOf33 rfl (by omega)) <| .consT rfl rfl (fun _ => rfl) rfl (ob_imgT 131 rfl rfl rfl fun y131 => ob_storeMX (R := (fun m vs t => TmR m t vs)) (i := y) (off := 0) (l := dk ++ x9 :: t.kids.drop (y + 1)) (b := (renT x9 (withM es (boundM t.kind t.name t.param y) (boundM t.kind ss pp y)) nk).1) (ws := tmV (renT x9 (withM es (boundM t.kind t.name t.param y) (boundM t.kind ss pp y)) nk).1 y131) rfl rfl rfl Tryd.sizeOf33 hga9 (by decide) (by show 0 + 21 ≤ 21; omega) (fun w m hK vs hv _ => by rw [splice_whole hv]; exact hK.2) (fun w m hK => hK.2.one)) <| .nil) ?_
      intro a9 w9 m9 hst9 hle9 hk9
      have hfr9 := hk9.fr (T' := [(114, _), (0, _), (2, _), (4, _), (6, _), (7, _), (113, _)]) (.old rfl rfl <| .old rfl rfl <| .old rfl rfl <| .old rfl rfl <| .old rfl rfl <| .old rfl rfl <| .old rfl rfl <| .nil)
      obtain ⟨y17, e17, hy17⟩ := hk9.ex 131 rfl
      replace hst9 := hst9.fin (L' := [_, _, _, _, _, _]) (.cons e17 <| .cons rfl <| .nil)
      try simp only [List.take_succ_cons, List.take_zero, List.drop_succ_cons, List.drop_zero, List.cons_append, List.nil_append, List.append_nil, List.length_cons, List.length_nil, Nat.zero_add, Nat.reduceAdd] at hst9
      have hlh9 := hlh8.trans hle9
      clear hst8 hfr8 hk9
      rw [set_midY hjl] at hst9
      refine hK15 _ _ ?_; clear hK15
      refine rp0 hst9 hfr9 (.cons rfl (ob_add rfl rfl ⟨by omega, by omega⟩) <| .cons rfl (ob_move rfl) <| .nil) ?_
      intro a10 w10 m10 hst10 hle10 hk10
      have hfr10 := hk10.fr (T' := [(0, _), (2, _), (4, _), (6, _), (7, _), (113, _), (114, _)]) (.old rfl rfl <| .old rfl rfl <| .old rfl rfl <| .old rfl rfl <| .old rfl rfl <| .old rfl rfl <| .new rfl <| .nil)
      have hlh10 := hlh9.trans hle10
      clear hst9 hfr9 hk10
      exact ⟨(y + 1, (renT x9 (withM es (boundM t.kind t.name t.param y) (boundM t.kind ss pp y)) nk).2, (dk ++ [(renT x9 (withM es (boundM t.kind t.name t.param y) (boundM t.kind ss pp y)) nk).1])), m10, by show t.kids.length - (y + 1) < t.kids.length - y; omega, ⟨hst10, hlh10, hfr10.sub (.cons rfl <| .cons rfl <| .cons rfl <| .cons rfl <| .cons rfl <| .cons rfl <| .cons rfl <| .nil), ⟨by show y + 1 ≤ t.kids.length; omega, by show (dk ++ [_]).length = y + 1; rw [List.length_append, hjl]; rfl, by rw [hj1]; simp, by rw [hj2], by show (renT x9 (withM es (boundM t.kind t.name t.param y) (boundM t.kind ss pp y)) nk).2 + bulkKs (t.kids.drop (y + 1)) ≤ _; have := (bnd_ren x9 (withM es (boundM t.kind t.name t.param y) (boundM t.kind ss pp y)) nk).1; have := bndT_len x9; omega⟩⟩⟩
    · try simp only [nq1, nq2, nq3, nq4, nq5, nq6, nq7, nq8, nq9, u8_eq] at hb115
      have hge : y = t.kids.length := by omega
      rw [List.drop_of_length_le (by omega), renKs] at hj1 hj2
      rw [List.append_nil] at hj1
      rw [List.drop_of_length_le (by omega), bulkKs] at hj3
      rw [List.drop_of_length_le (by omega), List.append_nil] at hst7
      dsimp only at hj1 hj2
      have hgeK := hge
      clear hge
      refine wp_exit ?_
      refine hK10 _ _ ?_; clear hK10
      refine seq_any fun _ hK18 => ?_
      refine seq_any fun _ hK19 => ?_
      refine rp0 hst7 hfr7 (.cons rfl (ob_fieldAddrO (off := 6) rfl Tryd.underlying33 rfl rfl Tryd.sizeOf25 rfl) <| .cons rfl (ob_loadL (j := 1) rfl rfl Tryd.isAgg25 rfl) <| .cons rfl (ob_len rfl Tryd.underlying25) <| .cons rfl (ob_move rfl) <| .nil) ?_
      intro a8 w8 m8 hst8 hle8 hk8
      have hfr8 := hk8.fr (T' := [(114, _), (0, _), (2, _), (4, _), (6, _), (136, _), (137, _)]) (.old rfl rfl <| .old rfl rfl <| .old rfl rfl <| .old rfl rfl <| .old rfl rfl <| .new rfl <| .new rfl <| .nil)
      replace h_t := h_t.mono hle8
      replace hkk_t := hkk_t.mono hle8
      replace haa_t := haa_t.mono hle8
      replace hrr_t := hrr_t.mono hle8
      replace h_es := h_es.mono hle8
      have hlh8 := hlh7.trans hle8
      replace hM := hM.trans hle8
      clear hst7 hfr7 hk8
      refine hK19 _ _ ?_; clear hK19
      refine wp_block ?_
      rw [← hj2] at hst8
      have hlq20 := hlh8
      refine loop_any (T := [(114, _), (0, _), (2, _), (4, _), (6, _), (136, _)]) (fun (y : Nat × Nat × List Ar) => ([(137, .int .i64 (y.1 : Int))] : List (Nat × Value))) (fun y => [.blk (.pointer (some ⟨r, 0, none⟩)) (.cells #[.int .i64 ((y.2.1 : Nat) : Int)] 63), _, _, _, .mrowx (.slice oA t.arms.length cA) t.arms.length 23 60 (MP.reads (fun m vs t => ArR m t vs) 23 (y.2.2 ++ t.arms.drop y.1)), _]) (fun (y : Nat × Nat × List Ar) m => (fun (y : Nat) (nq : Nat) (da : List Ar) => (y ≤ t.arms.length) ∧ (da.length = y) ∧ ((renAs es (t.arms) (renKs (boundM t.kind t.name t.param) (boundM t.kind ss pp) 0 es (t.kids) nn).2).1 = da ++ (renAs es (t.arms.drop y) nq).1) ∧ ((renAs es (t.arms) (renKs (boundM t.kind t.name t.param) (boundM t.kind ss pp) 0 es (t.kids) nn).2).2 = (renAs es (t.arms.drop y) nq).2) ∧ (nq + bulkAs (t.arms.drop y) ≤ (renKs (boundM t.kind t.name t.param) (boundM t.kind ss pp) 0 es (t.kids) nn).2 + bulkAs t.arms)) y.1 y.2.1 y.2.2) (fun y => t.arms.length - y.1) ((0, (renKs (boundM t.kind t.name t.param) (boundM t.kind ss pp) 0 es (t.kids) nn).2, [])) ⟨hst8, MLe.refl _, hfr8.sub (.cons rfl <| .cons rfl <| .cons rfl <| .cons rfl <| .cons rfl <| .cons rfl <| .cons rfl <| .nil), ⟨Nat.zero_le _, rfl, rfl, rfl, Nat.le_refl _⟩⟩ fun y a9 w9 m9 hh9 => ?_
      have hst9 := hh9.st; have hle9 := hh9.le; have hfr9 := hh9.fr; have hrel := hh9.rel; clear hh9
      replace h_t := h_t.mono hle9
      replace hkk_t := hkk_t.mono hle9
      replace haa_t := haa_t.mono hle9
      replace hrr_t := hrr_t.mono hle9
      replace h_es := h_es.mono hle9
      clear hst8 hfr8
      replace hM := hM.trans hle9
      obtain ⟨y, nq, da⟩ := y
      dsimp only at hrel hfr9 hst9
      obtain ⟨hyn, hil, hi1, hi2, hi3⟩ := hrel
      have hlh9 := hle9
      refine seq_any fun _ hK21 => ?_
      refine rp0 hst9 hfr9 (.cons rfl (ob_lss rfl rfl) <| .nil) ?_
      intro a10 w10 m10 hst10 hle10 hk10
      have hfr10 := hk10.fr (T' := [(137, _), (114, _), (0, _), (2, _), (4, _), (6, _), (136, _), (138, _)]) (.old rfl rfl <| .old rfl rfl <| .old rfl rfl <| .old rfl rfl <| .old rfl rfl <| .old rfl rfl <| .old rfl rfl <| .new rfl <| .nil)
      replace h_t := h_t.mono hle10
      replace hkk_t := hkk_t.mono hle10
      replace haa_t := haa_t.mono hle10
      replace hrr_t := hrr_t.mono hle10
      replace h_es := h_es.mono hle10
      have hlh10 := hlh9.trans hle10
      replace hM := hM.trans hle10
      clear hst9 hfr9 hk10
      refine hK21 _ _ ?_; clear hK21
      refine seq_any fun _ hK22 => ?_
      refine cond_any hfr10 rfl rfl (fun hb138 => ?_) (fun hb138 => ?_)
      · try simp only [nq1, nq2, nq3, nq4, nq5, nq6, nq7, nq8, nq9, u8_eq] at hb138
        refine wp_skip ?_
        refine hK22 _ _ ?_; clear hK22
        refine seq_any fun _ hK23 => ?_
        refine wp_block ?_
        refine seq_any fun _ hK24 => ?_
        refine rp0 hst10 hfr10 (.cons rfl (ob_move rfl) <| .cons rfl (ob_assign rfl) <| .nil) ?_
        intro a11 w11 m11 hst11 hle11 hk11
        have hfr11 := hk11.fr (T' := [(137, _), (114, _), (0, _), (2, _), (4, _), (6, _), (136, _), (14, _)]) (.old rfl rfl <| .old rfl rfl <| .old rfl rfl <| .old rfl rfl <| .old rfl rfl <| .old rfl rfl <| .old rfl rfl <| .new rfl <| .nil)
        replace h_t := h_t.mono hle11
        replace hkk_t := hkk_t.mono hle11
        replace haa_t := haa_t.mono hle11
        replace hrr_t := hrr_t.mono hle11
        replace h_es := h_es.mono hle11
        have hlh11 := hlh10.trans hle11
        replace hM := hM.trans hle11
        clear hst10 hfr10 hk11
        refine hK24 _ _ ?_; clear hK24
        refine seq_any fun _ hK25 => ?_
        obtain ⟨a9, ha9, hd9⟩ : ∃ x, t.arms[y]? = some x ∧ t.arms.drop y = x :: t.arms.drop (y + 1) := ⟨t.arms[y]'(by omega), List.getElem?_eq_getElem (by omega), List.drop_eq_getElem_cons (by omega)⟩
        have hm9 : a9 ∈ t.arms := List.mem_of_getElem? ha9
        rw [hd9] at hst11
        rw [hd9, renAs_fst] at hi1
        rw [hd9, renAs_snd] at hi2
        rw [hd9, bulkAs_cons] at hi3
        have hga9 : (da ++ a9 :: t.arms.drop (y + 1))[y]? = some a9 := get_midY hil
        have hga8 : (da ++ (⟨a9.name, a9.vars, (renT a9.body (withM es a9.vars (nextN nq a9.vars)) (nq + a9.vars.length)).1⟩ : Ar) :: t.arms.drop (y + 1))[y]? = some (⟨a9.name, a9.vars, (renT a9.body (withM es a9.vars (nextN nq a9.vars)) (nq + a9.vars.length)).1⟩ : Ar) := get_midY hil
        have hbx9 := bulkAs_mem hm9
        have hsl9 := sum_len a9.vars
        have hvz9 : ∀ x ∈ a9.vars, x.length ≤ 1000000000 := fun x hx => by have := sum_mem hx; omega
        obtain ⟨gA, hgA⟩ := MP.made_some (hst11.loc.at_ (k := 4) rfl) (by omega)
        subst hgA
        refine rp0 hst11 hfr11 (.cons rfl (ob_fieldAddrO (off := 6) rfl Tryd.underlying33 rfl rfl Tryd.sizeOf25 rfl) <| .cons rfl (ob_loadL (j := 1) rfl rfl Tryd.isAgg25 rfl) <| .cons rfl (ob_move rfl) <| .cons rfl (ob_indexAddr (k := y) rfl rfl Tryd.underlying25 Tryd.sizeOf60 rfl (by omega)) <| .cons rfl (ob_assign rfl) <| .nil) ?_
        intro a12 w12 m12 hst12 hle12 hk12
        have hfr12 := hk12.fr (T' := [(137, _), (114, _), (0, _), (2, _), (4, _), (6, _), (136, _), (15, _)]) (.old rfl rfl <| .old rfl rfl <| .old rfl rfl <| .old rfl rfl <| .old rfl rfl <| .old rfl rfl <| .old rfl rfl <| .new rfl <| .nil)
        replace h_t := h_t.mono hle12
        replace hkk_t := hkk_t.mono hle12
        replace haa_t := haa_t.mono hle12
        replace hrr_t := hrr_t.mono hle12
        replace h_es := h_es.mono hle12
        have hlh12 := hlh11.trans hle12
        replace hM := hM.trans hle12
        clear hst11 hfr11 hk12
        refine hK25 _ _ ?_; clear hK25
        refine seq_any fun _ hK26 => ?_
        refine ra0 (tch := [(5, 0, (fun _ => .blk (.pointer (some ⟨r, 0, none⟩)) (.cells #[.int .i64 ((nq + a9.vars.length : Nat) : Int)] 63)))]) hst12 hfr12 (.cons rfl (ob_move rfl) <| .cons rfl (ob_move rfl) <| .cons rfl (ob_nilCheck rfl) <| .cons rfl (ob_fieldAddrO (off := 1) rfl Tryd.underlying60 rfl rfl Tryd.sizeOf27 rfl) <| .cons rfl (ob_loadMX1 (R := (fun m vs t => ArR m t vs)) (i := y) (off := 1) (j := 4) (l := da ++ a9 :: t.arms.drop (y + 1)) (φ := MP.strs a9.vars) (by rw [← add_add']; rfl) rfl Tryd.isAgg27 hga9 (by decide) (fun m vs h => ar_selV h)) <| .consT rfl rfl (fun _ => rfl) rfl (ob_imgT 148 rfl rfl rfl fun y148 => ob_callT rfl (.cons rfl <| .cons rfl <| .nil) Tryd.call35 (κ := .ex (MP.strs (nextN nq a9.vars))) (fun σ w m hK hr hkn => by have hle_ := KC.le hK; have hA := KC.agree hK; have hM := hM.trans hle_; have hr0_ := hK.2; have h_t := h_t.mono hle_; have hkk_t := hkk_t.mono hle_; have haa_t := haa_t.mono hle_; have hrr_t := hrr_t.mono hle_; have h_es := h_es.mono hle_; have hT := tab_keepG hT hK.1.st.ext hNTs; exact next_t (l := a9.vars) hA hr hr0_ hT (by omega) hvz9 hNT)) <| .consA 149 rfl rfl <| .nil) ?_
        intro a13 w13 m13 hst13 hle13 hk13
        have hfr13 := hk13.fr (T' := [(137, _), (114, _), (0, _), (2, _), (4, _), (6, _), (136, _), (15, _)]) (.old rfl rfl <| .old rfl rfl <| .old rfl rfl <| .old rfl rfl <| .old rfl rfl <| .old rfl rfl <| .old rfl rfl <| .old rfl rfl <| .nil)
        obtain ⟨⟨o16, c16⟩, e27, h16⟩ := hk13.ex 149 rfl
        replace hfr13 := hfr13.cons (hk13.same 16 rfl e27)
        replace hst13 := hst13.fin (L' := [_, _, _, _, _, _]) (.cons e27 <| .nil)
        replace h_t := h_t.mono hle13
        replace hkk_t := hkk_t.mono hle13
        replace haa_t := haa_t.mono hle13
        replace hrr_t := hrr_t.mono hle13
        replace h_es := h_es.mono hle13
        have hlh13 := hlh12.trans hle13
        replace hM := hM.trans hle13
        clear hst12 hfr12 hk13
        refine hK26 _ _ ?_; clear hK26
        refine seq_any fun _ hK28 => ?_
        refine region_any (tch := [(13, 0, (fun _ => .blk (.pointer (some ⟨r, 0, none⟩)) (.cells #[.int .i64 (((renT a9.body (withM es a9.vars (nextN nq a9.vars)) (nq + a9.vars.length)).2 : Nat) : Int)] 63))), (16, 4, (fun _ => .mrowx _ _ _ _ _))]) (fun _ => mixed) hst13 hfr13 (by kernel_rfl) (by kernel_rfl) (by kernel_rfl) (.cons rfl (ob_move rfl) <| .cons rfl (ob_move rfl) <| .cons rfl (ob_move rfl) <| .cons rfl (ob_nilCheck rfl) <| .cons rfl (ob_fieldAddrO (off := 2) rfl Tryd.underlying60 rfl rfl Tryd.sizeOf33 rfl) <| .cons rfl (ob_loadMXS (R := (fun m vs t => ArR m t vs)) (i := y) (off := 2) (k := 21) (j := 4) (l := da ++ a9 :: t.arms.drop (y + 1)) (φ := MP.tmS a9.body) (by rw [← add_add']; rfl) rfl Tryd.isAgg33 Tryd.sizeOf33 hga9 (by decide) (by decide) (fun m vs h => ar_sel h)) <| .cons rfl (ob_move rfl) <| .cons rfl (ob_move rfl) <| .cons rfl (ob_nilCheck rfl) <| .cons rfl (ob_fieldAddrO (off := 1) rfl Tryd.underlying60 rfl rfl Tryd.sizeOf27 rfl) <| .cons rfl (ob_loadMX1 (R := (fun m vs t => ArR m t vs)) (i := y) (off := 1) (j := 4) (l := da ++ a9 :: t.arms.drop (y + 1)) (φ := MP.strs a9.vars) (by rw [← add_add']; rfl) rfl Tryd.isAgg27 hga9 (by decide) (fun m vs h => ar_selV h)) <| .cons rfl (ob_move rfl) <| .cons rfl (ob_imgE 160 rfl rfl rfl fun y160 => ob_call (φ := MP.mapAt S (vS (withM es a9.vars (nextN nq a9.vars)))) rfl (.cons rfl <| .cons rfl <| .cons rfl <| .nil) Tryd.call36 (fun w m hK => by have hle_ := KC.le hK; have hA := KC.agree hK; have hr0_ := hK.2; have h_es := h_es.mono hle_; have h16 := h16.mono hle_; exact FnG.mono (scwith_c (old := a9.vars) (now := nextN nq a9.vars) hA h_es hr0_ h16 (nextN_len _ _).symm) fun _ _ _ _ h => h)) <| .consT rfl rfl (fun _ => rfl) rfl (ob_imgT 155 rfl rfl rfl fun y155 => ob_imgT 162 rfl rfl rfl fun y162 => ob_callT rfl (.cons rfl <| .cons rfl <| .cons rfl <| .nil) Tryd.call25 (κ := .ex (MP.tm (renT a9.body (withM es a9.vars (nextN nq a9.vars)) (nq + a9.vars.length)).1)) (fun σ w m hK hr hkn => by have hle_ := KC.le hK; have hA := KC.agree hK; have hM := hM.trans hle_; have hr0_ := hK.2; have hr1_ := hK.1.2; have h_t := h_t.mono hle_; have hkk_t := hkk_t.mono hle_; have haa_t := haa_t.mono hle_; have hrr_t := hrr_t.mono hle_; have h_es := h_es.mono hle_; have h16 := h16.mono hle_; have hT := tab_keepG hT hK.1.1.st.ext hNTs; exact (Calls.mono (iha _ hm9 hA hr hr1_ hr0_ hT (hsh.arm hm9) (by omega) hNT) fun e w2 ⟨v, m2, e1, hE, hL, hv⟩ => ⟨v, m2, e1, touch_of hE hL, hv⟩))) <| .cons rfl (ob_nilCheck rfl) <| .cons rfl (ob_fieldAddrO (off := 2) rfl Tryd.underlying60 rfl rfl Tryd.sizeOf33 rfl) <| .consT rfl rfl (fun _ => rfl) rfl (ob_imgT 163 rfl rfl rfl fun y131 => ob_storeMX (R := (fun m vs t => ArR m t vs)) (i := y) (off := 2) (l := da ++ a9 :: t.arms.drop (y + 1)) (b := (⟨a9.name, a9.vars, (renT a9.body (withM es a9.vars (nextN nq a9.vars)) (nq + a9.vars.length)).1⟩ : Ar)) (ws := tmV (renT a9.body (withM es a9.vars (nextN nq a9.vars)) (nq + a9.vars.length)).1 y131) (by rw [← add_add']; rfl) rfl rfl Tryd.sizeOf33 hga9 (by decide) (by show 2 + 21 ≤ 23; omega) (fun w m hK vs hv h => ar_body h hK.2) (fun w m hK => hK.2.one)) <| .nil) ?_
        intro a14 w14 m14 hst14 hle14 hk14
        have hfr14 := hk14.fr (T' := [(137, _), (114, _), (0, _), (2, _), (4, _), (6, _), (136, _), (15, _), (16, _)]) (.old rfl rfl <| .old rfl rfl <| .old rfl rfl <| .old rfl rfl <| .old rfl rfl <| .old rfl rfl <| .old rfl rfl <| .old rfl rfl <| .old rfl rfl <| .nil)
        obtain ⟨y29, e29, hy29⟩ := hk14.ex 163 rfl
        replace hst14 := hst14.fin (L' := [_, _, _, _, _, _]) (.cons e29 <| .cons rfl <| .nil)
        try simp only [List.take_succ_cons, List.take_zero, List.drop_succ_cons, List.drop_zero, List.cons_append, List.nil_append, List.append_nil, List.length_cons, List.length_nil, Nat.zero_add, Nat.reduceAdd] at hst14
        replace h16 := h16.mono hle14
        have hlh14 := hlh13.trans hle14
        clear hst13 hfr13 hk14
        rw [set_midX hil] at hst14
        refine hK28 _ _ ?_; clear hK28
        refine ra0 (tch := [(4, 4, (fun _ => .mrowx _ _ _ _ _))]) hst14 hfr14 (.cons rfl (ob_move rfl) <| .cons rfl (ob_move rfl) <| .cons rfl (ob_nilCheck rfl) <| .cons rfl (ob_fieldAddrO (off := 1) rfl Tryd.underlying60 rfl rfl Tryd.sizeOf27 rfl) <| .consT rfl rfl (fun _ => rfl) rfl (ob_storeMX (R := (fun m vs t => ArR m t vs)) (i := y) (off := 1) (l := da ++ (⟨a9.name, a9.vars, (renT a9.body (withM es a9.vars (nextN nq a9.vars)) (nq + a9.vars.length)).1⟩ : Ar) :: t.arms.drop (y + 1)) (b := (⟨a9.name, nextN nq a9.vars, (renT a9.body (withM es a9.vars (nextN nq a9.vars)) (nq + a9.vars.length)).1⟩ : Ar)) (ws := [_]) (by rw [← add_add']; rfl) rfl rfl Tryd.sizeOf27 hga8 (by decide) (Nat.le_of_ble_eq_true rfl) (fun w m hK vs hv h => ar_vars h (h16.mono (KC.le hK))) (fun _ _ _ => rfl)) <| .nil) ?_
        intro a15 w15 m15 hst15 hle15 hk15
        have hfr15 := hk15.fr (T' := [(137, _), (114, _), (0, _), (2, _), (4, _), (6, _), (136, _)]) (.old rfl rfl <| .old rfl rfl <| .old rfl rfl <| .old rfl rfl <| .old rfl rfl <| .old rfl rfl <| .old rfl rfl <| .nil)
        replace hst15 := hst15.fin (L' := [_, _, _, _, _, _]) (.cons rfl <| .nil)
        try simp only [List.take_succ_cons, List.take_zero, List.drop_succ_cons, List.drop_zero, List.cons_append, List.nil_append, List.append_nil, List.length_cons, List.length_nil, Nat.zero_add, Nat.reduceAdd] at hst15
        have hlh15 := hlh14.trans hle15
        clear hst14 hfr14 hk15
        rw [set_midY hil] at hst15
        refine hK23 _ _ ?_; clear hK23
        refine rp0 hst15 hfr15 (.cons rfl (ob_add rfl rfl ⟨by omega, by omega⟩) <| .cons rfl (ob_move rfl) <| .nil) ?_
        intro a16 w16 m16 hst16 hle16 hk16
        have hfr16 := hk16.fr (T' := [(114, _), (0, _), (2, _), (4, _), (6, _), (136, _), (137, _)]) (.old rfl rfl <| .old rfl rfl <| .old rfl rfl <| .old rfl rfl <| .old rfl rfl <| .old rfl rfl <| .new rfl <| .nil)
        have hlh16 := hlh15.trans hle16
        clear hst15 hfr15 hk16
        exact ⟨(y + 1, (renT a9.body (withM es a9.vars (nextN nq a9.vars)) (nq + a9.vars.length)).2, (da ++ [(⟨a9.name, nextN nq a9.vars, (renT a9.body (withM es a9.vars (nextN nq a9.vars)) (nq + a9.vars.length)).1⟩ : Ar)])), m16, by show t.arms.length - (y + 1) < t.arms.length - y; omega, ⟨hst16, hlh16, hfr16.sub (.cons rfl <| .cons rfl <| .cons rfl <| .cons rfl <| .cons rfl <| .cons rfl <| .cons rfl <| .nil), ⟨by show y + 1 ≤ t.arms.length; omega, by show (da ++ [_]).length = y + 1; rw [List.length_append, hil]; rfl, by rw [hi1]; simp, by rw [hi2], by show (renT a9.body (withM es a9.vars (nextN nq a9.vars)) (nq + a9.vars.length)).2 + bulkAs (t.arms.drop (y + 1)) ≤ _; have := (bnd_ren a9.body (withM es a9.vars (nextN nq a9.vars)) (nq + a9.vars.length)).1; have := bndT_len a9.body; have := sum_len a9.vars; omega⟩⟩⟩
      · try simp only [nq1, nq2, nq3, nq4, nq5, nq6, nq7, nq8, nq9, u8_eq] at hb138
        have hge : y = t.arms.length := by omega
        rw [List.drop_of_length_le (by omega), renAs] at hi1 hi2
        rw [List.append_nil] at hi1
        rw [List.drop_of_length_le (by omega), List.append_nil] at hst10
        dsimp only at hi1 hi2
        refine wp_exit ?_
        refine hK18 _ _ ?_; clear hK18
        refine seq_any fun _ hK30 => ?_
        obtain ⟨m11, hle11, hst11, oX_K, cX_K, eX_K, hsl_K⟩ := hst10.freezeX (k := 3) rfl (hjl.trans hgeK) (by decide) (by omega)
        simp only [List.set_cons_succ, List.set_cons_zero] at hst11
        injection eX_K with eX1_K _ eX2_K; subst eX1_K; subst eX2_K
        have hfr11 := hfr10; obtain ⟨a11, rfl⟩ : ∃ a, a = a10 := ⟨_, rfl⟩; obtain ⟨w11, rfl⟩ : ∃ w, w = w10 := ⟨_, rfl⟩
        replace hrr_t := hrr_t.mono hle11
        have hlh11 := hlh10.trans hle11
        clear hst10 hfr10
        replace hsl_K : Tms m11 oK t.kids.length cK dk := hsl_K
        obtain ⟨m12, hle12, hst12, oX_A, cX_A, eX_A, hsl_A⟩ := hst11.freezeX (k := 4) rfl (hil.trans hge) (by decide) (by omega)
        simp only [List.set_cons_succ, List.set_cons_zero] at hst12
        injection eX_A with eX1_A _ eX2_A; subst eX1_A; subst eX2_A
        have hfr12 := hfr11; obtain ⟨a12, rfl⟩ : ∃ a, a = a11 := ⟨_, rfl⟩; obtain ⟨w12, rfl⟩ : ∃ w, w = w11 := ⟨_, rfl⟩
        replace hrr_t := hrr_t.mono hle12
        replace hsl_K := hsl_K.mono hle12
        have hlh12 := hlh11.trans hle12
        clear hst11 hfr11
        replace hsl_A : Ars m12 oA t.arms.length cA da := hsl_A
        have hfin := renT_fst hhd
        rw [hj1, hi1, hi2] at hfin
        have hout : TmR m12 (renT t es n).1 (tmV ⟨t.kind, t.at_, ss, pp, t.n, t.kids, t.arms, t.row⟩ (⟨oK, cK, oA, cA, oR_t, cR_t, t0_t, t1_t, t2_t, t3_t, t4_t, t5_t, u0_t, u1_t, u2_t, u3_t, u4_t, u5_t⟩ : TmY)) := by rw [hfin.1]; have h9 := TmR.build (t := (⟨t.kind, t.at_, ss, pp, t.n, dk, da, t.row⟩ : Tm)) (y := (⟨oK, cK, oA, cA, oR_t, cR_t, t0_t, t1_t, t2_t, t3_t, t4_t, t5_t, u0_t, u1_t, u2_t, u3_t, u4_t, u5_t⟩ : TmY)) hon_t (by show Tms _ oK dk.length cK dk; rw [hjl, hgeK]; exact hsl_K) (by show Ars _ oA da.length cA da; rw [hil, hge]; exact hsl_A) hrr_t; simp only [tmV, Tm.kids, Tm.arms, hjl, hil, hge, hgeK] at h9 ⊢; exact h9
        have htv : tmV (renT t es n).1 (⟨oK, cK, oA, cA, oR_t, cR_t, t0_t, t1_t, t2_t, t3_t, t4_t, t5_t, u0_t, u1_t, u2_t, u3_t, u4_t, u5_t⟩ : TmY) = tmV ⟨t.kind, t.at_, ss, pp, t.n, t.kids, t.arms, t.row⟩ (⟨oK, cK, oA, cA, oR_t, cR_t, t0_t, t1_t, t2_t, t3_t, t4_t, t5_t, u0_t, u1_t, u2_t, u3_t, u4_t, u5_t⟩ : TmY) := by rw [hfin.1]; simp only [tmV, Tm.kind, Tm.at_, Tm.name, Tm.param, Tm.n, Tm.row, Tm.kids, Tm.arms, hjl, hil, hge, hgeK]
        refine ra0 (tch := [(1, 2, (fun _ => .blk _ _))]) hst12 hfr12 (.cons rfl (ob_loadLA (j := 1) rfl rfl Tryd.isAgg33 Tryd.sizeOf33 rfl) <| .consT rfl rfl (fun _ => rfl) rfl (ob_store' rfl rfl rfl Tryd.sizeOf33 rfl rfl hout.one) <| .nil) ?_
        intro a13 w13 m13 hst13 hle13 hk13
        have hfr13 := hk13.fr (T' := [(137, _), (114, _), (6, _)]) (.old rfl rfl <| .old rfl rfl <| .old rfl rfl <| .nil)
        replace hst13 := hst13.fin (L' := [_, _, _, _, _, _]) (.cons rfl <| .nil)
        try simp only [List.take_succ_cons, List.take_zero, List.drop_succ_cons, List.drop_zero, List.cons_append, List.nil_append, List.append_nil, List.length_cons, List.length_nil, Nat.zero_add, Nat.reduceAdd] at hst13
        replace hout := hout.mono hle13
        have hlh13 := hlh12.trans hle13
        clear hst12 hfr12 hk13
        refine hK30 _ _ ?_; clear hK30
        refine wp_ret ?_
        repeat (with_reducible first | refine then_ret ?_ | refine block_ret ?_)
        exact fn_ret hst13 hfr13 rfl (.cell rfl (load_blk (blk_heap (hst13.loc.at_ (k := 2) rfl)) Tryd.isAgg33 Tryd.sizeOf33) <| .nil) (⟨by rw [hfin.2]; exact (hst13.take 1).loc, (⟨oK, cK, oA, cA, oR_t, cR_t, t0_t, t1_t, t2_t, t3_t, t4_t, t5_t, u0_t, u1_t, u2_t, u3_t, u4_t, u5_t⟩ : TmY), congrArg (fun l : List Value => Value.agg l.toArray) htv.symm, by show TmR _ _ (tmV (renT t es n).1 (⟨oK, cK, oA, cA, oR_t, cR_t, t0_t, t1_t, t2_t, t3_t, t4_t, t5_t, u0_t, u1_t, u2_t, u3_t, u4_t, u5_t⟩ : TmY)); rw [htv]; exact hout⟩)
  · have hlj9 : MLe m3 m3 := MLe.refl _
    refine seq_any fun _ hK32 => ?_
    refine rp0 hst3 hfr3 (.cons rfl (ob_fieldAddrO (off := 2) rfl Tryd.underlying33 rfl rfl Tryd.sizeOf9 rfl) <| .cons rfl (ob_loadL (j := 1) rfl rfl Tryd.isAgg9 rfl) <| .cons rfl (ob_assign rfl) <| .nil) ?_
    intro a4 w4 m4 hst4 hle4 hk4
    have hfr4 := hk4.fr (T' := [(0, _), (2, _), (4, _), (6, _), (7, _), (8, _)]) (.old rfl rfl <| .old rfl rfl <| .old rfl rfl <| .old rfl rfl <| .old rfl rfl <| .new rfl <| .nil)
    replace h_t := h_t.mono hle4
    replace hkk_t := hkk_t.mono hle4
    replace haa_t := haa_t.mono hle4
    replace hrr_t := hrr_t.mono hle4
    replace h_es := h_es.mono hle4
    replace hlj9 := hlj9.trans hle4
    replace hM := hM.trans hle4
    clear hst3 hfr3 hk4
    refine hK32 _ _ ?_; clear hK32
    refine seq_any fun _ hK33 => ?_
    refine rp0 hst4 hfr4 (.cons rfl (ob_fieldAddrO (off := 0) rfl Tryd.underlying33 rfl rfl Tryd.sizeOf3 rfl) <| .cons rfl (ob_loadL (j := 1) rfl rfl Tryd.isAgg3 rfl) <| .nil) ?_
    intro a5 w5 m5 hst5 hle5 hk5
    have hfr5 := hk5.fr (T' := [(0, _), (2, _), (4, _), (6, _), (7, _), (8, _), (32, _)]) (.old rfl rfl <| .old rfl rfl <| .old rfl rfl <| .old rfl rfl <| .old rfl rfl <| .old rfl rfl <| .new rfl <| .nil)
    replace h_t := h_t.mono hle5
    replace hkk_t := hkk_t.mono hle5
    replace haa_t := haa_t.mono hle5
    replace hrr_t := hrr_t.mono hle5
    replace h_es := h_es.mono hle5
    replace hlj9 := hlj9.trans hle5
    replace hM := hM.trans hle5
    clear hst4 hfr4 hk5
    refine hK33 _ _ ?_; clear hK33
    refine wp_block ?_
    refine seq_any fun _ hK34 => ?_
    refine rp0 hst5 hfr5 (.cons rfl (ob_eql rfl rfl) <| .cons rfl (ob_assign rfl) <| .nil) ?_
    intro a6 w6 m6 hst6 hle6 hk6
    have hfr6 := hk6.fr (T' := [(0, _), (2, _), (4, _), (6, _), (7, _), (8, _), (32, _), (33, _)]) (.old rfl rfl <| .old rfl rfl <| .old rfl rfl <| .old rfl rfl <| .old rfl rfl <| .old rfl rfl <| .old rfl rfl <| .new rfl <| .nil)
    replace h_t := h_t.mono hle6
    replace hkk_t := hkk_t.mono hle6
    replace haa_t := haa_t.mono hle6
    replace hrr_t := hrr_t.mono hle6
    replace h_es := h_es.mono hle6
    replace hlj9 := hlj9.trans hle6
    replace hM := hM.trans hle6
    clear hst5 hfr5 hk6
    refine hK34 _ _ ?_; clear hK34
    refine cond_any hfr6 rfl rfl (fun hb33 => ?_) (fun hb33 => ?_)
    · try simp only [nq1, nq2, nq3, nq4, nq5, nq6, nq7, nq8, nq9, u8_eq] at hb33
      refine seq_any fun _ hK35 => ?_
      rcases hag : aget t.name es with _ | nv
      · skip
        refine rp0 hst6 hfr6 (.cons rfl (ob_move rfl) <| .cons rfl (ob_move rfl) <| .cons rfl (ob_lookupM keys_S rfl rfl (fun w m hK => h_es.mono (KC.le hK)) Tryd.underlying66 Tryd.underlying9 Tryd.zeroValue9 (by rw [alook_vS, hag])) <| .cons rfl (ob_move rfl) <| .cons rfl (ob_extract rfl rfl) <| .cons rfl (ob_extract rfl rfl) <| .cons rfl (ob_assign rfl) <| .cons rfl (ob_assign rfl) <| .nil) ?_
        intro a7 w7 m7 hst7 hle7 hk7
        have hfr7 := hk7.fr (T' := [(0, _), (2, _), (4, _), (6, _), (7, _), (9, _), (10, _)]) (.old rfl rfl <| .old rfl rfl <| .old rfl rfl <| .old rfl rfl <| .old rfl rfl <| .new rfl <| .new rfl <| .nil)
        replace hlj9 := hlj9.trans hle7
        clear hst6 hfr6 hk7
        refine hK35 _ _ ?_; clear hK35
        refine seq_any fun _ hK36 => ?_
        refine rp0 hst7 hfr7 (.cons rfl (ob_move rfl) <| .nil) ?_
        intro a8 w8 m8 hst8 hle8 hk8
        have hfr8 := hk8.fr (T' := [(0, _), (2, _), (4, _), (6, _), (7, _), (9, _), (41, _)]) (.old rfl rfl <| .old rfl rfl <| .old rfl rfl <| .old rfl rfl <| .old rfl rfl <| .old rfl rfl <| .new rfl <| .nil)
        replace hlj9 := hlj9.trans hle8
        clear hst7 hfr7 hk8
        refine hK36 _ _ ?_; clear hK36
        refine cond_any hfr8 rfl rfl (fun hb41 => ?_) (fun hb41 => ?_)
        · cases hb41
        · try simp only [nq1, nq2, nq3, nq4, nq5, nq6, nq7, nq8, nq9, u8_eq] at hb41
          refine wp_skip ?_
          repeat (with_reducible first | refine then_exit ?_ | refine block_exit ?_ | refine block_normal ?_)
          exact hj9 (t.name, t.param, n, (vS es), (vS es), (vS es)) _ _ _ ⟨hst8, hlj9, hfr8.sub (.cons rfl <| .cons rfl <| .cons rfl <| .cons rfl <| .cons rfl <| .nil), ⟨by unfold headM; rw [if_pos (by omega), hag], fun i _ => scope_no (by omega) (by omega) (by omega) _ _ _ _ es i⟩⟩
      · skip
        refine rp0 hst6 hfr6 (.cons rfl (ob_move rfl) <| .cons rfl (ob_move rfl) <| .cons rfl (ob_lookupM keys_S rfl rfl (fun w m hK => h_es.mono (KC.le hK)) Tryd.underlying66 Tryd.underlying9 Tryd.zeroValue9 (by rw [alook_vS, hag])) <| .cons rfl (ob_move rfl) <| .cons rfl (ob_extract rfl rfl) <| .cons rfl (ob_extract rfl rfl) <| .cons rfl (ob_assign rfl) <| .cons rfl (ob_assign rfl) <| .nil) ?_
        intro a7 w7 m7 hst7 hle7 hk7
        have hfr7 := hk7.fr (T' := [(0, _), (2, _), (4, _), (6, _), (7, _), (9, _), (10, _)]) (.old rfl rfl <| .old rfl rfl <| .old rfl rfl <| .old rfl rfl <| .old rfl rfl <| .new rfl <| .new rfl <| .nil)
        replace hlj9 := hlj9.trans hle7
        clear hst6 hfr6 hk7
        refine hK35 _ _ ?_; clear hK35
        refine seq_any fun _ hK37 => ?_
        refine rp0 hst7 hfr7 (.cons rfl (ob_move rfl) <| .nil) ?_
        intro a8 w8 m8 hst8 hle8 hk8
        have hfr8 := hk8.fr (T' := [(0, _), (2, _), (4, _), (6, _), (7, _), (9, _), (41, _)]) (.old rfl rfl <| .old rfl rfl <| .old rfl rfl <| .old rfl rfl <| .old rfl rfl <| .old rfl rfl <| .new rfl <| .nil)
        replace hlj9 := hlj9.trans hle8
        clear hst7 hfr7 hk8
        refine hK37 _ _ ?_; clear hK37
        refine cond_any hfr8 rfl rfl (fun hb41 => ?_) (fun hb41 => ?_)
        · try simp only [nq1, nq2, nq3, nq4, nq5, nq6, nq7, nq8, nq9, u8_eq] at hb41
          refine ra0 (tch := [(2, 1, (fun _ => .blk _ _))]) hst8 hfr8 (.cons rfl (ob_move rfl) <| .cons rfl (ob_fieldAddrO (off := 2) rfl Tryd.underlying33 rfl rfl Tryd.sizeOf9 rfl) <| .consT rfl rfl (fun _ => rfl) rfl (ob_store rfl rfl rfl Tryd.sizeOf9 rfl rfl rfl) <| .nil) ?_
          intro a9 w9 m9 hst9 hle9 hk9
          have hfr9 := hk9.fr (T' := [(0, _), (2, _), (4, _), (6, _), (7, _)]) (.old rfl rfl <| .old rfl rfl <| .old rfl rfl <| .old rfl rfl <| .old rfl rfl <| .nil)
          replace hst9 := hst9.fin (L' := [_, _, _, _, _, _]) (.cons rfl <| .nil)
          try simp only [List.take_succ_cons, List.take_zero, List.drop_succ_cons, List.drop_zero, List.cons_append, List.nil_append, List.append_nil, List.length_cons, List.length_nil, Nat.zero_add, Nat.reduceAdd] at hst9
          replace hlj9 := hlj9.trans hle9
          clear hst8 hfr8 hk9
          repeat (with_reducible first | refine then_exit ?_ | refine block_exit ?_ | refine block_normal ?_)
          exact hj9 (nv, t.param, n, (vS es), (vS es), (vS es)) _ _ _ ⟨hst9, hlj9, hfr9.sub (.cons rfl <| .cons rfl <| .cons rfl <| .cons rfl <| .cons rfl <| .nil), ⟨by unfold headM; rw [if_pos (by omega), hag], fun i _ => scope_no (by omega) (by omega) (by omega) _ _ _ _ es i⟩⟩
        · cases hb41
    · try simp only [nq1, nq2, nq3, nq4, nq5, nq6, nq7, nq8, nq9, u8_eq] at hb33
      refine seq_any fun _ hK38 => ?_
      refine rp0 hst6 hfr6 (.cons rfl (ob_eql rfl rfl) <| .cons rfl (ob_assign rfl) <| .nil) ?_
      intro a7 w7 m7 hst7 hle7 hk7
      have hfr7 := hk7.fr (T' := [(0, _), (2, _), (4, _), (6, _), (7, _), (8, _), (32, _), (44, _)]) (.old rfl rfl <| .old rfl rfl <| .old rfl rfl <| .old rfl rfl <| .old rfl rfl <| .old rfl rfl <| .old rfl rfl <| .new rfl <| .nil)
      replace h_t := h_t.mono hle7
      replace hkk_t := hkk_t.mono hle7
      replace haa_t := haa_t.mono hle7
      replace hrr_t := hrr_t.mono hle7
      replace h_es := h_es.mono hle7
      replace hlj9 := hlj9.trans hle7
      replace hM := hM.trans hle7
      clear hst6 hfr6 hk7
      refine hK38 _ _ ?_; clear hK38
      refine cond_any hfr7 rfl rfl (fun hb44 => ?_) (fun hb44 => ?_)
      · try simp only [nq1, nq2, nq3, nq4, nq5, nq6, nq7, nq8, nq9, u8_eq] at hb44
        refine seq_any fun _ hK39 => ?_
        refine ra0 (tch := [(3, 0, (fun _ => .blk (.pointer (some ⟨r, 0, none⟩)) (.cells #[.int .i64 ((n + [t.name].length : Nat) : Int)] 63))), (7, 1, (fun _ => .blk _ _))]) hst7 hfr7 (.cons rfl (ob_move rfl) <| .cons rfl (ob_move rfl) <| .cons rfl (ob_buildSlice (.cons rfl <| .nil) Tryd.underlying27 Tryd.sizeOf9 Tryd.zeroValue9 rfl rfl rfl rfl) <| .consT rfl rfl (fun _ => rfl) rfl (ob_imgT 48 rfl rfl rfl fun y48 => ob_callT rfl (.cons rfl <| .cons rfl <| .nil) Tryd.call35 (κ := .ex (MP.strsP (nextN n [t.name]))) (fun σ w m hK hr hkn => by have hle_ := KC.le hK; have hA := KC.agree hK; have hM := hM.trans hle_; have hr0_ := hK.2; have h_t := h_t.mono hle_; have hkk_t := hkk_t.mono hle_; have haa_t := haa_t.mono hle_; have hrr_t := hrr_t.mono hle_; have h_es := h_es.mono hle_; have hT := tab_keepG hT hK.1.st.ext hNTs; exact next1_t (l := [t.name]) hA hr (Sl.one hr0_ rfl rfl) (by simp) hT (by simp only [List.length_cons, List.length_nil]; omega) (fun x hx => by rw [List.mem_singleton] at hx; rw [hx]; omega) hNT)) <| .cons rfl (ob_imgV 49 rfl rfl rfl fun y49 => ob_indexAddr (k := 0) rfl rfl Tryd.underlying27 Tryd.sizeOf9 rfl (by simp [nextN])) <| .cons rfl (ob_imgE 50 rfl rfl rfl fun y50 => ob_load1K (k := 0) (p := y50.1.add (0 * 1)) rfl (fun w m hK => Strs.cells (k := 0) hK.2 rfl) Tryd.isAgg9 rfl) <| .cons rfl (ob_fieldAddrO (off := 2) rfl Tryd.underlying33 rfl rfl Tryd.sizeOf9 rfl) <| .consT rfl rfl (fun _ => rfl) rfl (ob_store rfl rfl rfl Tryd.sizeOf9 rfl rfl rfl) <| .nil) ?_
        intro a8 w8 m8 hst8 hle8 hk8
        have hfr8 := hk8.fr (T' := [(0, _), (2, _), (4, _), (6, _), (7, _), (8, _)]) (.old rfl rfl <| .old rfl rfl <| .old rfl rfl <| .old rfl rfl <| .old rfl rfl <| .old rfl rfl <| .nil)
        obtain ⟨y40, e40, hy40⟩ := hk8.ex 49 rfl
        replace hst8 := hst8.fin (L' := [_, _, _, _, _, _]) (.cons e40 <| .cons rfl <| .nil)
        try simp only [List.take_succ_cons, List.take_zero, List.drop_succ_cons, List.drop_zero, List.cons_append, List.nil_append, List.append_nil, List.length_cons, List.length_nil, Nat.zero_add, Nat.reduceAdd] at hst8
        replace h_es := h_es.mono hle8
        replace hlj9 := hlj9.trans hle8
        clear hst7 hfr7 hk8
        refine hK39 _ _ ?_; clear hK39
        refine ra0 (tch := [(9, 5, (fun _ => .mrowx _ _ _ _ _))]) hst8 hfr8 (.cons rfl (ob_move rfl) <| .cons rfl (ob_move rfl) <| .cons rfl (ob_move rfl) <| .cons rfl (ob_buildSlice (.cons rfl <| .nil) Tryd.underlying27 Tryd.sizeOf9 Tryd.zeroValue9 rfl rfl rfl rfl) <| .cons rfl (ob_fieldAddrO (off := 2) rfl Tryd.underlying33 rfl rfl Tryd.sizeOf9 rfl) <| .cons rfl (ob_loadL (j := 1) rfl rfl Tryd.isAgg9 rfl) <| .cons rfl (ob_buildSlice (.cons rfl <| .nil) Tryd.underlying27 Tryd.sizeOf9 Tryd.zeroValue9 rfl rfl rfl rfl) <| .cons rfl (ob_imgE 56 rfl rfl rfl fun y56 => ob_imgE 59 rfl rfl rfl fun y59 => ob_call (φ := MP.mapAt S (vS (withM es [t.name] [(t.name ++ numT (n + 1))]))) rfl (.cons rfl <| .cons rfl <| .cons rfl <| .nil) Tryd.call36 (fun w m hK => by have hle_ := KC.le hK; have hA := KC.agree hK; have hr0_ := hK.2; have hr1_ := hK.1.2; have h_es := h_es.mono hle_; exact FnG.mono (scwith_c (old := [t.name]) (now := [(t.name ++ numT (n + 1))]) hA h_es (Sl.one hr1_ rfl rfl) (Sl.one hr0_ rfl rfl) rfl) fun _ _ _ _ h => h)) <| .cons rfl (ob_indexAddr (k := 0) rfl rfl Tryd.underlying78 Tryd.sizeOf66 rfl (by omega)) <| .consT rfl rfl (fun _ => rfl) rfl (ob_imgT 60 rfl rfl rfl fun y60 => ob_storeMX (R := MapR S) (i := 0) (off := 0) (l := [vS es, vS es, vS es]) (b := (vS (withM es [t.name] [(t.name ++ numT (n + 1))]))) (ws := [_]) rfl rfl rfl Tryd.sizeOf66 rfl (by decide) (Nat.le_of_ble_eq_true rfl) (fun w m hK vs hv _ => ⟨y60, splice_one hv, hK.2⟩) (fun _ _ _ => rfl)) <| .nil) ?_
        intro a9 w9 m9 hst9 hle9 hk9
        have hfr9 := hk9.fr (T' := [(0, _), (2, _), (4, _), (6, _), (7, _)]) (.old rfl rfl <| .old rfl rfl <| .old rfl rfl <| .old rfl rfl <| .old rfl rfl <| .nil)
        replace hst9 := hst9.fin (L' := [_, _, _, _, _, _]) (.cons rfl <| .nil)
        try simp only [List.take_succ_cons, List.take_zero, List.drop_succ_cons, List.drop_zero, List.cons_append, List.nil_append, List.append_nil, List.length_cons, List.length_nil, Nat.zero_add, Nat.reduceAdd] at hst9
        replace hlj9 := hlj9.trans hle9
        clear hst8 hfr8 hk9
        repeat (with_reducible first | refine then_exit ?_ | refine block_exit ?_ | refine block_normal ?_)
        exact hj9 ((t.name ++ numT (n + 1)), t.param, (n + 1), (vS (withM es [t.name] [(t.name ++ numT (n + 1))])), (vS es), (vS es)) _ _ _ ⟨hst9, hlj9, hfr9.sub (.cons rfl <| .cons rfl <| .cons rfl <| .cons rfl <| .cons rfl <| .nil), ⟨by unfold headM; rw [if_neg (by omega), if_pos (by omega)], fun i hi => scope_5 (by omega) es (Nat.lt_of_lt_of_le hi (hsh.here.1 (by omega)))⟩⟩
      · try simp only [nq1, nq2, nq3, nq4, nq5, nq6, nq7, nq8, nq9, u8_eq] at hb44
        refine seq_any fun _ hK41 => ?_
        refine rp0 hst7 hfr7 (.cons rfl (ob_eql rfl rfl) <| .cons rfl (ob_assign rfl) <| .nil) ?_
        intro a8 w8 m8 hst8 hle8 hk8
        have hfr8 := hk8.fr (T' := [(0, _), (2, _), (4, _), (6, _), (7, _), (8, _), (32, _), (62, _)]) (.old rfl rfl <| .old rfl rfl <| .old rfl rfl <| .old rfl rfl <| .old rfl rfl <| .old rfl rfl <| .old rfl rfl <| .new rfl <| .nil)
        replace h_t := h_t.mono hle8
        replace hkk_t := hkk_t.mono hle8
        replace haa_t := haa_t.mono hle8
        replace hrr_t := hrr_t.mono hle8
        replace h_es := h_es.mono hle8
        replace hlj9 := hlj9.trans hle8
        replace hM := hM.trans hle8
        clear hst7 hfr7 hk8
        refine hK41 _ _ ?_; clear hK41
        refine cond_any hfr8 rfl rfl (fun hb62 => ?_) (fun hb62 => ?_)
        · try simp only [nq1, nq2, nq3, nq4, nq5, nq6, nq7, nq8, nq9, u8_eq] at hb62
          refine seq_any fun _ hK42 => ?_
          refine ra0 (tch := [(3, 0, (fun _ => .blk (.pointer (some ⟨r, 0, none⟩)) (.cells #[.int .i64 ((n + [t.name].length : Nat) : Int)] 63))), (7, 1, (fun _ => .blk _ _))]) hst8 hfr8 (.cons rfl (ob_move rfl) <| .cons rfl (ob_move rfl) <| .cons rfl (ob_buildSlice (.cons rfl <| .nil) Tryd.underlying27 Tryd.sizeOf9 Tryd.zeroValue9 rfl rfl rfl rfl) <| .consT rfl rfl (fun _ => rfl) rfl (ob_imgT 66 rfl rfl rfl fun y66 => ob_callT rfl (.cons rfl <| .cons rfl <| .nil) Tryd.call35 (κ := .ex (MP.strsP (nextN n [t.name]))) (fun σ w m hK hr hkn => by have hle_ := KC.le hK; have hA := KC.agree hK; have hM := hM.trans hle_; have hr0_ := hK.2; have h_t := h_t.mono hle_; have hkk_t := hkk_t.mono hle_; have haa_t := haa_t.mono hle_; have hrr_t := hrr_t.mono hle_; have h_es := h_es.mono hle_; have hT := tab_keepG hT hK.1.st.ext hNTs; exact next1_t (l := [t.name]) hA hr (Sl.one hr0_ rfl rfl) (by simp) hT (by simp only [List.length_cons, List.length_nil]; omega) (fun x hx => by rw [List.mem_singleton] at hx; rw [hx]; omega) hNT)) <| .cons rfl (ob_imgV 67 rfl rfl rfl fun y67 => ob_indexAddr (k := 0) rfl rfl Tryd.underlying27 Tryd.sizeOf9 rfl (by simp [nextN])) <| .cons rfl (ob_imgE 68 rfl rfl rfl fun y50 => ob_load1K (k := 0) (p := y50.1.add (0 * 1)) rfl (fun w m hK => Strs.cells (k := 0) hK.2 rfl) Tryd.isAgg9 rfl) <| .cons rfl (ob_fieldAddrO (off := 2) rfl Tryd.underlying33 rfl rfl Tryd.sizeOf9 rfl) <| .consT rfl rfl (fun _ => rfl) rfl (ob_store rfl rfl rfl Tryd.sizeOf9 rfl rfl rfl) <| .nil) ?_
          intro a9 w9 m9 hst9 hle9 hk9
          have hfr9 := hk9.fr (T' := [(0, _), (2, _), (4, _), (6, _), (7, _), (8, _)]) (.old rfl rfl <| .old rfl rfl <| .old rfl rfl <| .old rfl rfl <| .old rfl rfl <| .old rfl rfl <| .nil)
          obtain ⟨y43, e43, hy43⟩ := hk9.ex 67 rfl
          replace hst9 := hst9.fin (L' := [_, _, _, _, _, _]) (.cons e43 <| .cons rfl <| .nil)
          try simp only [List.take_succ_cons, List.take_zero, List.drop_succ_cons, List.drop_zero, List.cons_append, List.nil_append, List.append_nil, List.length_cons, List.length_nil, Nat.zero_add, Nat.reduceAdd] at hst9
          replace h_es := h_es.mono hle9
          replace hlj9 := hlj9.trans hle9
          clear hst8 hfr8 hk9
          refine hK42 _ _ ?_; clear hK42
          refine ra0 (tch := [(9, 5, (fun _ => .mrowx _ _ _ _ _))]) hst9 hfr9 (.cons rfl (ob_move rfl) <| .cons rfl (ob_move rfl) <| .cons rfl (ob_move rfl) <| .cons rfl (ob_buildSlice (.cons rfl <| .nil) Tryd.underlying27 Tryd.sizeOf9 Tryd.zeroValue9 rfl rfl rfl rfl) <| .cons rfl (ob_fieldAddrO (off := 2) rfl Tryd.underlying33 rfl rfl Tryd.sizeOf9 rfl) <| .cons rfl (ob_loadL (j := 1) rfl rfl Tryd.isAgg9 rfl) <| .cons rfl (ob_buildSlice (.cons rfl <| .nil) Tryd.underlying27 Tryd.sizeOf9 Tryd.zeroValue9 rfl rfl rfl rfl) <| .cons rfl (ob_imgE 74 rfl rfl rfl fun y74 => ob_imgE 77 rfl rfl rfl fun y77 => ob_call (φ := MP.mapAt S (vS (withM es [t.name] [(t.name ++ numT (n + 1))]))) rfl (.cons rfl <| .cons rfl <| .cons rfl <| .nil) Tryd.call36 (fun w m hK => by have hle_ := KC.le hK; have hA := KC.agree hK; have hr0_ := hK.2; have hr1_ := hK.1.2; have h_es := h_es.mono hle_; exact FnG.mono (scwith_c (old := [t.name]) (now := [(t.name ++ numT (n + 1))]) hA h_es (Sl.one hr1_ rfl rfl) (Sl.one hr0_ rfl rfl) rfl) fun _ _ _ _ h => h)) <| .cons rfl (ob_indexAddr (k := 1) rfl rfl Tryd.underlying78 Tryd.sizeOf66 rfl (by omega)) <| .consT rfl rfl (fun _ => rfl) rfl (ob_imgT 78 rfl rfl rfl fun y60 => ob_storeMX (R := MapR S) (i := 1) (off := 0) (l := [vS es, vS es, vS es]) (b := (vS (withM es [t.name] [(t.name ++ numT (n + 1))]))) (ws := [_]) rfl rfl rfl Tryd.sizeOf66 rfl (by decide) (Nat.le_of_ble_eq_true rfl) (fun w m hK vs hv _ => ⟨y60, splice_one hv, hK.2⟩) (fun _ _ _ => rfl)) <| .nil) ?_
          intro a10 w10 m10 hst10 hle10 hk10
          have hfr10 := hk10.fr (T' := [(0, _), (2, _), (4, _), (6, _), (7, _)]) (.old rfl rfl <| .old rfl rfl <| .old rfl rfl <| .old rfl rfl <| .old rfl rfl <| .nil)
          replace hst10 := hst10.fin (L' := [_, _, _, _, _, _]) (.cons rfl <| .nil)
          try simp only [List.take_succ_cons, List.take_zero, List.drop_succ_cons, List.drop_zero, List.cons_append, List.nil_append, List.append_nil, List.length_cons, List.length_nil, Nat.zero_add, Nat.reduceAdd] at hst10
          replace hlj9 := hlj9.trans hle10
          clear hst9 hfr9 hk10
          repeat (with_reducible first | refine then_exit ?_ | refine block_exit ?_ | refine block_normal ?_)
          exact hj9 ((t.name ++ numT (n + 1)), t.param, (n + 1), (vS es), (vS (withM es [t.name] [(t.name ++ numT (n + 1))])), (vS es)) _ _ _ ⟨hst10, hlj9, hfr10.sub (.cons rfl <| .cons rfl <| .cons rfl <| .cons rfl <| .cons rfl <| .nil), ⟨by unfold headM; rw [if_neg (by omega), if_pos (by omega)], fun i hi => scope_7 (by omega) es i⟩⟩
        · try simp only [nq1, nq2, nq3, nq4, nq5, nq6, nq7, nq8, nq9, u8_eq] at hb62
          refine seq_any fun _ hK44 => ?_
          refine rp0 hst8 hfr8 (.cons rfl (ob_eql rfl rfl) <| .cons rfl (ob_assign rfl) <| .nil) ?_
          intro a9 w9 m9 hst9 hle9 hk9
          have hfr9 := hk9.fr (T' := [(0, _), (2, _), (4, _), (6, _), (7, _), (8, _), (80, _)]) (.old rfl rfl <| .old rfl rfl <| .old rfl rfl <| .old rfl rfl <| .old rfl rfl <| .old rfl rfl <| .new rfl <| .nil)
          replace h_t := h_t.mono hle9
          replace hkk_t := hkk_t.mono hle9
          replace haa_t := haa_t.mono hle9
          replace hrr_t := hrr_t.mono hle9
          replace h_es := h_es.mono hle9
          replace hlj9 := hlj9.trans hle9
          replace hM := hM.trans hle9
          clear hst8 hfr8 hk9
          refine hK44 _ _ ?_; clear hK44
          refine cond_any hfr9 rfl rfl (fun hb80 => ?_) (fun hb80 => ?_)
          · try simp only [nq1, nq2, nq3, nq4, nq5, nq6, nq7, nq8, nq9, u8_eq] at hb80
            refine seq_any fun _ hK45 => ?_
            refine ra0 (tch := []) hst9 hfr9 (.cons rfl (ob_move rfl) <| .cons rfl (ob_fieldAddrO (off := 3) rfl Tryd.underlying33 rfl rfl Tryd.sizeOf9 rfl) <| .cons rfl (ob_loadL (j := 1) rfl rfl Tryd.isAgg9 rfl) <| .cons rfl (ob_buildSlice (.cons rfl <| .cons rfl <| .nil) Tryd.underlying27 Tryd.sizeOf9 Tryd.zeroValue9 rfl rfl rfl rfl) <| .consA 85 rfl rfl <| .nil) ?_
            intro a10 w10 m10 hst10 hle10 hk10
            have hfr10 := hk10.fr (T' := [(0, _), (2, _), (4, _), (6, _), (7, _)]) (.old rfl rfl <| .old rfl rfl <| .old rfl rfl <| .old rfl rfl <| .old rfl rfl <| .nil)
            obtain ⟨g11, e46, h11⟩ := hk10.ex 85 rfl
            replace hfr10 := hfr10.cons (hk10.same 11 rfl e46)
            replace h_t := h_t.mono hle10
            replace hkk_t := hkk_t.mono hle10
            replace haa_t := haa_t.mono hle10
            replace hrr_t := hrr_t.mono hle10
            replace h_es := h_es.mono hle10
            replace hlj9 := hlj9.trans hle10
            replace hM := hM.trans hle10
            clear hst9 hfr9 hk10
            have hs11 : Strs m10 (some ⟨g11, 0, none⟩) 2 2 [t.name, t.param] := Sl.two (vs := [_]) (us := [_]) h11 rfl rfl rfl rfl
            refine hK45 _ _ ?_; clear hK45
            refine seq_any fun _ hK47 => ?_
            refine ra0 (tch := [(2, 0, (fun _ => .blk (.pointer (some ⟨r, 0, none⟩)) (.cells #[.int .i64 ((n + [t.name, t.param].length : Nat) : Int)] 63)))]) hst10 hfr10 (.cons rfl (ob_move rfl) <| .cons rfl (ob_move rfl) <| .consT rfl rfl (fun _ => rfl) rfl (ob_callT rfl (.cons rfl <| .cons rfl <| .nil) Tryd.call35 (κ := .ex (MP.strsP (nextN n [t.name, t.param]))) (fun σ w m hK hr hkn => by have hle_ := KC.le hK; have hA := KC.agree hK; have hM := hM.trans hle_; have h_t := h_t.mono hle_; have hkk_t := hkk_t.mono hle_; have haa_t := haa_t.mono hle_; have hrr_t := hrr_t.mono hle_; have h_es := h_es.mono hle_; have h11 := h11.mono hle_; have hs11 := hs11.mono hle_; have hT := tab_keepG hT hK.st.ext hNTs; exact next1_t (l := [t.name, t.param]) hA hr hs11 (by simp) hT (by simp only [List.length_cons, List.length_nil]; omega) (fun x hx => by simp only [List.mem_cons, List.mem_nil_iff, or_false] at hx; rcases hx with hx | hx <;> (rw [hx]; omega)) hNT)) <| .consA 88 rfl rfl <| .nil) ?_
            intro a11 w11 m11 hst11 hle11 hk11
            have hfr11 := hk11.fr (T' := [(0, _), (2, _), (4, _), (6, _), (7, _), (11, _)]) (.old rfl rfl <| .old rfl rfl <| .old rfl rfl <| .old rfl rfl <| .old rfl rfl <| .old rfl rfl <| .nil)
            obtain ⟨⟨p12, c12⟩, e48, h12⟩ := hk11.ex 88 rfl
            replace hfr11 := hfr11.cons (hk11.same 12 rfl e48)
            replace hst11 := hst11.fin (L' := [_, _, _, _, _, _]) (.cons e48 <| .nil)
            replace h_t := h_t.mono hle11
            replace hkk_t := hkk_t.mono hle11
            replace haa_t := haa_t.mono hle11
            replace hrr_t := hrr_t.mono hle11
            replace h_es := h_es.mono hle11
            replace h11 := h11.mono hle11
            replace hs11 := hs11.mono hle11
            replace hlj9 := hlj9.trans hle11
            clear hst10 hfr10 hk11
            have hs12 : Strs m11 (some p12) 2 c12 [(t.name ++ numT (n + 1)), (t.param ++ numT (n + 1 + 1))] := h12
            have hc12 := hs12.cap
            have hq0 : CellsAt m11 (p12.add (0 * 1)) [S (t.name ++ numT (n + 1))] := Strs.cells (k := 0) hs12 rfl
            have hq1 : CellsAt m11 (p12.add (1 * 1)) [S (t.param ++ numT (n + 1 + 1))] := Strs.cells (k := 1) hs12 rfl
            refine hK47 _ _ ?_; clear hK47
            refine seq_any fun _ hK49 => ?_
            refine region_any (tch := [(7, 1, (fun _ => .blk _ _)), (9, 1, (fun _ => .blk _ _))]) (fun _ => mixed) hst11 hfr11 (by kernel_rfl) (by kernel_rfl) (by kernel_rfl) (.cons rfl (ob_move rfl) <| .cons rfl (ob_indexAddr (k := 0) rfl rfl Tryd.underlying27 Tryd.sizeOf9 rfl (by simp [nextN])) <| .cons rfl (ob_load1' rfl hq0 Tryd.isAgg9 rfl) <| .cons rfl (ob_move rfl) <| .cons rfl (ob_indexAddr (k := 1) rfl rfl Tryd.underlying27 Tryd.sizeOf9 rfl (by simp [nextN])) <| .cons rfl (ob_load1' rfl hq1 Tryd.isAgg9 rfl) <| .cons rfl (ob_fieldAddrO (off := 2) rfl Tryd.underlying33 rfl rfl Tryd.sizeOf9 rfl) <| .consT rfl rfl (fun _ => rfl) rfl (ob_store rfl rfl rfl Tryd.sizeOf9 rfl rfl rfl) <| .cons rfl (ob_fieldAddrO (off := 3) rfl Tryd.underlying33 rfl rfl Tryd.sizeOf9 rfl) <| .consT2 (d' := 91) rfl rfl (fun _ => rfl) rfl rfl rfl (ob_two (ob_store rfl rfl rfl Tryd.sizeOf9 rfl rfl rfl)) <| .nil) ?_
            intro a12 w12 m12 hst12 hle12 hk12
            have hfr12 := hk12.fr (T' := [(0, _), (2, _), (4, _), (6, _), (7, _), (11, _), (12, _)]) (.old rfl rfl <| .old rfl rfl <| .old rfl rfl <| .old rfl rfl <| .old rfl rfl <| .old rfl rfl <| .old rfl rfl <| .nil)
            replace hst12 := hst12.fin (L' := [_, _, _, _, _, _]) (.cons rfl <| .cons rfl <| .nil)
            try simp only [List.take_succ_cons, List.take_zero, List.drop_succ_cons, List.drop_zero, List.cons_append, List.nil_append, List.append_nil, List.length_cons, List.length_nil, Nat.zero_add, Nat.reduceAdd] at hst12
            replace h_t := h_t.mono hle12
            replace hkk_t := hkk_t.mono hle12
            replace haa_t := haa_t.mono hle12
            replace hrr_t := hrr_t.mono hle12
            replace h_es := h_es.mono hle12
            replace h11 := h11.mono hle12
            replace hs11 := hs11.mono hle12
            replace h12 := h12.mono hle12
            replace hs12 := hs12.mono hle12
            replace hq0 := hq0.mono hle12
            replace hq1 := hq1.mono hle12
            replace hlj9 := hlj9.trans hle12
            clear hst11 hfr11 hk12
            refine hK49 _ _ ?_; clear hK49
            have hct50 : Strs _ _ _ _ (([t.name, t.param].take (1)).drop (0)) := hs11.cut (l := 0) (k := 1) (by omega) (by omega)
            have hcl50 : (1) - (0) = ((([t.name, t.param].take (1)).drop (0))).length := hct50.len.symm
            have hcu50 : Strs _ _ _ _ (([t.name, t.param].take (1)).drop (0)) := hct50.lenL
            have hct51 : Strs _ _ _ _ (([(t.name ++ numT (n + 1)), (t.param ++ numT (n + 1 + 1))].take (1)).drop (0)) := hs12.cut (l := 0) (k := 1) (by omega) (by omega)
            have hcl51 : (1) - (0) = ((([(t.name ++ numT (n + 1)), (t.param ++ numT (n + 1 + 1))].take (1)).drop (0))).length := hct51.len.symm
            have hcu51 : Strs _ _ _ _ (([(t.name ++ numT (n + 1)), (t.param ++ numT (n + 1 + 1))].take (1)).drop (0)) := hct51.lenL
            refine region_any (tch := [(13, 5, (fun _ => .mrowx _ _ _ _ _)), (15, 5, (fun _ => .mrowx _ _ _ _ _))]) (fun _ => mixed) hst12 hfr12 (by kernel_rfl) (by kernel_rfl) (by kernel_rfl) (.cons rfl (ob_move rfl) <| .cons rfl (ob_move rfl) <| .cons rfl (ob_move rfl) <| .cons rfl (ob_move rfl) <| .cons rfl (ob_move rfl) <| .cons rfl (ob_call (φ := MP.mapAt S (vS (withM es [t.name, t.param] [(t.name ++ numT (n + 1)), (t.param ++ numT (n + 1 + 1))]))) rfl (.cons rfl <| .cons rfl <| .cons rfl <| .nil) Tryd.call36 (fun w m hK => by have hle_ := KC.le hK; have hA := KC.agree hK; have h_es := h_es.mono hle_; have hs11 := hs11.mono hle_; have hs12 := hs12.mono hle_; exact FnG.mono (scwith_c (old := [t.name, t.param]) (now := [(t.name ++ numT (n + 1)), (t.param ++ numT (n + 1 + 1))]) hA h_es hs11 hs12 rfl) fun _ _ _ _ h => h)) <| .cons rfl (ob_move rfl) <| .cons rfl (ob_move rfl) <| .cons rfl (ob_slice (l := 0) (h := 1) rfl .none (.some rfl (by omega)) Tryd.underlying27 Tryd.sizeOf9 (by omega) (by omega)) <| .cons rfl (ob_move rfl) <| .cons rfl (ob_slice (l := 0) (h := 1) rfl .none (.some rfl (by omega)) Tryd.underlying27 Tryd.sizeOf9 (by omega) (by omega)) <| .cons rfl (ob_call (φ := MP.mapAt S (vS (withM es [t.name] [(t.name ++ numT (n + 1))]))) rfl (.cons rfl <| .cons rfl <| .cons rfl <| .nil) Tryd.call36 (fun w m hK => by have hle_ := KC.le hK; have hA := KC.agree hK; have hT := tab_keepG hT hK.st.ext hNTs; have h_t := h_t.mono hle_; have hkk_t := hkk_t.mono hle_; have haa_t := haa_t.mono hle_; have hrr_t := hrr_t.mono hle_; have h_es := h_es.mono hle_; have h11 := h11.mono hle_; have hs11 := hs11.mono hle_; have h12 := h12.mono hle_; have hs12 := hs12.mono hle_; have hq0 := hq0.mono hle_; have hq1 := hq1.mono hle_; have hct50 := hct50.mono hle_; have hcu50 := hcu50.mono hle_; have hct51 := hct51.mono hle_; have hcu51 := hcu51.mono hle_; exact FnG.mono (scwith_c (old := (([t.name, t.param].take (1)).drop (0))) (now := (([(t.name ++ numT (n + 1)), (t.param ++ numT (n + 1 + 1))].take (1)).drop (0))) hA h_es (by assumption) (by assumption) rfl) fun _ _ _ _ h => h)) <| .cons rfl (ob_indexAddr (k := 0) rfl rfl Tryd.underlying78 Tryd.sizeOf66 rfl (by omega)) <| .consT rfl rfl (fun _ => rfl) rfl (ob_imgT 102 rfl rfl rfl fun y60 => ob_storeMX (R := MapR S) (i := 0) (off := 0) (l := [vS es, vS es, vS es]) (b := (vS (withM es [t.name, t.param] [(t.name ++ numT (n + 1)), (t.param ++ numT (n + 1 + 1))]))) (ws := [_]) rfl rfl rfl Tryd.sizeOf66 rfl (by decide) (Nat.le_of_ble_eq_true rfl) (fun w m hK vs hv _ => ⟨y60, splice_one hv, hK.2⟩) (fun _ _ _ => rfl)) <| .cons rfl (ob_indexAddr (k := 1) rfl rfl Tryd.underlying78 Tryd.sizeOf66 rfl (by omega)) <| .consT2 (d' := 102) rfl rfl (fun _ => rfl) rfl rfl rfl (ob_two (ob_imgT 108 rfl rfl rfl fun y60 => ob_storeMX (R := MapR S) (i := 1) (off := 0) (l := [vS es, vS es, vS es].set 0 (vS (withM es [t.name, t.param] [(t.name ++ numT (n + 1)), (t.param ++ numT (n + 1 + 1))]))) (b := (vS (withM es [t.name] [(t.name ++ numT (n + 1))]))) (ws := [_]) rfl rfl rfl Tryd.sizeOf66 rfl (by decide) (Nat.le_of_ble_eq_true rfl) (fun w m hK vs hv _ => ⟨y60, splice_one hv, hK.2⟩) (fun _ _ _ => rfl))) <| .nil) ?_
            intro a13 w13 m13 hst13 hle13 hk13
            have hfr13 := hk13.fr (T' := [(0, _), (2, _), (4, _), (6, _), (7, _)]) (.old rfl rfl <| .old rfl rfl <| .old rfl rfl <| .old rfl rfl <| .old rfl rfl <| .nil)
            replace hst13 := hst13.fin (L' := [_, _, _, _, _, _]) (.cons rfl <| .cons rfl <| .nil)
            try simp only [List.take_succ_cons, List.take_zero, List.drop_succ_cons, List.drop_zero, List.cons_append, List.nil_append, List.append_nil, List.length_cons, List.length_nil, Nat.zero_add, Nat.reduceAdd] at hst13
            replace hlj9 := hlj9.trans hle13
            clear hst12 hfr12 hk13
            repeat (with_reducible first | refine then_exit ?_ | refine block_exit ?_ | refine block_normal ?_)
            exact hj9 ((t.name ++ numT (n + 1)), (t.param ++ numT (n + 1 + 1)), (n + 2), (vS (withM es [t.name, t.param] [(t.name ++ numT (n + 1)), (t.param ++ numT (n + 1 + 1))])), (vS (withM es [t.name] [(t.name ++ numT (n + 1))])), (vS es)) _ _ _ ⟨hst13, hlj9, hfr13.sub (.cons rfl <| .cons rfl <| .cons rfl <| .cons rfl <| .cons rfl <| .nil), ⟨by unfold headM; rw [if_neg (by omega), if_neg (by omega), if_pos (by omega)], fun i hi => scope_8 (by omega) es (Nat.lt_of_lt_of_le hi (hsh.here.2 (by omega)))⟩⟩
          · try simp only [nq1, nq2, nq3, nq4, nq5, nq6, nq7, nq8, nq9, u8_eq] at hb80
            refine wp_skip ?_
            repeat (with_reducible first | refine then_exit ?_ | refine block_exit ?_ | refine block_normal ?_)
            exact hj9 (t.name, t.param, n, (vS es), (vS es), (vS es)) _ _ _ ⟨hst9, hlj9, hfr9.sub (.cons rfl <| .cons rfl <| .cons rfl <| .cons rfl <| .cons rfl <| .nil), ⟨by unfold headM; rw [if_neg (by omega), if_neg (by omega), if_neg (by omega)], fun i _ => scope_no (by omega) (by omega) (by omega) _ _ _ _ es i⟩⟩
theorem rterm_c (t : Tm) : rterm_G t := Tm.rec_ (p := rterm_G) (fun t ihk iha => rterm_s ihk iha) t

end Go.Proofs.YteamjgbhcjojaaaDoor
