/-
  A term in which a free variable is another one. Conditions: those of each theorem.
-/
import Derived.Test.YteamjgbhcjojaaaDoorBinders1
namespace Go.Proofs.YteamjgbhcjojaaaDoor
set_option linter.all false
set_option maxRecDepth 4000
open Go.RowKit
def turnS (sx sy : Str) (t : Tm) : Str := if t.kind = 1 ∧ t.name = sx then sy else t.name
mutual
def turnT (sx sy : Str) : Tm → Tm
  | ⟨k, a, s, p, n, ks, az, r⟩ => ⟨k, a, if k = 1 ∧ s = sx then sy else s, p, n, turnKs sx sy (boundR k s p) 0 ks, turnAs sx sy az, r⟩
def turnKs (sx sy : Str) (f : Nat → List Str) : Nat → List Tm → List Tm
  | _, [] => []
  | i, t :: ts => (if sx ∈ f i then t else turnT sx sy t) :: turnKs sx sy f (i + 1) ts
def turnAs (sx sy : Str) : List Ar → List Ar
  | [] => []
  | ⟨s, l, b⟩ :: ts => ⟨s, l, if sx ∈ l then b else turnT sx sy b⟩ :: turnAs sx sy ts
end
theorem turnT_eq (sx sy : Str) (t : Tm) : turnT sx sy t = ⟨t.kind, t.at_, turnS sx sy t, t.param, t.n, turnKs sx sy (boundR t.kind t.name t.param) 0 t.kids, turnAs sx sy t.arms, t.row⟩ := by obtain ⟨k, a, s, p, n, ks, az, r⟩ := t; rw [turnT]; rfl
theorem turnAs_cons (sx sy : Str) (a : Ar) (ts : List Ar) : turnAs sx sy (a :: ts) = ⟨a.name, a.vars, if sx ∈ a.vars then a.body else turnT sx sy a.body⟩ :: turnAs sx sy ts := by obtain ⟨x, l, b⟩ := a; rw [turnAs]; rfl
abbrev turned_G (t : Tm) : Prop := ∀ {w : World} {m : Mem} {vs_t : List Value} {sx : Str} {sy : Str} (hA : Agree w m) (h_t : TmR m t vs_t) (hb : countM t ≤ 1000000000), FnV Tryd.prog 18 #[.agg vs_t.toArray, S sx, S sy] w m (fun _ m v => (MP.tm (turnT sx sy t)).p m v)
set_option maxHeartbeats 1600000 in
theorem turned_s {t : Tm} (ihk : ∀ u ∈ t.kids, turned_G u) (iha : ∀ a ∈ t.arms, turned_G a.body) {w : World} {m : Mem} {vs_t : List Value} {sx : Str} {sy : Str} (hA : Agree w m) (h_t : TmR m t vs_t) (hb : countM t ≤ 1000000000) : FnV Tryd.prog 18 #[.agg vs_t.toArray, S sx, S sy] w m (fun _ m v => (MP.tm (turnT sx sy t)).p m v) := by
  obtain ⟨⟨oK_t, cK_t, oA_t, cA_t, oR_t, cR_t, t0_t, t1_t, t2_t, t3_t, t4_t, t5_t, u0_t, u1_t, u2_t, u3_t, u4_t, u5_t⟩, rfl, hon_t, hkk_t, haa_t, hrr_t⟩ := h_t.open_
  dsimp only at hkk_t haa_t hrr_t
  have hbg_t := hkk_t.big; have hcp_t := hkk_t.cap; have hbh_t := haa_t.big; have hcq_t := haa_t.cap
  refine fn_enter (vs := [_, _, _]) Tryd.func18 rfl rfl rfl fun a0 hfr0 => ?_
  have hst0 := st_enter hA (loc_nil [] _ w m)
  have hM : MLe m m := MLe.refl m
  have hce := countM_eq t
  have hkl_ := countKs_len t.kids
  have hal_ := countAs_len t.arms
  refine seq_any fun _ hK1 => ?_
  replace hst0 := hst0.more (r := .free) trivial List.nodup_nil (by simp [Res.blocks])
  refine ra0 (tch := [(1, 0, (fun v => .blk v _))]) hst0 hfr0 (.cons rfl (ob_box rfl rfl) <| .consT rfl rfl (fun _ => rfl) rfl (ob_allocL Tryd.zeroValue33 rfl) <| .nil) ?_
  intro a1 w1 m1 hst1 hle1 hk1
  have hfr1 := hk1.fr (T' := [(1, _), (2, _)]) (.old rfl rfl <| .old rfl rfl <| .nil)
  obtain ⟨g2, e2, hc3⟩ := hk1.ex 3 rfl
  replace hfr1 := hfr1.cons e2
  obtain ⟨g3, e3, _⟩ := hk1.ex 6 rfl
  replace hfr1 := hfr1.cons e3
  replace hst1 := hst1.fin (L' := [_]) (.cons e3 <| .nil)
  replace h_t := h_t.mono hle1
  replace hkk_t := hkk_t.mono hle1
  replace haa_t := haa_t.mono hle1
  replace hrr_t := hrr_t.mono hle1
  clear hst0 hfr0 hk1
  refine hK1 _ _ ?_; clear hK1
  refine seq_any fun _ hK4 => ?_
  replace hst1 := hst1.more (r := .free) trivial List.nodup_nil (by simp [Res.blocks])
  refine ra0 (tch := [(1, 1, (fun v => .blk v _)), (2, 1, (fun v => .blk v _))]) hst1 hfr1 (.cons rfl (ob_loadS' rfl hc3 Tryd.isAgg33 Tryd.sizeOf33 rfl rfl) <| .consT rfl rfl (fun _ => rfl) rfl (ob_allocL Tryd.zeroValue33 rfl) <| .consT rfl rfl (fun _ => rfl) rfl (ob_imgT 7 rfl rfl rfl fun y7 => ob_storeF rfl rfl rfl rfl rfl Tryd.sizeOf33 rfl rfl h_t.one) <| .nil) ?_
  intro a2 w2 m2 hst2 hle2 hk2
  have hfr2 := hk2.fr (T' := [(1, _), (2, _), (3, _), (6, _)]) (.old rfl rfl <| .old rfl rfl <| .old rfl rfl <| .old rfl rfl <| .nil)
  obtain ⟨gB, e5, _⟩ := hk2.ex 7 rfl
  replace hfr2 := hfr2.cons e5
  replace hst2 := hst2.fin (L' := [_, _]) (.cons e5 <| .cons e5 <| .nil)
  try simp only [List.take_succ_cons, List.take_zero, List.drop_succ_cons, List.drop_zero, List.cons_append, List.nil_append, List.append_nil, List.length_cons, List.length_nil, Nat.zero_add, Nat.reduceAdd] at hst2
  replace h_t := h_t.mono hle2
  replace hkk_t := hkk_t.mono hle2
  replace haa_t := haa_t.mono hle2
  replace hrr_t := hrr_t.mono hle2
  replace hc3 := hc3.mono hle2
  clear hst1 hfr1 hk2
  refine hK4 _ _ ?_; clear hK4
  refine seq_any fun _ hK6 => ?_
  refine ra0 (tch := [(1, 1, (fun _ => .blk _ _))]) hst2 hfr2 (.cons rfl (ob_fieldAddrO (off := 5) rfl Tryd.underlying33 rfl rfl Tryd.sizeOf24 rfl) <| .consT rfl rfl (fun _ => rfl) rfl (ob_store rfl rfl rfl Tryd.sizeOf24 rfl rfl rfl) <| .nil) ?_
  intro a3 w3 m3 hst3 hle3 hk3
  have hfr3 := hk3.fr (T' := [(1, _), (2, _), (3, _), (6, _), (7, _)]) (.old rfl rfl <| .old rfl rfl <| .old rfl rfl <| .old rfl rfl <| .old rfl rfl <| .nil)
  replace hst3 := hst3.fin (L' := [_, _]) (.cons rfl <| .nil)
  try simp only [List.take_succ_cons, List.take_zero, List.drop_succ_cons, List.drop_zero, List.cons_append, List.nil_append, List.append_nil, List.length_cons, List.length_nil, Nat.zero_add, Nat.reduceAdd] at hst3
  replace h_t := h_t.mono hle3
  replace hkk_t := hkk_t.mono hle3
  replace haa_t := haa_t.mono hle3
  replace hrr_t := hrr_t.mono hle3
  replace hc3 := hc3.mono hle3
  clear hst2 hfr2 hk3
  refine hK6 _ _ ?_; clear hK6
  refine seq_any fun _ hK7 => ?_
  refine ra0 (tch := [(1, 1, (fun _ => .blk _ _))]) hst3 hfr3 (.cons rfl (ob_fieldAddrO (off := 6) rfl Tryd.underlying33 rfl rfl Tryd.sizeOf25 rfl) <| .consT rfl rfl (fun _ => rfl) rfl (ob_store rfl rfl rfl Tryd.sizeOf25 rfl rfl rfl) <| .nil) ?_
  intro a4 w4 m4 hst4 hle4 hk4
  have hfr4 := hk4.fr (T' := [(1, _), (2, _), (3, _), (6, _), (7, _)]) (.old rfl rfl <| .old rfl rfl <| .old rfl rfl <| .old rfl rfl <| .old rfl rfl <| .nil)
  replace hst4 := hst4.fin (L' := [_, _]) (.cons rfl <| .nil)
  try simp only [List.take_succ_cons, List.take_zero, List.drop_succ_cons, List.drop_zero, List.cons_append, List.nil_append, List.append_nil, List.length_cons, List.length_nil, Nat.zero_add, Nat.reduceAdd] at hst4
  replace h_t := h_t.mono hle4
  replace hkk_t := hkk_t.mono hle4
  replace haa_t := haa_t.mono hle4
  replace hrr_t := hrr_t.mono hle4
  replace hc3 := hc3.mono hle4
  clear hst3 hfr3 hk4
  have hst4 := hst4.more (r := .rowx (.slice none 0 0) 0 21 33 (MP.reads (fun m vs t => TmR m t vs) 21 [])) rowx_new List.nodup_nil (by simp [Res.blocks, rowBlock])
  have hsl_K : Tms m4 none ([] : List Tm).length 0 ([] : List Tm) := Sl.empty
  have hst4 := hst4.more (r := .rowx (.slice none 0 0) 0 23 60 (MP.reads (fun m vs t => ArR m t vs) 23 [])) rowx_new List.nodup_nil (by simp [Res.blocks, rowBlock])
  have hsl_A : Ars m4 none ([] : List Ar).length 0 ([] : List Ar) := Sl.empty
  refine hK7 _ _ ?_; clear hK7
  refine join_any (T := [(1, _), (2, _), (3, _), (6, _), (7, _)]) (fun (y : Str) => ([] : List (Nat × Value))) (fun y => [_, .blk (.pointer (some ⟨gB, 0, none⟩)) (.cells (tmV ⟨t.kind, t.at_, y, t.param, t.n, [], [], t.row⟩ (⟨none, 0, none, 0, oR_t, cR_t, t0_t, t1_t, t2_t, t3_t, t4_t, t5_t, u0_t, u1_t, u2_t, u3_t, u4_t, u5_t⟩ : TmY)).toArray 33), _, _]) (fun (y : Str) m => (fun (ss : Str) => (ss = turnS sx sy t)) y) ((t.name)) ⟨hst4, MLe.refl _, hfr4.sub (.cons rfl <| .cons rfl <| .cons rfl <| .cons rfl <| .cons rfl <| .nil), trivial⟩ (fun y a5 w5 m5 hh5 => ?_) (fun K8 hj8 => ?_)
  · have hst5 := hh5.st; have hle5 := hh5.le; have hfr5 := hh5.fr; have hrel := hh5.rel; clear hh5
    replace h_t := h_t.mono hle5
    replace hkk_t := hkk_t.mono hle5
    replace haa_t := haa_t.mono hle5
    replace hrr_t := hrr_t.mono hle5
    replace hc3 := hc3.mono hle5
    replace hsl_K := hsl_K.mono hle5
    replace hsl_A := hsl_A.mono hle5
    clear hst4 hfr4
    obtain ⟨ss, rfl⟩ : ∃ z, z = y := ⟨_, rfl⟩
    try dsimp only at hrel
    try dsimp only at hfr5
    try dsimp only at hst5
    have hss := hrel
    subst hss
    refine seq_any fun _ hK9 => ?_
    refine seq_any fun _ hK10 => ?_
    refine rp0 hst5 hfr5 (.cons rfl (ob_assign rfl) <| .nil) ?_
    intro a6 w6 m6 hst6 hle6 hk6
    have hfr6 := hk6.fr (T' := [(1, _), (2, _), (3, _), (6, _), (7, _), (8, _)]) (.old rfl rfl <| .old rfl rfl <| .old rfl rfl <| .old rfl rfl <| .old rfl rfl <| .new rfl <| .nil)
    replace h_t := h_t.mono hle6
    replace hkk_t := hkk_t.mono hle6
    replace haa_t := haa_t.mono hle6
    replace hrr_t := hrr_t.mono hle6
    replace hc3 := hc3.mono hle6
    replace hsl_K := hsl_K.mono hle6
    replace hsl_A := hsl_A.mono hle6
    clear hst5 hfr5 hk6
    refine hK10 _ _ ?_; clear hK10
    refine wp_block ?_
    refine loop_any (T := [(1, _), (2, _), (3, _), (6, _), (7, _)]) (fun (y : Nat × Option Addr × Nat × List Tm) => ([(8, .int .i64 (y.1 : Int))] : List (Nat × Value))) (fun y => [_, .blk (.pointer (some ⟨gB, 0, none⟩)) (.cells (tmV ⟨t.kind, t.at_, (turnS sx sy t), t.param, t.n, y.2.2.2, [], t.row⟩ (⟨y.2.1, y.2.2.1, none, 0, oR_t, cR_t, t0_t, t1_t, t2_t, t3_t, t4_t, t5_t, u0_t, u1_t, u2_t, u3_t, u4_t, u5_t⟩ : TmY)).toArray 33), .rowx (nz (.slice y.2.1 y.2.2.2.length y.2.2.1)) y.2.2.2.length 21 33 (MP.reads (fun m vs t => TmR m t vs) 21 y.2.2.2), _]) (fun (y : Nat × Option Addr × Nat × List Tm) m => (fun (y : Nat) (klo : Option Addr) (klp : Nat) (kl : List Tm) => (y ≤ t.kids.length) ∧ (Tms m klo kl.length klp kl) ∧ (turnKs sx sy (boundR t.kind t.name t.param) 0 t.kids = kl ++ turnKs sx sy (boundR t.kind t.name t.param) y (t.kids.drop y) ∧ kl.length ≤ y) ∧ (countKs (t.kids.drop y) ≤ countKs t.kids)) y.1 y.2.1 y.2.2.1 y.2.2.2) (fun y => t.kids.length - y.1) ((0, none, 0, ([] : List Tm))) ⟨hst6, MLe.refl _, hfr6.sub (.cons rfl <| .cons rfl <| .cons rfl <| .cons rfl <| .cons rfl <| .cons rfl <| .nil), ⟨Nat.zero_le _, hsl_K, ⟨rfl, Nat.le_refl _⟩, Nat.le_refl _⟩⟩ fun y a7 w7 m7 hh7 => ?_
    have hst7 := hh7.st; have hle7 := hh7.le; have hfr7 := hh7.fr; have hrel := hh7.rel; clear hh7
    replace h_t := h_t.mono hle7
    replace hkk_t := hkk_t.mono hle7
    replace haa_t := haa_t.mono hle7
    replace hrr_t := hrr_t.mono hle7
    replace hc3 := hc3.mono hle7
    replace hsl_A := hsl_A.mono hle7
    clear hst6 hfr6
    obtain ⟨y, klo, klp, kl⟩ := y
    dsimp only at hrel hfr7 hst7
    obtain ⟨hyn, hsl_kl, hlen_kl, hck⟩ := hrel
    have hlh7 := hle7
    refine seq_any fun _ hK12 => ?_
    refine seq_any fun _ hK13 => ?_
    refine rp0 hst7 hfr7 (.cons rfl (ob_move rfl) <| .cons rfl (ob_fieldAddrO (off := 5) rfl Tryd.underlying33 rfl rfl Tryd.sizeOf24 rfl) <| .cons rfl (ob_load1 rfl hc3 Tryd.isAgg24 rfl) <| .cons rfl (ob_len rfl Tryd.underlying24) <| .cons rfl (ob_lss rfl rfl) <| .nil) ?_
    intro a8 w8 m8 hst8 hle8 hk8
    have hfr8 := hk8.fr (T' := [(8, _), (1, _), (2, _), (3, _), (6, _), (7, _), (30, _)]) (.old rfl rfl <| .old rfl rfl <| .old rfl rfl <| .old rfl rfl <| .old rfl rfl <| .old rfl rfl <| .new rfl <| .nil)
    replace h_t := h_t.mono hle8
    replace hkk_t := hkk_t.mono hle8
    replace haa_t := haa_t.mono hle8
    replace hrr_t := hrr_t.mono hle8
    replace hc3 := hc3.mono hle8
    replace hsl_A := hsl_A.mono hle8
    replace hsl_kl := hsl_kl.mono hle8
    have hlh8 := hlh7.trans hle8
    clear hst7 hfr7 hk8
    refine hK13 _ _ ?_; clear hK13
    refine cond_any hfr8 rfl rfl (fun hb30 => ?_) (fun hb30 => ?_)
    · try simp only [nq1, nq2, nq3, nq4, nq5, nq6, nq7, nq8, nq9, u8_eq] at hb30
      refine wp_skip ?_
      refine hK12 _ _ ?_; clear hK12
      refine seq_any fun _ hK14 => ?_
      refine wp_block ?_
      refine seq_any fun _ hK15 => ?_
      obtain ⟨p16, vs16, x16, ho16, hd16, hm_x16, ht16, hcv16, hl16, hv16⟩ := hkk_t.nth (k := y) (by omega)
      cases ho16
      obtain ⟨⟨oK16, cK16, oA16, cA16, oR16, cR16, t016, t116, t216, t316, t416, t516, u016, u116, u216, u316, u416, u516⟩, rfl, hon16, hkk16, haa16, hrr16⟩ := hv16.open_
      dsimp only at hkk16 haa16 hrr16
      have hbg16 := hkk16.big; have hcp16 := hkk16.cap; have hbh16 := haa16.big; have hcq16 := haa16.cap
      rw [hd16, countKs] at hck
      rw [hd16, turnKs] at hlen_kl
      have hkll := hlen_kl.2
      replace hst8 := hst8.more (r := .free) trivial List.nodup_nil (by simp [Res.blocks])
      refine ra0 (tch := [(5, 4, (fun v => .blk v _)), (6, 4, (fun v => .blk v _))]) hst8 hfr8 (.cons rfl (ob_fieldAddrO (off := 5) rfl Tryd.underlying33 rfl rfl Tryd.sizeOf24 rfl) <| .cons rfl (ob_load1 rfl hc3 Tryd.isAgg24 rfl) <| .cons rfl (ob_move rfl) <| .cons rfl (ob_indexAddr (k := y) rfl rfl Tryd.underlying24 Tryd.sizeOf33 rfl (by omega)) <| .cons rfl (ob_loadS' rfl hcv16 Tryd.isAgg33 Tryd.sizeOf33 rfl rfl) <| .consT rfl rfl (fun _ => rfl) rfl (ob_allocL Tryd.zeroValue33 rfl) <| .consT rfl rfl (fun _ => rfl) rfl (ob_imgT 9 rfl rfl rfl fun y9 => ob_storeF rfl rfl rfl rfl rfl Tryd.sizeOf33 rfl rfl hv16.one) <| .nil) ?_
      intro a9 w9 m9 hst9 hle9 hk9
      have hfr9 := hk9.fr (T' := [(8, _), (1, _), (2, _), (3, _), (6, _), (7, _)]) (.old rfl rfl <| .old rfl rfl <| .old rfl rfl <| .old rfl rfl <| .old rfl rfl <| .old rfl rfl <| .nil)
      obtain ⟨g17, e17, _⟩ := hk9.ex 9 rfl
      replace hfr9 := hfr9.cons e17
      replace hst9 := hst9.fin (L' := [_, _, _, _, _]) (.cons e17 <| .cons e17 <| .nil)
      try simp only [List.take_succ_cons, List.take_zero, List.drop_succ_cons, List.drop_zero, List.cons_append, List.nil_append, List.append_nil, List.length_cons, List.length_nil, Nat.zero_add, Nat.reduceAdd] at hst9
      replace h_t := h_t.mono hle9
      replace hc3 := hc3.mono hle9
      replace hv16 := hv16.mono hle9
      have hlh9 := hlh8.trans hle9
      clear hst8 hfr8 hk9
      refine hK15 _ _ ?_; clear hK15
      refine seq_any fun _ hK18 => ?_
      refine seq_any fun _ hK19 => ?_
      refine rp0 hst9 hfr9 (.cons rfl (ob_loadS' rfl hc3 Tryd.isAgg33 Tryd.sizeOf33 rfl rfl) <| .cons rfl (ob_move rfl) <| .cons rfl (ob_call (φ := MP.strs (boundR t.kind t.name t.param y)) rfl (.cons rfl <| .cons rfl <| .nil) Tryd.call29 (fun w m hK => by have hle_ := KC.le hK; have hA := KC.agree hK; have h_t := h_t.mono hle_; exact FnG.mono (bound_c (t := t) (i := y) hA h_t) fun _ _ _ _ h => h)) <| .cons rfl (ob_move rfl) <| .cons rfl (ob_imgE 40 rfl rfl rfl fun y40 => ob_callE rfl (.cons rfl <| .cons rfl <| .nil) Tryd.call15 (fun w m hK => by have hle_ := KC.le hK; have hA := KC.agree hK; have hr0_ := hK.2; exact in_c (l := boundR t.kind t.name t.param y) hA hr0_)) <| .cons rfl (ob_not rfl) <| .nil) ?_
      intro a10 w10 m10 hst10 hle10 hk10
      have hfr10 := hk10.fr (T' := [(8, _), (1, _), (2, _), (3, _), (6, _), (7, _), (9, _), (43, _)]) (.old rfl rfl <| .old rfl rfl <| .old rfl rfl <| .old rfl rfl <| .old rfl rfl <| .old rfl rfl <| .old rfl rfl <| .new rfl <| .nil)
      replace hv16 := hv16.mono hle10
      have hlh10 := hlh9.trans hle10
      clear hst9 hfr9 hk10
      refine hK19 _ _ ?_; clear hK19
      refine cond_any hfr10 rfl rfl (fun hb43 => ?_) (fun hb43 => ?_)
      · try simp only [nq1, nq2, nq3, nq4, nq5, nq6, nq7, nq8, nq9, u8_eq] at hb43
        rw [if_neg (by simpa using hb43)] at hlen_kl
        refine ra0 (tch := [(4, 4, (fun _ => .blkx _ _ _))]) hst10 hfr10 (.cons rfl (ob_loadLA (j := 4) rfl rfl Tryd.isAgg33 Tryd.sizeOf33 rfl) <| .cons rfl (ob_move rfl) <| .cons rfl (ob_move rfl) <| .cons rfl (ob_call (φ := MP.tm (turnT sx sy x16)) rfl (.cons rfl <| .cons rfl <| .cons rfl <| .nil) Tryd.call18 (fun w m hK => by have hle_ := KC.le hK; have hA := KC.agree hK; have hv16 := hv16.mono hle_; exact FnG.mono (ihk _ hm_x16 hA hv16 (by omega)) fun _ _ _ _ h => h)) <| .consT rfl rfl (fun _ => rfl) rfl (ob_imgTX 47 rfl rfl rfl fun y47 => ob_storeK' rfl rfl rfl Tryd.sizeOf33 rfl rfl (fun w m hK => hK.2.one)) <| .nil) ?_
        intro a11 w11 m11 hst11 hle11 hk11
        have hfr11 := hk11.fr (T' := [(8, _), (1, _), (2, _), (3, _), (6, _), (7, _), (9, _)]) (.old rfl rfl <| .old rfl rfl <| .old rfl rfl <| .old rfl rfl <| .old rfl rfl <| .old rfl rfl <| .old rfl rfl <| .nil)
        replace hst11 := hst11.fin (L' := [_, _, _, _, _]) (.cons rfl <| .nil)
        try simp only [List.take_succ_cons, List.take_zero, List.drop_succ_cons, List.drop_zero, List.cons_append, List.nil_append, List.append_nil, List.length_cons, List.length_nil, Nat.zero_add, Nat.reduceAdd] at hst11
        obtain ⟨yb, hcb, hst11⟩ := hst11.unx (k := 4) rfl (fun _ => rfl)
        have hlh11 := hlh10.trans hle11
        clear hst10 hfr10 hk11
        refine hK18 _ _ ?_; clear hK18
        refine ra0 (tch := [(4, 2, (fun v => .rowx (nz v) _ _ _ _)), (6, 1, (fun u => .blk _ (.cells (_ ++ [u] ++ _).toArray _)))]) hst11 hfr11 (.cons rfl (ob_fieldAddrO (off := 5) rfl Tryd.underlying33 rfl rfl Tryd.sizeOf24 rfl) <| .cons rfl (ob_loadL (j := 1) rfl rfl Tryd.isAgg24 rfl) <| .cons rfl (ob_loadLA (j := 4) rfl rfl Tryd.isAgg33 Tryd.sizeOf33 rfl) <| .cons rfl (ob_buildSlice1 rfl Tryd.underlying24 Tryd.sizeOf33 Tryd.zeroValue33 rfl rfl rfl rfl) <| .consT rfl rfl (fun _ => rfl) rfl (ob_imgT 51 rfl rfl rfl fun y51 => ob_appendX (size := 21) (bytes := 312) (l := kl) (l' := [turnT sx sy x16]) rfl rfl (fun _ => by first | exact .inl rfl | exact .inr (.inl rfl)) Tryd.underlying24 Tryd.type33 rfl rfl rfl rfl (fun w m hK => Sl.one (R := fun m vs t => TmR m t vs) hK.2 rfl (hcb.mono (KC.le hK))) rfl (by decide) (by simp only [maxLen]; omega) (by omega)) <| .cons rfl (ob_fieldAddrO (off := 5) rfl Tryd.underlying33 rfl rfl Tryd.sizeOf24 rfl) <| .consT rfl rfl (fun _ => rfl) rfl (ob_imgT 52 rfl rfl rfl fun y52 => ob_storeV rfl rfl rfl rfl rfl Tryd.sizeOf24 rfl rfl rfl) <| .nil) ?_
        intro a12 w12 m12 hst12 hle12 hk12
        have hfr12 := hk12.fr (T' := [(8, _), (1, _), (2, _), (3, _), (6, _), (7, _)]) (.old rfl rfl <| .old rfl rfl <| .old rfl rfl <| .old rfl rfl <| .old rfl rfl <| .old rfl rfl <| .nil)
        obtain ⟨⟨K_21o, K_21p⟩, e22, hsl_K_21⟩ := hk12.ex 52 rfl
        replace hst12 := hst12.fin (L' := [_, _, _, _, _]) (.cons e22 <| .cons e22 <| .nil)
        try simp only [List.take_succ_cons, List.take_zero, List.drop_succ_cons, List.drop_zero, List.cons_append, List.nil_append, List.append_nil, List.length_cons, List.length_nil, Nat.zero_add, Nat.reduceAdd] at hst12
        have hlh12 := hlh11.trans hle12
        clear hst11 hfr11 hk12
        replace hsl_K_21 : Tms m12 K_21o (kl ++ [turnT sx sy x16]).length K_21p (kl ++ [turnT sx sy x16]) := hsl_K_21
        refine hK14 _ _ ?_; clear hK14
        refine rp0 hst12 hfr12 (.cons rfl (ob_move rfl) <| .cons rfl (ob_add rfl rfl ⟨by omega, by omega⟩) <| .cons rfl (ob_assign rfl) <| .nil) ?_
        intro a13 w13 m13 hst13 hle13 hk13
        have hfr13 := hk13.fr (T' := [(1, _), (2, _), (3, _), (6, _), (7, _), (8, _)]) (.old rfl rfl <| .old rfl rfl <| .old rfl rfl <| .old rfl rfl <| .old rfl rfl <| .new rfl <| .nil)
        replace hsl_K_21 := hsl_K_21.mono hle13
        have hlh13 := hlh12.trans hle13
        clear hst12 hfr12 hk13
        have hst13 := hst13.take 4
        exact ⟨(y + 1, K_21o, K_21p, (kl ++ [turnT sx sy x16])), m13, by show t.kids.length - (y + 1) < t.kids.length - y; omega, ⟨hst13, hlh13, hfr13.sub (.cons rfl <| .cons rfl <| .cons rfl <| .cons rfl <| .cons rfl <| .cons rfl <| .nil), ⟨by show y + 1 ≤ t.kids.length; omega, hsl_K_21, ⟨by rw [hlen_kl.1]; show _ = (kl ++ [turnT sx sy x16]) ++ turnKs sx sy (boundR t.kind t.name t.param) (y + 1) (t.kids.drop (y + 1)); simp, by show (kl ++ [turnT sx sy x16]).length ≤ y + 1; simp; omega⟩, by show countKs (t.kids.drop (y + 1)) ≤ countKs t.kids; omega⟩⟩⟩
      · try simp only [nq1, nq2, nq3, nq4, nq5, nq6, nq7, nq8, nq9, u8_eq] at hb43
        rw [if_pos (by simpa using hb43)] at hlen_kl
        refine wp_skip ?_
        refine hK18 _ _ ?_; clear hK18
        refine ra0 (tch := [(4, 2, (fun v => .rowx (nz v) _ _ _ _)), (6, 1, (fun u => .blk _ (.cells (_ ++ [u] ++ _).toArray _)))]) hst10 hfr10 (.cons rfl (ob_fieldAddrO (off := 5) rfl Tryd.underlying33 rfl rfl Tryd.sizeOf24 rfl) <| .cons rfl (ob_loadL (j := 1) rfl rfl Tryd.isAgg24 rfl) <| .cons rfl (ob_loadLA (j := 4) rfl rfl Tryd.isAgg33 Tryd.sizeOf33 rfl) <| .cons rfl (ob_buildSlice1 rfl Tryd.underlying24 Tryd.sizeOf33 Tryd.zeroValue33 rfl rfl rfl rfl) <| .consT rfl rfl (fun _ => rfl) rfl (ob_imgT 51 rfl rfl rfl fun y51 => ob_appendX (size := 21) (bytes := 312) (l := kl) (l' := [x16]) rfl rfl (fun _ => by first | exact .inl rfl | exact .inr (.inl rfl)) Tryd.underlying24 Tryd.type33 rfl rfl rfl rfl (fun w m hK => Sl.one (R := fun m vs t => TmR m t vs) hK.2 rfl (hv16.mono (KC.le hK))) rfl (by decide) (by simp only [maxLen]; omega) (by omega)) <| .cons rfl (ob_fieldAddrO (off := 5) rfl Tryd.underlying33 rfl rfl Tryd.sizeOf24 rfl) <| .consT rfl rfl (fun _ => rfl) rfl (ob_imgT 52 rfl rfl rfl fun y52 => ob_storeV rfl rfl rfl rfl rfl Tryd.sizeOf24 rfl rfl rfl) <| .nil) ?_
        intro a11 w11 m11 hst11 hle11 hk11
        have hfr11 := hk11.fr (T' := [(8, _), (1, _), (2, _), (3, _), (6, _), (7, _)]) (.old rfl rfl <| .old rfl rfl <| .old rfl rfl <| .old rfl rfl <| .old rfl rfl <| .old rfl rfl <| .nil)
        obtain ⟨⟨K_23o, K_23p⟩, e24, hsl_K_23⟩ := hk11.ex 52 rfl
        replace hst11 := hst11.fin (L' := [_, _, _, _, _]) (.cons e24 <| .cons e24 <| .nil)
        try simp only [List.take_succ_cons, List.take_zero, List.drop_succ_cons, List.drop_zero, List.cons_append, List.nil_append, List.append_nil, List.length_cons, List.length_nil, Nat.zero_add, Nat.reduceAdd] at hst11
        have hlh11 := hlh10.trans hle11
        clear hst10 hfr10 hk11
        replace hsl_K_23 : Tms m11 K_23o (kl ++ [x16]).length K_23p (kl ++ [x16]) := hsl_K_23
        refine hK14 _ _ ?_; clear hK14
        refine rp0 hst11 hfr11 (.cons rfl (ob_move rfl) <| .cons rfl (ob_add rfl rfl ⟨by omega, by omega⟩) <| .cons rfl (ob_assign rfl) <| .nil) ?_
        intro a12 w12 m12 hst12 hle12 hk12
        have hfr12 := hk12.fr (T' := [(1, _), (2, _), (3, _), (6, _), (7, _), (8, _)]) (.old rfl rfl <| .old rfl rfl <| .old rfl rfl <| .old rfl rfl <| .old rfl rfl <| .new rfl <| .nil)
        replace hsl_K_23 := hsl_K_23.mono hle12
        have hlh12 := hlh11.trans hle12
        clear hst11 hfr11 hk12
        have hst12 := hst12.take 4
        exact ⟨(y + 1, K_23o, K_23p, (kl ++ [x16])), m12, by show t.kids.length - (y + 1) < t.kids.length - y; omega, ⟨hst12, hlh12, hfr12.sub (.cons rfl <| .cons rfl <| .cons rfl <| .cons rfl <| .cons rfl <| .cons rfl <| .nil), ⟨by show y + 1 ≤ t.kids.length; omega, hsl_K_23, ⟨by rw [hlen_kl.1]; show _ = (kl ++ [x16]) ++ turnKs sx sy (boundR t.kind t.name t.param) (y + 1) (t.kids.drop (y + 1)); simp, by show (kl ++ [x16]).length ≤ y + 1; simp; omega⟩, by show countKs (t.kids.drop (y + 1)) ≤ countKs t.kids; omega⟩⟩⟩
    · try simp only [nq1, nq2, nq3, nq4, nq5, nq6, nq7, nq8, nq9, u8_eq] at hb30
      have hge : y = t.kids.length := by omega
      rw [List.drop_of_length_le (by omega), turnKs, List.append_nil] at hlen_kl
      have hkL9 := hlen_kl.1
      refine wp_exit ?_
      refine hK9 _ _ ?_; clear hK9
      refine seq_any fun _ hK25 => ?_
      refine seq_any fun _ hK26 => ?_
      refine rp0 hst8 hfr8 (.cons rfl (ob_assign rfl) <| .nil) ?_
      intro a9 w9 m9 hst9 hle9 hk9
      have hfr9 := hk9.fr (T' := [(8, _), (1, _), (2, _), (3, _), (6, _), (7, _), (10, _)]) (.old rfl rfl <| .old rfl rfl <| .old rfl rfl <| .old rfl rfl <| .old rfl rfl <| .old rfl rfl <| .new rfl <| .nil)
      replace haa_t := haa_t.mono hle9
      replace hrr_t := hrr_t.mono hle9
      replace hc3 := hc3.mono hle9
      replace hsl_A := hsl_A.mono hle9
      replace hsl_kl := hsl_kl.mono hle9
      have hlh9 := hlh8.trans hle9
      clear hst8 hfr8 hk9
      refine hK26 _ _ ?_; clear hK26
      refine wp_block ?_
      have hlq27 := hlh9
      refine loop_any (T := [(8, _), (1, _), (2, _), (3, _), (6, _), (7, _)]) (fun (y : Nat × Option Addr × Nat × List Ar) => ([(10, .int .i64 (y.1 : Int))] : List (Nat × Value))) (fun y => [_, .blk (.pointer (some ⟨gB, 0, none⟩)) (.cells (tmV ⟨t.kind, t.at_, (turnS sx sy t), t.param, t.n, kl, y.2.2.2, t.row⟩ (⟨klo, klp, y.2.1, y.2.2.1, oR_t, cR_t, t0_t, t1_t, t2_t, t3_t, t4_t, t5_t, u0_t, u1_t, u2_t, u3_t, u4_t, u5_t⟩ : TmY)).toArray 33), _, .rowx (nz (.slice y.2.1 y.2.2.2.length y.2.2.1)) y.2.2.2.length 23 60 (MP.reads (fun m vs t => ArR m t vs) 23 y.2.2.2)]) (fun (y : Nat × Option Addr × Nat × List Ar) m => (fun (y : Nat) (alo : Option Addr) (alp : Nat) (al : List Ar) => (y ≤ t.arms.length) ∧ (Ars m alo al.length alp al) ∧ (turnAs sx sy t.arms = al ++ turnAs sx sy (t.arms.drop y) ∧ al.length ≤ y) ∧ (countAs (t.arms.drop y) ≤ countAs t.arms)) y.1 y.2.1 y.2.2.1 y.2.2.2) (fun y => t.arms.length - y.1) ((0, none, 0, ([] : List Ar))) ⟨hst9, MLe.refl _, hfr9.sub (.cons rfl <| .cons rfl <| .cons rfl <| .cons rfl <| .cons rfl <| .cons rfl <| .cons rfl <| .nil), ⟨Nat.zero_le _, hsl_A, ⟨rfl, Nat.le_refl _⟩, Nat.le_refl _⟩⟩ fun y a10 w10 m10 hh10 => ?_
      have hst10 := hh10.st; have hle10 := hh10.le; have hfr10 := hh10.fr; have hrel := hh10.rel; clear hh10
      replace haa_t := haa_t.mono hle10
      replace hrr_t := hrr_t.mono hle10
      replace hc3 := hc3.mono hle10
      replace hsl_kl := hsl_kl.mono hle10
      clear hst9 hfr9
      obtain ⟨y, alo, alp, al⟩ := y
      dsimp only at hrel hfr10 hst10
      obtain ⟨hyn, hsl_al, hlen_al, hck⟩ := hrel
      have hlh10 := hle10
      refine seq_any fun _ hK28 => ?_
      refine seq_any fun _ hK29 => ?_
      refine rp0 hst10 hfr10 (.cons rfl (ob_move rfl) <| .cons rfl (ob_fieldAddrO (off := 6) rfl Tryd.underlying33 rfl rfl Tryd.sizeOf25 rfl) <| .cons rfl (ob_load1 rfl hc3 Tryd.isAgg25 rfl) <| .cons rfl (ob_len rfl Tryd.underlying25) <| .cons rfl (ob_lss rfl rfl) <| .nil) ?_
      intro a11 w11 m11 hst11 hle11 hk11
      have hfr11 := hk11.fr (T' := [(10, _), (8, _), (1, _), (2, _), (3, _), (6, _), (7, _), (58, _)]) (.old rfl rfl <| .old rfl rfl <| .old rfl rfl <| .old rfl rfl <| .old rfl rfl <| .old rfl rfl <| .old rfl rfl <| .new rfl <| .nil)
      replace haa_t := haa_t.mono hle11
      replace hrr_t := hrr_t.mono hle11
      replace hc3 := hc3.mono hle11
      replace hsl_kl := hsl_kl.mono hle11
      replace hsl_al := hsl_al.mono hle11
      have hlh11 := hlh10.trans hle11
      clear hst10 hfr10 hk11
      refine hK29 _ _ ?_; clear hK29
      refine cond_any hfr11 rfl rfl (fun hb58 => ?_) (fun hb58 => ?_)
      · try simp only [nq1, nq2, nq3, nq4, nq5, nq6, nq7, nq8, nq9, u8_eq] at hb58
        refine wp_skip ?_
        refine hK28 _ _ ?_; clear hK28
        refine seq_any fun _ hK30 => ?_
        refine wp_block ?_
        refine seq_any fun _ hK31 => ?_
        obtain ⟨p32, vs32, x32, ho32, hd32, hm_x32, ht32, hcv32, hl32, hv32⟩ := haa_t.nth (k := y) (by omega)
        cases ho32
        obtain ⟨oV32, cV32, bs32, rfl, hva32, hbd32⟩ := hv32.open_
        have hbv32 := hva32.big; have hcv32_ := hva32.cap
        obtain ⟨⟨oK32b, cK32b, oA32b, cA32b, oR32b, cR32b, t032b, t132b, t232b, t332b, t432b, t532b, u032b, u132b, u232b, u332b, u432b, u532b⟩, rfl, hon32b, hkk32b, haa32b, hrr32b⟩ := hbd32.open_
        dsimp only at hkk32b haa32b hrr32b
        have hbg32b := hkk32b.big; have hcp32b := hkk32b.cap; have hbh32b := haa32b.big; have hcq32b := haa32b.cap
        rw [hd32, countAs_cons] at hck
        rw [hd32, turnAs_cons] at hlen_al
        have hall := hlen_al.2
        replace hst11 := hst11.more (r := .free) trivial List.nodup_nil (by simp [Res.blocks])
        refine ra0 (tch := [(5, 4, (fun v => .blk v _)), (6, 4, (fun v => .blk v _))]) hst11 hfr11 (.cons rfl (ob_fieldAddrO (off := 6) rfl Tryd.underlying33 rfl rfl Tryd.sizeOf25 rfl) <| .cons rfl (ob_load1 rfl hc3 Tryd.isAgg25 rfl) <| .cons rfl (ob_move rfl) <| .cons rfl (ob_indexAddr (k := y) rfl rfl Tryd.underlying25 Tryd.sizeOf60 rfl (by omega)) <| .cons rfl (ob_loadS' rfl hcv32 Tryd.isAgg60 Tryd.sizeOf60 rfl rfl) <| .consT rfl rfl (fun _ => rfl) rfl (ob_allocL Tryd.zeroValue60 rfl) <| .consT rfl rfl (fun _ => rfl) rfl (ob_imgT 11 rfl rfl rfl fun y11 => ob_storeF rfl rfl rfl rfl rfl Tryd.sizeOf60 rfl rfl hv32.one) <| .nil) ?_
        intro a12 w12 m12 hst12 hle12 hk12
        have hfr12 := hk12.fr (T' := [(10, _), (8, _), (1, _), (2, _), (3, _), (6, _), (7, _)]) (.old rfl rfl <| .old rfl rfl <| .old rfl rfl <| .old rfl rfl <| .old rfl rfl <| .old rfl rfl <| .old rfl rfl <| .nil)
        obtain ⟨g33, e33, _⟩ := hk12.ex 11 rfl
        replace hfr12 := hfr12.cons e33
        replace hst12 := hst12.fin (L' := [_, _, _, _, _]) (.cons e33 <| .cons e33 <| .nil)
        try simp only [List.take_succ_cons, List.take_zero, List.drop_succ_cons, List.drop_zero, List.cons_append, List.nil_append, List.append_nil, List.length_cons, List.length_nil, Nat.zero_add, Nat.reduceAdd] at hst12
        replace hva32 := hva32.mono hle12
        replace hbd32 := hbd32.mono hle12
        have hlh12 := hlh11.trans hle12
        clear hst11 hfr11 hk12
        refine hK31 _ _ ?_; clear hK31
        refine seq_any fun _ hK34 => ?_
        refine seq_any fun _ hK35 => ?_
        refine rp0 hst12 hfr12 (.cons rfl (ob_fieldAddrO (off := 1) rfl Tryd.underlying60 rfl rfl Tryd.sizeOf27 rfl) <| .cons rfl (ob_loadL (j := 4) rfl rfl Tryd.isAgg27 rfl) <| .cons rfl (ob_move rfl) <| .cons rfl (ob_callE rfl (.cons rfl <| .cons rfl <| .nil) Tryd.call15 (fun w m hK => by have hle_ := KC.le hK; have hA := KC.agree hK; have hva32 := hva32.mono hle_; exact in_c hA hva32)) <| .cons rfl (ob_not rfl) <| .nil) ?_
        intro a13 w13 m13 hst13 hle13 hk13
        have hfr13 := hk13.fr (T' := [(10, _), (8, _), (1, _), (2, _), (3, _), (6, _), (7, _), (11, _), (70, _)]) (.old rfl rfl <| .old rfl rfl <| .old rfl rfl <| .old rfl rfl <| .old rfl rfl <| .old rfl rfl <| .old rfl rfl <| .old rfl rfl <| .new rfl <| .nil)
        replace hva32 := hva32.mono hle13
        replace hbd32 := hbd32.mono hle13
        have hlh13 := hlh12.trans hle13
        clear hst12 hfr12 hk13
        refine hK35 _ _ ?_; clear hK35
        refine cond_any hfr13 rfl rfl (fun hb70 => ?_) (fun hb70 => ?_)
        · try simp only [nq1, nq2, nq3, nq4, nq5, nq6, nq7, nq8, nq9, u8_eq] at hb70
          rw [if_neg (by simpa using hb70)] at hlen_al
          refine ra0 (tch := [(6, 4, (fun _ => .blkx _ _ _))]) hst13 hfr13 (.cons rfl (ob_fieldAddrO (off := 2) rfl Tryd.underlying60 rfl rfl Tryd.sizeOf33 rfl) <| .cons rfl (ob_loadLS (j := 4) rfl rfl Tryd.isAgg33 Tryd.sizeOf33 rfl rfl) <| .cons rfl (ob_move rfl) <| .cons rfl (ob_move rfl) <| .cons rfl (ob_call (φ := MP.tm (turnT sx sy x32.body)) rfl (.cons rfl <| .cons rfl <| .cons rfl <| .nil) Tryd.call18 (fun w m hK => by have hle_ := KC.le hK; have hA := KC.agree hK; have hbd32 := hbd32.mono hle_; exact FnG.mono (iha _ hm_x32 hA hbd32 (by omega)) fun _ _ _ _ h => h)) <| .cons rfl (ob_fieldAddrO (off := 2) rfl Tryd.underlying60 rfl rfl Tryd.sizeOf33 rfl) <| .consT rfl rfl (fun _ => rfl) rfl (ob_imgTX 75 rfl rfl rfl fun y75 => ob_storeK rfl rfl rfl Tryd.sizeOf33 rfl rfl (fun w m hK => hK.2.one)) <| .nil) ?_
          intro a14 w14 m14 hst14 hle14 hk14
          have hfr14 := hk14.fr (T' := [(10, _), (8, _), (1, _), (2, _), (3, _), (6, _), (7, _), (11, _)]) (.old rfl rfl <| .old rfl rfl <| .old rfl rfl <| .old rfl rfl <| .old rfl rfl <| .old rfl rfl <| .old rfl rfl <| .old rfl rfl <| .nil)
          replace hst14 := hst14.fin (L' := [_, _, _, _, _]) (.cons rfl <| .nil)
          try simp only [List.take_succ_cons, List.take_zero, List.drop_succ_cons, List.drop_zero, List.cons_append, List.nil_append, List.append_nil, List.length_cons, List.length_nil, Nat.zero_add, Nat.reduceAdd] at hst14
          obtain ⟨yb, hcb, hst14⟩ := hst14.unx (k := 4) rfl (fun _ => rfl)
          replace hva32 := hva32.mono hle14
          have hlh14 := hlh13.trans hle14
          clear hst13 hfr13 hk14
          refine hK34 _ _ ?_; clear hK34
          refine ra0 (tch := [(4, 3, (fun v => .rowx (nz v) _ _ _ _)), (6, 1, (fun u => .blk _ (.cells (_ ++ [u] ++ _).toArray _)))]) hst14 hfr14 (.cons rfl (ob_fieldAddrO (off := 6) rfl Tryd.underlying33 rfl rfl Tryd.sizeOf25 rfl) <| .cons rfl (ob_loadL (j := 1) rfl rfl Tryd.isAgg25 rfl) <| .cons rfl (ob_loadLA (j := 4) rfl rfl Tryd.isAgg60 Tryd.sizeOf60 rfl) <| .cons rfl (ob_buildSlice1 rfl Tryd.underlying25 Tryd.sizeOf60 Tryd.zeroValue60 rfl rfl rfl rfl) <| .consT rfl rfl (fun _ => rfl) rfl (ob_imgT 80 rfl rfl rfl fun y80 => ob_appendX (size := 23) (bytes := 352) (l := al) (l' := [(⟨x32.name, x32.vars, turnT sx sy x32.body⟩ : Ar)]) rfl rfl (fun _ => by first | exact .inl rfl | exact .inr (.inl rfl)) Tryd.underlying25 Tryd.type60 rfl rfl rfl rfl (fun w m hK => Sl.one (R := fun m vs t => ArR m t vs) hK.2 rfl (⟨_, _, _, rfl, hva32.mono (KC.le hK), hcb.mono (KC.le hK)⟩)) rfl (by decide) (by simp only [maxLen]; omega) (by omega)) <| .cons rfl (ob_fieldAddrO (off := 6) rfl Tryd.underlying33 rfl rfl Tryd.sizeOf25 rfl) <| .consT rfl rfl (fun _ => rfl) rfl (ob_imgT 81 rfl rfl rfl fun y81 => ob_storeV rfl rfl rfl rfl rfl Tryd.sizeOf25 rfl rfl rfl) <| .nil) ?_
          intro a15 w15 m15 hst15 hle15 hk15
          have hfr15 := hk15.fr (T' := [(10, _), (8, _), (1, _), (2, _), (3, _), (6, _), (7, _)]) (.old rfl rfl <| .old rfl rfl <| .old rfl rfl <| .old rfl rfl <| .old rfl rfl <| .old rfl rfl <| .old rfl rfl <| .nil)
          obtain ⟨⟨A_37o, A_37p⟩, e38, hsl_A_37⟩ := hk15.ex 81 rfl
          replace hst15 := hst15.fin (L' := [_, _, _, _, _]) (.cons e38 <| .cons e38 <| .nil)
          try simp only [List.take_succ_cons, List.take_zero, List.drop_succ_cons, List.drop_zero, List.cons_append, List.nil_append, List.append_nil, List.length_cons, List.length_nil, Nat.zero_add, Nat.reduceAdd] at hst15
          have hlh15 := hlh14.trans hle15
          clear hst14 hfr14 hk15
          replace hsl_A_37 : Ars m15 A_37o (al ++ [(⟨x32.name, x32.vars, turnT sx sy x32.body⟩ : Ar)]).length A_37p (al ++ [(⟨x32.name, x32.vars, turnT sx sy x32.body⟩ : Ar)]) := hsl_A_37
          refine hK30 _ _ ?_; clear hK30
          refine rp0 hst15 hfr15 (.cons rfl (ob_move rfl) <| .cons rfl (ob_add rfl rfl ⟨by omega, by omega⟩) <| .cons rfl (ob_assign rfl) <| .nil) ?_
          intro a16 w16 m16 hst16 hle16 hk16
          have hfr16 := hk16.fr (T' := [(8, _), (1, _), (2, _), (3, _), (6, _), (7, _), (10, _)]) (.old rfl rfl <| .old rfl rfl <| .old rfl rfl <| .old rfl rfl <| .old rfl rfl <| .old rfl rfl <| .new rfl <| .nil)
          replace hsl_A_37 := hsl_A_37.mono hle16
          have hlh16 := hlh15.trans hle16
          clear hst15 hfr15 hk16
          have hst16 := hst16.take 4
          exact ⟨(y + 1, A_37o, A_37p, (al ++ [(⟨x32.name, x32.vars, turnT sx sy x32.body⟩ : Ar)])), m16, by show t.arms.length - (y + 1) < t.arms.length - y; omega, ⟨hst16, hlh16, hfr16.sub (.cons rfl <| .cons rfl <| .cons rfl <| .cons rfl <| .cons rfl <| .cons rfl <| .cons rfl <| .nil), ⟨by show y + 1 ≤ t.arms.length; omega, hsl_A_37, ⟨by rw [hlen_al.1]; show _ = (al ++ [(⟨x32.name, x32.vars, turnT sx sy x32.body⟩ : Ar)]) ++ turnAs sx sy (t.arms.drop (y + 1)); simp, by show (al ++ [(⟨x32.name, x32.vars, turnT sx sy x32.body⟩ : Ar)]).length ≤ y + 1; simp; omega⟩, by show countAs (t.arms.drop (y + 1)) ≤ countAs t.arms; omega⟩⟩⟩
        · try simp only [nq1, nq2, nq3, nq4, nq5, nq6, nq7, nq8, nq9, u8_eq] at hb70
          rw [if_pos (by simpa using hb70)] at hlen_al
          refine wp_skip ?_
          refine hK34 _ _ ?_; clear hK34
          refine ra0 (tch := [(4, 3, (fun v => .rowx (nz v) _ _ _ _)), (6, 1, (fun u => .blk _ (.cells (_ ++ [u] ++ _).toArray _)))]) hst13 hfr13 (.cons rfl (ob_fieldAddrO (off := 6) rfl Tryd.underlying33 rfl rfl Tryd.sizeOf25 rfl) <| .cons rfl (ob_loadL (j := 1) rfl rfl Tryd.isAgg25 rfl) <| .cons rfl (ob_loadLA (j := 4) rfl rfl Tryd.isAgg60 Tryd.sizeOf60 rfl) <| .cons rfl (ob_buildSlice1 rfl Tryd.underlying25 Tryd.sizeOf60 Tryd.zeroValue60 rfl rfl rfl rfl) <| .consT rfl rfl (fun _ => rfl) rfl (ob_imgT 80 rfl rfl rfl fun y80 => ob_appendX (size := 23) (bytes := 352) (l := al) (l' := [(⟨x32.name, x32.vars, x32.body⟩ : Ar)]) rfl rfl (fun _ => by first | exact .inl rfl | exact .inr (.inl rfl)) Tryd.underlying25 Tryd.type60 rfl rfl rfl rfl (fun w m hK => Sl.one (R := fun m vs t => ArR m t vs) hK.2 rfl (⟨_, _, _, rfl, hva32.mono (KC.le hK), hbd32.mono (KC.le hK)⟩)) rfl (by decide) (by simp only [maxLen]; omega) (by omega)) <| .cons rfl (ob_fieldAddrO (off := 6) rfl Tryd.underlying33 rfl rfl Tryd.sizeOf25 rfl) <| .consT rfl rfl (fun _ => rfl) rfl (ob_imgT 81 rfl rfl rfl fun y81 => ob_storeV rfl rfl rfl rfl rfl Tryd.sizeOf25 rfl rfl rfl) <| .nil) ?_
          intro a14 w14 m14 hst14 hle14 hk14
          have hfr14 := hk14.fr (T' := [(10, _), (8, _), (1, _), (2, _), (3, _), (6, _), (7, _)]) (.old rfl rfl <| .old rfl rfl <| .old rfl rfl <| .old rfl rfl <| .old rfl rfl <| .old rfl rfl <| .old rfl rfl <| .nil)
          obtain ⟨⟨A_39o, A_39p⟩, e40, hsl_A_39⟩ := hk14.ex 81 rfl
          replace hst14 := hst14.fin (L' := [_, _, _, _, _]) (.cons e40 <| .cons e40 <| .nil)
          try simp only [List.take_succ_cons, List.take_zero, List.drop_succ_cons, List.drop_zero, List.cons_append, List.nil_append, List.append_nil, List.length_cons, List.length_nil, Nat.zero_add, Nat.reduceAdd] at hst14
          have hlh14 := hlh13.trans hle14
          clear hst13 hfr13 hk14
          replace hsl_A_39 : Ars m14 A_39o (al ++ [(⟨x32.name, x32.vars, x32.body⟩ : Ar)]).length A_39p (al ++ [(⟨x32.name, x32.vars, x32.body⟩ : Ar)]) := hsl_A_39
          refine hK30 _ _ ?_; clear hK30
          refine rp0 hst14 hfr14 (.cons rfl (ob_move rfl) <| .cons rfl (ob_add rfl rfl ⟨by omega, by omega⟩) <| .cons rfl (ob_assign rfl) <| .nil) ?_
          intro a15 w15 m15 hst15 hle15 hk15
          have hfr15 := hk15.fr (T' := [(8, _), (1, _), (2, _), (3, _), (6, _), (7, _), (10, _)]) (.old rfl rfl <| .old rfl rfl <| .old rfl rfl <| .old rfl rfl <| .old rfl rfl <| .old rfl rfl <| .new rfl <| .nil)
          replace hsl_A_39 := hsl_A_39.mono hle15
          have hlh15 := hlh14.trans hle15
          clear hst14 hfr14 hk15
          have hst15 := hst15.take 4
          exact ⟨(y + 1, A_39o, A_39p, (al ++ [(⟨x32.name, x32.vars, x32.body⟩ : Ar)])), m15, by show t.arms.length - (y + 1) < t.arms.length - y; omega, ⟨hst15, hlh15, hfr15.sub (.cons rfl <| .cons rfl <| .cons rfl <| .cons rfl <| .cons rfl <| .cons rfl <| .cons rfl <| .nil), ⟨by show y + 1 ≤ t.arms.length; omega, hsl_A_39, ⟨by rw [hlen_al.1]; show _ = (al ++ [(⟨x32.name, x32.vars, x32.body⟩ : Ar)]) ++ turnAs sx sy (t.arms.drop (y + 1)); simp, by show (al ++ [(⟨x32.name, x32.vars, x32.body⟩ : Ar)]).length ≤ y + 1; simp; omega⟩, by show countAs (t.arms.drop (y + 1)) ≤ countAs t.arms; omega⟩⟩⟩
      · try simp only [nq1, nq2, nq3, nq4, nq5, nq6, nq7, nq8, nq9, u8_eq] at hb58
        have hge : y = t.arms.length := by omega
        rw [List.drop_of_length_le (by omega), turnAs, List.append_nil] at hlen_al
        have haL9 := hlen_al.1
        refine wp_exit ?_
        refine hK25 _ _ ?_; clear hK25
        refine seq_any fun _ hK41 => ?_
        have hout : TmR m11 ⟨t.kind, t.at_, (turnS sx sy t), t.param, t.n, kl, al, t.row⟩ (tmV ⟨t.kind, t.at_, (turnS sx sy t), t.param, t.n, kl, al, t.row⟩ (⟨klo, klp, alo, alp, oR_t, cR_t, t0_t, t1_t, t2_t, t3_t, t4_t, t5_t, u0_t, u1_t, u2_t, u3_t, u4_t, u5_t⟩ : TmY)) := TmR.build hon_t hsl_kl hsl_al hrr_t
        refine ra0 (tch := [(1, 0, (fun _ => .blk _ _))]) hst11 hfr11 (.cons rfl (ob_loadLA (j := 1) rfl rfl Tryd.isAgg33 Tryd.sizeOf33 rfl) <| .consT rfl rfl (fun _ => rfl) rfl (ob_store' rfl rfl rfl Tryd.sizeOf33 rfl rfl hout.one) <| .nil) ?_
        intro a12 w12 m12 hst12 hle12 hk12
        have hfr12 := hk12.fr (T' := [(10, _), (8, _), (6, _)]) (.old rfl rfl <| .old rfl rfl <| .old rfl rfl <| .nil)
        replace hst12 := hst12.fin (L' := [_, _, _, _]) (.cons rfl <| .nil)
        try simp only [List.take_succ_cons, List.take_zero, List.drop_succ_cons, List.drop_zero, List.cons_append, List.nil_append, List.append_nil, List.length_cons, List.length_nil, Nat.zero_add, Nat.reduceAdd] at hst12
        replace hout := hout.mono hle12
        have hlh12 := hlh11.trans hle12
        clear hst11 hfr11 hk12
        refine hK41 _ _ ?_; clear hK41
        refine wp_ret ?_
        repeat (with_reducible first | refine then_ret ?_ | refine block_ret ?_)
        exact fn_ret hst12 hfr12 rfl (.cell rfl (load_blk (blk_heap (hst12.loc.at_ (k := 0) rfl)) Tryd.isAgg33 Tryd.sizeOf33) <| .nil) (⟨(⟨klo, klp, alo, alp, oR_t, cR_t, t0_t, t1_t, t2_t, t3_t, t4_t, t5_t, u0_t, u1_t, u2_t, u3_t, u4_t, u5_t⟩ : TmY), by rw [turnT_eq, hkL9, haL9]; rfl, by rw [turnT_eq, hkL9, haL9]; exact hout⟩)
  · have hlj8 : MLe m4 m4 := MLe.refl _
    refine seq_any fun _ hK43 => ?_
    refine rp0 hst4 hfr4 (.cons rfl (ob_fieldAddrO (off := 0) rfl Tryd.underlying33 rfl rfl Tryd.sizeOf3 rfl) <| .cons rfl (ob_load1 rfl hc3 Tryd.isAgg3 rfl) <| .cons rfl (ob_eql rfl rfl) <| .cons rfl (ob_move rfl) <| .cons rfl (ob_fieldAddrO (off := 2) rfl Tryd.underlying33 rfl rfl Tryd.sizeOf9 rfl) <| .cons rfl (ob_load1 rfl hc3 Tryd.isAgg9 rfl) <| .cons rfl (ob_move rfl) <| .cons rfl (ob_seql rfl rfl) <| .cons rfl (ob_and rfl rfl rfl) <| .nil) ?_
    intro a5 w5 m5 hst5 hle5 hk5
    have hfr5 := hk5.fr (T' := [(1, _), (2, _), (3, _), (6, _), (7, _), (23, _)]) (.old rfl rfl <| .old rfl rfl <| .old rfl rfl <| .old rfl rfl <| .old rfl rfl <| .new rfl <| .nil)
    replace hlj8 := hlj8.trans hle5
    clear hst4 hfr4 hk5
    refine hK43 _ _ ?_; clear hK43
    refine cond_any hfr5 rfl rfl (fun hb23 => ?_) (fun hb23 => ?_)
    · try simp only [nq1, nq2, nq3, nq4, nq5, nq6, nq7, nq8, nq9, u8_eq] at hb23
      refine ra0 (tch := [(2, 1, (fun _ => .blk _ _))]) hst5 hfr5 (.cons rfl (ob_move rfl) <| .cons rfl (ob_fieldAddrO (off := 2) rfl Tryd.underlying33 rfl rfl Tryd.sizeOf9 rfl) <| .consT rfl rfl (fun _ => rfl) rfl (ob_store rfl rfl rfl Tryd.sizeOf9 rfl rfl rfl) <| .nil) ?_
      intro a6 w6 m6 hst6 hle6 hk6
      have hfr6 := hk6.fr (T' := [(1, _), (2, _), (3, _), (6, _), (7, _)]) (.old rfl rfl <| .old rfl rfl <| .old rfl rfl <| .old rfl rfl <| .old rfl rfl <| .nil)
      replace hst6 := hst6.fin (L' := [_, _, _, _]) (.cons rfl <| .nil)
      try simp only [List.take_succ_cons, List.take_zero, List.drop_succ_cons, List.drop_zero, List.cons_append, List.nil_append, List.append_nil, List.length_cons, List.length_nil, Nat.zero_add, Nat.reduceAdd] at hst6
      replace hlj8 := hlj8.trans hle6
      clear hst5 hfr5 hk6
      repeat (with_reducible first | refine then_exit ?_ | refine block_exit ?_ | refine block_normal ?_)
      exact hj8 (sy) _ _ _ ⟨hst6, hlj8, hfr6.sub (.cons rfl <| .cons rfl <| .cons rfl <| .cons rfl <| .cons rfl <| .nil), by unfold turnS; first | rw [if_pos (by simpa using hb23)] | rw [if_neg (by rintro ⟨h1, h2⟩; rcases hb23 with h | h; exact h h1; exact h h2)]⟩
    · try simp only [nq1, nq2, nq3, nq4, nq5, nq6, nq7, nq8, nq9, u8_eq] at hb23
      refine wp_skip ?_
      repeat (with_reducible first | refine then_exit ?_ | refine block_exit ?_ | refine block_normal ?_)
      exact hj8 (t.name) _ _ _ ⟨hst5, hlj8, hfr5.sub (.cons rfl <| .cons rfl <| .cons rfl <| .cons rfl <| .cons rfl <| .nil), by unfold turnS; first | rw [if_pos (by simpa using hb23)] | rw [if_neg (by rintro ⟨h1, h2⟩; rcases hb23 with h | h; exact h h1; exact h h2)]⟩
theorem turned_c (t : Tm) : turned_G t := Tm.rec_ (p := turned_G) (fun t ihk iha => turned_s ihk iha) t

end Go.Proofs.YteamjgbhcjojaaaDoor
