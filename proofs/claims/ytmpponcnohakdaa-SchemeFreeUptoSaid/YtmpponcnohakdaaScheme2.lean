/-
  Package scheme: whether a type is one of a scheme's. Conditions: those of each theorem.
-/
import Derived.Test.YtmpponcnohakdaaScheme1
import Derived.Test.YtmpponcnohakdaaRange
namespace Go.Proofs.Ytmpponcnohakdaa
set_option linter.all false
set_option maxRecDepth 4000
open Go.RowKit
/-- Labels taken away, one by one. -/
def lessAll : List Str → List Str → Option (List Str)
  | [], l => some l
  | s :: r, l => if s ∈ l then lessAll r (l.erase s) else none
/-- What the matcher finds of a row; of a type. -/
def matR (rs : List Int) (a b : Rw) (u : Sub) : Sub × Bool :=
  if a.var = 0 ∨ ¬ a.var ∈ rs then (u, decide (a.var = b.var) && decide (a.labels = b.labels))
  else match lessAll a.labels b.labels with
    | none => (u, false)
    | some l => match alook a.var u.rs with
      | none => (⟨u.ts, aset a.var ⟨l, b.var⟩ u.rs⟩, true)
      | some r => (u, decide (r.var = b.var) && decide (r.labels = l))
mutual
def matT (ts rs : List Int) : Ty → Ty → Sub → Sub × Bool
  | ⟨k, nm, v, ks, ls, rv⟩, b, u =>
    if k = 7 ∧ v ∈ ts then (match alook v u.ts with | none => (⟨aset v b u.ts, u.rs⟩, true) | some t => (u, sameT t b))
    else if k = b.kind ∧ nm = b.name ∧ v = b.var ∧ ks.length = b.args.length then
      (if (matTs ts rs ks b.args u).2 = true then (if k = 5 then matR rs ⟨sortS ls, rv⟩ ⟨b.labels, b.rv⟩ (matTs ts rs ks b.args u).1 else ((matTs ts rs ks b.args u).1, true)) else ((matTs ts rs ks b.args u).1, false))
    else (u, false)
def matTs (ts rs : List Int) : List Ty → List Ty → Sub → Sub × Bool
  | [], _, u => (u, true)
  | _ :: _, [], u => (u, false)
  | x :: xs, y :: ys, u => if (matT ts rs x y u).2 = true then matTs ts rs xs ys (matT ts rs x y u).1 else ((matT ts rs x y u).1, false)
end
theorem matT_eq (ts rs : List Int) (a b : Ty) (u : Sub) : matT ts rs a b u =
    if a.kind = 7 ∧ a.var ∈ ts then (match alook a.var u.ts with | none => (⟨aset a.var b u.ts, u.rs⟩, true) | some t => (u, sameT t b))
    else if a.kind = b.kind ∧ a.name = b.name ∧ a.var = b.var ∧ a.args.length = b.args.length then
      (if (matTs ts rs a.args b.args u).2 = true then (if a.kind = 5 then matR rs ⟨sortS a.labels, a.rv⟩ ⟨b.labels, b.rv⟩ (matTs ts rs a.args b.args u).1 else ((matTs ts rs a.args b.args u).1, true)) else ((matTs ts rs a.args b.args u).1, false))
    else (u, false) := by obtain ⟨k, nm, v, ks, ls, rv⟩ := a; rw [matT]; rfl
theorem erase_len (s : Str) (l : List Str) : (l.erase s).length ≤ l.length := List.length_erase_le
theorem lessAll_len : ∀ (a l k : List Str), lessAll a l = some k → k.length ≤ l.length
  | [], l, k, h => by simp only [lessAll, Option.some.injEq] at h; subst h; exact Nat.le_refl _
  | s :: a, l, k, h => by
    rw [lessAll] at h
    split at h
    · exact Nat.le_trans (lessAll_len a _ k h) (erase_len s l)
    · cases h
theorem matR_w {B : Nat} {rs : List Int} {a b : Rw} {u : Sub} (hu : SubW B u) (hb : b.labels.length ≤ B) : SubW B (matR rs a b u).1 := by
  unfold matR
  split
  · exact hu
  · split
    · exact hu
    · rename_i l hl
      split
      · exact hu.setR _ (Nat.le_trans (lessAll_len _ _ _ hl) hb)
      · exact hu
theorem matT_w {B : Nat} {ts rs : List Int} (a : Ty) : ∀ (b : Ty) (u : Sub), SubW B u → wdT b ≤ B → SubW B (matT ts rs a b u).1 := by
  induction a using Ty.rec_ with
  | h a ih =>
    intro b u hu hb
    have hwe := wdT_eq b
    have key : ∀ (l k : List Ty) (u : Sub), (∀ x ∈ l, x ∈ a.args) → (∀ x ∈ k, wdT x ≤ B) → SubW B u → SubW B (matTs ts rs l k u).1 := by
      intro l
      induction l with
      | nil => intro k u _ _ hu; rw [matTs]; exact hu
      | cons x l ihl =>
        intro k u hl hk hu
        cases k with
        | nil => rw [matTs]; exact hu
        | cons z k =>
          have h1 := ih x (hl x (.head _)) z u hu (hk z (.head _))
          rw [matTs]
          split
          · exact ihl k _ (fun v hv => hl v (.tail _ hv)) (fun v hv => hk v (.tail _ hv)) h1
          · exact h1
    have hk := key a.args b.args u (fun x h => h) (fun x h => Nat.le_trans (wdT_arg h) hb) hu
    rw [matT_eq]
    split
    · split
      · exact hu.setT _ hb
      · exact hu
    · split
      · split
        · split
          · exact matR_w hk (by show b.labels.length ≤ B; omega)
          · exact hk
        · exact hk
      · exact hu
set_option maxHeartbeats 1600000 in
theorem mrows_g {w : World} {m : Mem} {g : Nat} {s : Sch} {yy : YY × YY} {q : QQ} {u : Sub} {a : Rw} {vs_a : List Value} {b : Rw} {vs_b : List Value} (hA : Agree w m) (hr : (Res.blk (.pointer (some ⟨g, 0, none⟩)) (.cells (schV s yy ++ subV q).toArray 67)).holds w m) (hS : SchR m s (schV s yy)) (hU : SubR m u (subV q)) (h_a : RwR m a vs_a) (h_b : RwR m b vs_b) (hw : SubW 400000000 u) (hb : b.labels.length ≤ 400000000) : FnG Try.prog 47 #[.pointer (some ⟨g, 0, none⟩), .agg vs_a.toArray, .agg vs_b.toArray] [g] w m (fun w' m' v => ∃ q', Loc [g] w.heap.size [.blk (.pointer (some ⟨g, 0, none⟩)) (.cells (schV s yy ++ subV q').toArray 67)] w' m' ∧ SubR m' (matR s.rs a b u).1 (subV q') ∧ v = .bool (matR s.rs a b u).2) := by
  obtain ⟨o_a, c_a, rfl, hs_a, hr_a⟩ := h_a.open_
  have hbs_a := hs_a.big; have hcs_a := hs_a.cap
  obtain ⟨o_b, c_b, rfl, hs_b, hr_b⟩ := h_b.open_
  have hbs_b := hs_b.big; have hcs_b := hs_b.cap
  refine fn_enter (vs := [_, _, _]) Try.func47 rfl rfl rfl fun a0 hfr0 => ?_
  have hst0 := st_enter hA (loc_one hr (by simp [Res.blocks, ptrBlock]))
  have hM : MLe m m := MLe.refl m
  obtain ⟨hsts, hsrs, -⟩ := schV_open hS
  have hxw := hw.lookR a.var
  refine seq_any fun _ hK1 => ?_
  replace hst0 := hst0.more (r := .free) trivial List.nodup_nil (by simp [Res.blocks])
  refine ra0 (tch := [(1, 1, (fun v => .blk v _))]) hst0 hfr0 (.cons rfl (ob_box rfl rfl) <| .consT rfl rfl (fun _ => rfl) rfl (ob_boxL rfl rfl) <| .cons rfl (ob_assign rfl) <| .nil) ?_
  intro a1 w1 m1 hst1 hle1 hk1
  have hfr1 := hk1.fr (T' := [(0, _)]) (.old rfl rfl <| .nil)
  obtain ⟨g2, e2, hc4⟩ := hk1.ex 4 rfl
  replace hfr1 := hfr1.cons e2
  obtain ⟨gB, e3, _⟩ := hk1.ex 5 rfl
  replace hfr1 := hfr1.cons e3
  replace hst1 := hst1.fin (L' := [_, _]) (.cons e3 <| .nil)
  replace h_a := h_a.mono hle1
  replace hs_a := hs_a.mono hle1
  replace h_b := h_b.mono hle1
  replace hs_b := hs_b.mono hle1
  replace hsts := hsts.mono hle1
  replace hsrs := hsrs.mono hle1
  replace hS := hS.mono hle1
  replace hU := hU.mono hle1
  clear hst0 hfr0 hk1
  refine hK1 _ _ ?_; clear hK1
  refine seq_any fun _ hK4 => ?_
  refine seq_any fun _ hK5 => ?_
  refine region_plain (fun _ => mixed) hst1 hfr1 (by kernel_rfl) (by kernel_rfl) (.cons rfl (ob_fieldAddrO (off := 1) rfl Try.underlying25 rfl rfl Try.sizeOf3 rfl) <| .cons rfl (ob_load1 rfl hc4 Try.isAgg3 rfl) <| .cons rfl (ob_eql rfl rfl) <| .cons rfl (ob_move rfl) <| .cons rfl (ob_move rfl) <| .cons rfl (ob_nilCheck rfl) <| .cons rfl (ob_fieldAddrO (off := 0) rfl Try.underlying67 rfl rfl Try.sizeOf35 rfl) <| .cons rfl (ob_fieldAddrO (off := 1) rfl Try.underlying35 rfl rfl Try.sizeOf33 rfl) <| .cons rfl (ob_loadL (k := 1) (j := 0) rfl rfl Try.isAgg33 rfl) <| .cons rfl (ob_fieldAddrO (off := 1) rfl Try.underlying25 rfl rfl Try.sizeOf3 rfl) <| .cons rfl (ob_load1 rfl hc4 Try.isAgg3 rfl) <| .cons rfl (ob_callE rfl (.cons rfl <| .cons rfl <| .nil) Try.call40 (fun w m hK => by have hle_ := KC.le hK; have hA := KC.agree hK; have h_a := h_a.mono hle_; have hs_a := hs_a.mono hle_; have h_b := h_b.mono hle_; have hs_b := hs_b.mono hle_; have hsts := hsts.mono hle_; have hsrs := hsrs.mono hle_; have hS := hS.mono hle_; have hU := hU.mono hle_; have hc4 := hc4.mono hle_; exact containsI_c hA (by first | assumption | omega | simp_all))) <| .cons rfl (ob_not rfl) <| .cons rfl (ob_or rfl rfl rfl) <| .nil) ?_
  intro a2 w2 m2 hst2 hle2 hk2
  have hfr2 := hk2.fr (T' := [(0, _), (4, _), (5, _), (25, _)]) (.old rfl rfl <| .old rfl rfl <| .old rfl rfl <| .new rfl <| .nil)
  replace h_a := h_a.mono hle2
  replace hs_a := hs_a.mono hle2
  replace h_b := h_b.mono hle2
  replace hs_b := hs_b.mono hle2
  replace hU := hU.mono hle2
  replace hc4 := hc4.mono hle2
  clear hst1 hfr1 hk2
  refine hK5 _ _ ?_; clear hK5
  refine cond_any hfr2 rfl rfl (fun hb25 => ?_) (fun hb25 => ?_)
  · try simp only [nq1, nq2, nq3, nq4, nq5, nq6, nq7, nq8, nq9, u8_eq] at hb25
    have hc1 : a.var = 0 ∨ ¬ a.var ∈ s.rs := by simpa using hb25
    have hmr : matR s.rs a b u = (u, decide (a.var = b.var) && decide (a.labels = b.labels)) := by unfold matR; rw [if_pos hc1]
    refine seq_any fun _ hK6 => ?_
    refine rp0 hst2 hfr2 (.cons rfl (ob_loadS' rfl hc4 Try.isAgg25 Try.sizeOf25 rfl rfl) <| .cons rfl (ob_loadLA (j := 1) rfl rfl Try.isAgg25 Try.sizeOf25 rfl) <| .cons rfl (ob_callE rfl (.cons rfl <| .cons rfl <| .nil) Try.call55 (fun w m hK => by have hle_ := KC.le hK; have hA := KC.agree hK; have h_a := h_a.mono hle_; have h_b := h_b.mono hle_; exact samerow_c (a := a) (b := b) hA h_a h_b)) <| .cons rfl (ob_assign rfl) <| .nil) ?_
    intro a3 w3 m3 hst3 hle3 hk3
    have hfr3 := hk3.fr (T' := [(6, _)]) (.new rfl <| .nil)
    replace hU := hU.mono hle3
    clear hst2 hfr2 hk3
    refine hK6 _ _ ?_; clear hK6
    refine wp_ret ?_
    repeat (with_reducible first | refine then_ret ?_ | refine block_ret ?_)
    exact fn_ret hst3 hfr3 rfl (.tmp rfl <| .nil) (⟨q, (hst3.take 1).loc, by rw [hmr]; exact hU, by rw [hmr]; rfl⟩)
  · try simp only [nq1, nq2, nq3, nq4, nq5, nq6, nq7, nq8, nq9, u8_eq] at hb25
    have hc1 : ¬ (a.var = 0 ∨ ¬ a.var ∈ s.rs) := by simpa using hb25
    refine wp_skip ?_
    refine hK4 _ _ ?_; clear hK4
    refine seq_any fun _ hK8 => ?_
    refine seq_any fun _ hK9 => ?_
    refine rp0 hst2 hfr2 (.cons rfl (ob_fieldAddrO (off := 0) rfl Try.underlying25 rfl rfl Try.sizeOf23 rfl) <| .cons rfl (ob_load1 rfl hc4 Try.isAgg23 rfl) <| .cons rfl (ob_len rfl Try.underlying23) <| .cons rfl (ob_move rfl) <| .nil) ?_
    intro a3 w3 m3 hst3 hle3 hk3
    have hfr3 := hk3.fr (T' := [(0, _), (4, _), (5, _), (30, _), (31, _), (32, _)]) (.old rfl rfl <| .old rfl rfl <| .old rfl rfl <| .new rfl <| .new rfl <| .new rfl <| .nil)
    replace hs_a := hs_a.mono hle3
    replace hs_b := hs_b.mono hle3
    replace hU := hU.mono hle3
    replace hc4 := hc4.mono hle3
    clear hst2 hfr2 hk3
    refine hK9 _ _ ?_; clear hK9
    refine wp_block ?_
    refine loop_any (T := [(0, _), (4, _), (5, _), (30, _), (31, _)]) (fun (y : Nat × List Str × (Option Addr × Nat)) => ([(32, .int .i64 (y.1 : Int))] : List (Nat × Value))) (fun y => [_, .blk (.pointer (some ⟨gB, 0, none⟩)) (.cells (rwV ⟨y.2.1, b.var⟩ y.2.2).toArray 25)]) (fun (y : Nat × List Str × (Option Addr × Nat)) m => (fun (y : Nat) (bl : List Str) (qb : (Option Addr × Nat)) => (y ≤ a.labels.length) ∧ (Strs m qb.1 bl.length qb.2 bl) ∧ (lessAll a.labels b.labels = lessAll (a.labels.drop y) bl) ∧ (bl.length ≤ 400000000)) y.1 y.2.1 y.2.2) (fun y => a.labels.length - y.1) ((0, b.labels, (o_b, c_b))) ⟨hst3, MLe.refl _, hfr3.sub (.cons rfl <| .cons rfl <| .cons rfl <| .cons rfl <| .cons rfl <| .cons rfl <| .nil), ⟨Nat.zero_le _, hs_b, rfl, hb⟩⟩ fun y a4 w4 m4 hh4 => ?_
    have hst4 := hh4.st; have hle4 := hh4.le; have hfr4 := hh4.fr; have hrel := hh4.rel; clear hh4
    replace hs_a := hs_a.mono hle4
    replace hU := hU.mono hle4
    replace hc4 := hc4.mono hle4
    clear hst3 hfr3
    obtain ⟨y, bl, qb⟩ := y
    dsimp only at hrel hfr4 hst4
    obtain ⟨hyn, hJb, hJl, hJw⟩ := hrel
    have hlh4 := hle4
    refine seq_any fun _ hK11 => ?_
    refine rp0 hst4 hfr4 (.cons rfl (ob_lss rfl rfl) <| .nil) ?_
    intro a5 w5 m5 hst5 hle5 hk5
    have hfr5 := hk5.fr (T' := [(32, _), (0, _), (4, _), (5, _), (30, _), (31, _), (33, _)]) (.old rfl rfl <| .old rfl rfl <| .old rfl rfl <| .old rfl rfl <| .old rfl rfl <| .old rfl rfl <| .new rfl <| .nil)
    replace hs_a := hs_a.mono hle5
    replace hU := hU.mono hle5
    replace hc4 := hc4.mono hle5
    replace hJb := hJb.mono hle5
    have hlh5 := hlh4.trans hle5
    clear hst4 hfr4 hk5
    refine hK11 _ _ ?_; clear hK11
    refine seq_any fun _ hK12 => ?_
    refine cond_any hfr5 rfl rfl (fun hb33 => ?_) (fun hb33 => ?_)
    · try simp only [nq1, nq2, nq3, nq4, nq5, nq6, nq7, nq8, nq9, u8_eq] at hb33
      refine wp_skip ?_
      refine hK12 _ _ ?_; clear hK12
      refine seq_any fun _ hK13 => ?_
      refine wp_block ?_
      refine seq_any fun _ hK14 => ?_
      obtain ⟨p15, vs15, x15, ho15, hd15, hm_x15, ht15, hcv15, hl15, hv15⟩ := hs_a.nth (k := y) (by omega)
      cases ho15
      subst hv15
      refine rp0 hst5 hfr5 (.cons rfl (ob_indexAddr (k := y) rfl rfl Try.underlying23 Try.sizeOf9 rfl (by omega)) <| .cons rfl (ob_load1' rfl hcv15 Try.isAgg9 rfl) <| .cons rfl (ob_assign rfl) <| .nil) ?_
      intro a6 w6 m6 hst6 hle6 hk6
      have hfr6 := hk6.fr (T' := [(32, _), (0, _), (4, _), (5, _), (30, _), (31, _), (8, _)]) (.old rfl rfl <| .old rfl rfl <| .old rfl rfl <| .old rfl rfl <| .old rfl rfl <| .old rfl rfl <| .new rfl <| .nil)
      replace hU := hU.mono hle6
      replace hJb := hJb.mono hle6
      have hlh6 := hlh5.trans hle6
      clear hst5 hfr5 hk6
      refine hK14 _ _ ?_; clear hK14
      refine seq_any fun _ hK16 => ?_
      refine rp0 hst6 hfr6 (.cons rfl (ob_assign rfl) <| .nil) ?_
      intro a7 w7 m7 hst7 hle7 hk7
      have hfr7 := hk7.fr (T' := [(32, _), (0, _), (4, _), (5, _), (30, _), (31, _), (8, _)]) (.old rfl rfl <| .old rfl rfl <| .old rfl rfl <| .old rfl rfl <| .old rfl rfl <| .old rfl rfl <| .old rfl rfl <| .nil)
      replace hU := hU.mono hle7
      replace hJb := hJb.mono hle7
      have hlh7 := hlh6.trans hle7
      clear hst6 hfr6 hk7
      refine hK16 _ _ ?_; clear hK16
      refine seq_any fun _ hK17 => ?_
      refine region_cut 6 (by kernel_rfl) ?_
      refine ops_seq (tch := []) hst7 hfr7 (by kernel_rfl) (by kernel_rfl) (by kernel_rfl) (.cons rfl (ob_loadLA (j := 1) rfl rfl Try.isAgg25 Try.sizeOf25 rfl) <| .cons rfl (ob_move rfl) <| .cons rfl (ob_call (φ := MP.rwb ⟨bl.erase x15, b.var⟩ (decide (x15 ∈ bl))) rfl (.cons rfl <| .cons rfl <| .nil) Try.call56 (fun w m hK => by have hle_ := KC.le hK; have hA := KC.agree hK; have hJb := hJb.mono hle_; exact FnG.mono (less_c (r := ⟨bl, b.var⟩) (s := x15) hA ⟨_, _, rfl, hJb, hr_b⟩ (by show bl.length ≤ _; omega)) fun _ _ _ _ h => h)) <| .cons rfl (ob_imgV 39 rfl rfl rfl fun y39 => ob_move rfl) <| .cons rfl (ob_imgV 36 rfl rfl rfl fun y36 => ob_extract rfl rfl) <| .cons rfl (ob_imgV 36 rfl rfl rfl fun y36 => ob_extract rfl rfl) <| .nil) ?_
      intro a8 w8 m8 hst8 hle8 hk8
      have hfr8 := hk8.fr (T' := [(32, _), (0, _), (4, _), (5, _), (30, _), (31, _), (8, _)]) (.old rfl rfl <| .old rfl rfl <| .old rfl rfl <| .old rfl rfl <| .old rfl rfl <| .old rfl rfl <| .old rfl rfl <| .nil)
      obtain ⟨⟨oE, cE⟩, e18, hE⟩ := hk8.ex 40 rfl
      replace hfr8 := hfr8.cons e18
      obtain ⟨⟨oG, cG⟩, e19, _⟩ := hk8.ex 41 rfl
      replace hfr8 := hfr8.cons e19
      replace hU := hU.mono hle8
      have hlh8 := hlh7.trans hle8
      clear hst7 hfr7 hk8
      have hJe := (rwV_open hE).1
      refine ops_seq (tch := [(0, 1, (fun _ => .blk _ _))]) hst8 hfr8 (by kernel_rfl) (by kernel_rfl) (by kernel_rfl) (.consT rfl rfl (fun _ => rfl) rfl (ob_store' rfl rfl rfl Try.sizeOf25 rfl rfl rfl) <| .cons rfl (ob_assign rfl) <| .nil) ?_
      intro a9 w9 m9 hst9 hle9 hk9
      have hfr9 := hk9.fr (T' := [(32, _), (0, _), (4, _), (5, _), (30, _), (31, _), (8, _), (40, _), (41, _), (9, _)]) (.old rfl rfl <| .old rfl rfl <| .old rfl rfl <| .old rfl rfl <| .old rfl rfl <| .old rfl rfl <| .old rfl rfl <| .old rfl rfl <| .old rfl rfl <| .new rfl <| .nil)
      replace hst9 := hst9.fin (L' := [_, _]) (.cons rfl <| .nil)
      try simp only [List.take_succ_cons, List.take_zero, List.drop_succ_cons, List.drop_zero, List.cons_append, List.nil_append, List.append_nil, List.length_cons, List.length_nil, Nat.zero_add, Nat.reduceAdd] at hst9
      replace hU := hU.mono hle9
      replace hJe := hJe.mono hle9
      have hlh9 := hlh8.trans hle9
      clear hst8 hfr8 hk9
      refine hK17 _ _ ?_; clear hK17
      refine seq_any fun _ hK20 => ?_
      refine rp0 hst9 hfr9 (.cons rfl (ob_move rfl) <| .cons rfl (ob_not rfl) <| .nil) ?_
      intro a10 w10 m10 hst10 hle10 hk10
      have hfr10 := hk10.fr (T' := [(32, _), (0, _), (4, _), (5, _), (30, _), (31, _), (43, _)]) (.old rfl rfl <| .old rfl rfl <| .old rfl rfl <| .old rfl rfl <| .old rfl rfl <| .old rfl rfl <| .new rfl <| .nil)
      replace hU := hU.mono hle10
      replace hJe := hJe.mono hle10
      have hlh10 := hlh9.trans hle10
      clear hst9 hfr9 hk10
      refine hK20 _ _ ?_; clear hK20
      refine cond_any hfr10 rfl rfl (fun hb43 => ?_) (fun hb43 => ?_)
      · try simp only [nq1, nq2, nq3, nq4, nq5, nq6, nq7, nq8, nq9, u8_eq] at hb43
        have hin : ¬ x15 ∈ bl := by simpa using hb43
        have hmr : matR s.rs a b u = (u, false) := by unfold matR; rw [if_neg hc1, hJl, hd15, lessAll, if_neg hin]
        refine seq_any fun _ hK21 => ?_
        refine rp0 hst10 hfr10 (.cons rfl (ob_assign rfl) <| .nil) ?_
        intro a11 w11 m11 hst11 hle11 hk11
        have hfr11 := hk11.fr (T' := [(32, _), (6, _)]) (.old rfl rfl <| .new rfl <| .nil)
        replace hU := hU.mono hle11
        have hlh11 := hlh10.trans hle11
        clear hst10 hfr10 hk11
        refine hK21 _ _ ?_; clear hK21
        refine wp_ret ?_
        repeat (with_reducible first | refine then_ret ?_ | refine block_ret ?_)
        exact fn_ret hst11 hfr11 rfl (.tmp rfl <| .nil) (⟨q, (hst11.take 1).loc, by rw [hmr]; exact hU, by rw [hmr]; rfl⟩)
      · try simp only [nq1, nq2, nq3, nq4, nq5, nq6, nq7, nq8, nq9, u8_eq] at hb43
        have hin : x15 ∈ bl := by simpa using hb43
        refine wp_skip ?_
        refine hK13 _ _ ?_; clear hK13
        refine rp0 hst10 hfr10 (.cons rfl (ob_add rfl rfl ⟨by omega, by omega⟩) <| .cons rfl (ob_move rfl) <| .nil) ?_
        intro a11 w11 m11 hst11 hle11 hk11
        have hfr11 := hk11.fr (T' := [(0, _), (4, _), (5, _), (30, _), (31, _), (32, _)]) (.old rfl rfl <| .old rfl rfl <| .old rfl rfl <| .old rfl rfl <| .old rfl rfl <| .new rfl <| .nil)
        replace hJe := hJe.mono hle11
        have hlh11 := hlh10.trans hle11
        clear hst10 hfr10 hk11
        exact ⟨(y + 1, (bl.erase x15), (oE, cE)), m11, by show a.labels.length - (y + 1) < a.labels.length - y; omega, ⟨hst11, hlh11, hfr11.sub (.cons rfl <| .cons rfl <| .cons rfl <| .cons rfl <| .cons rfl <| .cons rfl <| .nil), ⟨by show y + 1 ≤ a.labels.length; omega, hJe, by rw [hJl, hd15, lessAll, if_pos hin], Nat.le_trans (erase_len _ _) hJw⟩⟩⟩
    · try simp only [nq1, nq2, nq3, nq4, nq5, nq6, nq7, nq8, nq9, u8_eq] at hb33
      have hge : y = a.labels.length := by omega
      rw [List.drop_of_length_le (by omega), lessAll] at hJl
      refine wp_exit ?_
      refine hK8 _ _ ?_; clear hK8
      refine seq_any fun _ hK23 => ?_
      replace hst5 := hst5.more (r := .free) trivial List.nodup_nil (by simp [Res.blocks])
      refine region_any (tch := [(10, 2, (fun v => .blk v _)), (11, 2, (fun v => .blkx v _ _))]) (fun _ => mixed) hst5 hfr5 (by kernel_rfl) (by kernel_rfl) (by kernel_rfl) (.cons rfl (ob_move rfl) <| .cons rfl (ob_nilCheck rfl) <| .cons rfl (ob_fieldAddrO (off := 8) rfl Try.underlying67 rfl rfl Try.sizeOf43 rfl) <| .cons rfl (ob_loadLS (j := 0) rfl rfl Try.isAgg43 Try.sizeOf43 rfl rfl) <| .cons rfl (ob_fieldAddrO (off := 1) rfl Try.underlying25 rfl rfl Try.sizeOf3 rfl) <| .cons rfl (ob_load1 rfl hc4 Try.isAgg3 rfl) <| .cons rfl (ob_call (φ := MP.rwb ((alook a.var u.rs).getD zeroRw) (alook a.var u.rs).isSome) rfl (.cons rfl <| .cons rfl <| .nil) Try.call57 (fun w m hK => by have hle_ := KC.le hK; have hA := KC.agree hK; have hU := hU.mono hle_; exact FnG.mono (row_c (s := u) (n := a.var) hA hU (fun r hr9 => Nat.le_trans (hw.2 _ _ hr9) (by omega))) fun _ _ _ _ h => h)) <| .cons rfl (ob_imgV 52 rfl rfl rfl fun y52 => ob_move rfl) <| .cons rfl (ob_imgV 45 rfl rfl rfl fun y45 => ob_extract rfl rfl) <| .cons rfl (ob_imgV 45 rfl rfl rfl fun y45 => ob_extract rfl rfl) <| .consT rfl rfl (fun _ => rfl) rfl (ob_allocL Try.zeroValue25 rfl) <| .consT rfl rfl (fun _ => rfl) rfl (ob_imgT 10 rfl rfl rfl fun y10 => ob_imgTX 53 rfl rfl rfl fun y53 => ob_storeF rfl rfl rfl rfl rfl Try.sizeOf25 rfl rfl rfl) <| .consA 54 rfl rfl <| .nil) ?_
      intro a6 w6 m6 hst6 hle6 hk6
      have hfr6 := hk6.fr (T' := [(32, _), (0, _), (4, _), (5, _)]) (.old rfl rfl <| .old rfl rfl <| .old rfl rfl <| .old rfl rfl <| .nil)
      obtain ⟨y24, e24, hy24⟩ := hk6.ex 54 rfl
      obtain ⟨g25, e25, _⟩ := hk6.ex 10 rfl
      replace hfr6 := hfr6.cons e25
      replace hfr6 := hfr6.cons (hk6.same 11 rfl e24)
      replace hst6 := hst6.fin (L' := [_, _, _]) (.cons e25 <| .cons e25 <| .nil)
      try simp only [List.take_succ_cons, List.take_zero, List.drop_succ_cons, List.drop_zero, List.cons_append, List.nil_append, List.append_nil, List.length_cons, List.length_nil, Nat.zero_add, Nat.reduceAdd] at hst6
      obtain ⟨⟨oF, cF⟩, hF, hst6⟩ := hst6.unx (k := 2) rfl (fun _ => rfl)
      replace hU := hU.mono hle6
      replace hc4 := hc4.mono hle6
      replace hJb := hJb.mono hle6
      have hlh6 := hlh5.trans hle6
      clear hst5 hfr5 hk6
      refine hK23 _ _ ?_; clear hK23
      refine seq_any fun _ hK27 => ?_
      refine seq_any fun _ hK28 => ?_
      refine rp0 hst6 hfr6 (.cons rfl (ob_move rfl) <| .cons rfl (ob_not rfl) <| .nil) ?_
      intro a7 w7 m7 hst7 hle7 hk7
      have hfr7 := hk7.fr (T' := [(32, _), (0, _), (4, _), (5, _), (10, _), (11, _), (56, _)]) (.old rfl rfl <| .old rfl rfl <| .old rfl rfl <| .old rfl rfl <| .old rfl rfl <| .old rfl rfl <| .new rfl <| .nil)
      replace hU := hU.mono hle7
      replace hc4 := hc4.mono hle7
      replace hJb := hJb.mono hle7
      replace hF := hF.mono hle7
      have hlh7 := hlh6.trans hle7
      clear hst6 hfr6 hk7
      refine hK28 _ _ ?_; clear hK28
      refine cond_any hfr7 rfl rfl (fun hb56 => ?_) (fun hb56 => ?_)
      · try simp only [nq1, nq2, nq3, nq4, nq5, nq6, nq7, nq8, nq9, u8_eq] at hb56
        have hmr : matR s.rs a b u = (⟨u.ts, aset a.var ⟨bl, b.var⟩ u.rs⟩, true) := by
          unfold matR; rw [if_neg hc1, hJl]
          cases hq : alook a.var u.rs with
          | none => rfl
          | some z => rw [hq] at hb56; cases hb56
        refine region_any (tch := [(11, 0, (fun _ => .blkx _ _ _))]) (fun _ => mixed) hst7 hfr7 (by kernel_rfl) (by kernel_rfl) (by kernel_rfl) (.cons rfl (ob_move rfl) <| .cons rfl (ob_move rfl) <| .cons rfl (ob_nilCheck rfl) <| .cons rfl (ob_fieldAddrO (off := 8) rfl Try.underlying67 rfl rfl Try.sizeOf43 rfl) <| .cons rfl (ob_loadLS (j := 0) rfl rfl Try.isAgg43 Try.sizeOf43 rfl rfl) <| .cons rfl (ob_fieldAddrO (off := 1) rfl Try.underlying25 rfl rfl Try.sizeOf3 rfl) <| .cons rfl (ob_load1 rfl hc4 Try.isAgg3 rfl) <| .cons rfl (ob_loadLA (j := 1) rfl rfl Try.isAgg25 Try.sizeOf25 rfl) <| .cons rfl (ob_call (φ := MP.sub ⟨u.ts, aset a.var ⟨bl, b.var⟩ u.rs⟩) rfl (.cons rfl <| .cons rfl <| .cons rfl <| .nil) Try.call14 (fun w m hK => by have hle_ := KC.le hK; have hA := KC.agree hK; have hU := hU.mono hle_; have hJb := hJb.mono hle_; exact FnG.mono (setRow_c (s := u) (n := a.var) (r := ⟨bl, b.var⟩) hA hU ⟨_, _, rfl, hJb, hr_b⟩ (by show bl.length ≤ _; omega)) fun _ _ _ _ h => h)) <| .cons rfl (ob_nilCheck rfl) <| .cons rfl (ob_fieldAddrO (off := 8) rfl Try.underlying67 rfl rfl Try.sizeOf43 rfl) <| .consT rfl rfl (fun _ => rfl) rfl (ob_imgTX 65 rfl rfl rfl fun y65 => ob_store rfl rfl rfl Try.sizeOf43 rfl rfl rfl) <| .nil) ?_
        intro a8 w8 m8 hst8 hle8 hk8
        have hfr8 := hk8.fr (T' := [(32, _), (5, _), (10, _), (11, _)]) (.old rfl rfl <| .old rfl rfl <| .old rfl rfl <| .old rfl rfl <| .nil)
        replace hst8 := hst8.fin (L' := [_, _, _]) (.cons rfl <| .nil)
        try simp only [List.take_succ_cons, List.take_zero, List.drop_succ_cons, List.drop_zero, List.cons_append, List.nil_append, List.append_nil, List.length_cons, List.length_nil, Nat.zero_add, Nat.reduceAdd] at hst8
        obtain ⟨⟨q1, q2⟩, hU2, hst8⟩ := hst8.unx (k := 0) rfl (fun _ => rfl)
        replace hJb := hJb.mono hle8
        replace hF := hF.mono hle8
        have hlh8 := hlh7.trans hle8
        clear hst7 hfr7 hk8
        refine hK27 _ _ ?_; clear hK27
        refine seq_any fun _ hK30 => ?_
        refine rp0 hst8 hfr8 (.cons rfl (ob_move rfl) <| .cons rfl (ob_not rfl) <| .cons rfl (ob_move rfl) <| .cons rfl (ob_loadLA (j := 2) rfl rfl Try.isAgg25 Try.sizeOf25 rfl) <| .cons rfl (ob_loadLA (j := 1) rfl rfl Try.isAgg25 Try.sizeOf25 rfl) <| .cons rfl (ob_callE rfl (.cons rfl <| .cons rfl <| .nil) Try.call55 (fun w m hK => by have hle_ := KC.le hK; have hA := KC.agree hK; have hJb := hJb.mono hle_; have hF := hF.mono hle_; exact samerow_c (a := (alook a.var u.rs).getD zeroRw) (b := ⟨bl, b.var⟩) hA hF ⟨_, _, rfl, hJb, hr_b⟩)) <| .cons rfl (ob_or rfl rfl rfl) <| .cons rfl (ob_assign rfl) <| .nil) ?_
        intro a9 w9 m9 hst9 hle9 hk9
        have hfr9 := hk9.fr (T' := [(32, _), (6, _)]) (.old rfl rfl <| .new rfl <| .nil)
        replace hU2 := hU2.mono hle9
        have hlh9 := hlh8.trans hle9
        clear hst8 hfr8 hk9
        refine hK30 _ _ ?_; clear hK30
        refine wp_ret ?_
        repeat (with_reducible first | refine then_ret ?_ | refine block_ret ?_)
        exact fn_ret hst9 hfr9 rfl (.tmp rfl <| .nil) (⟨(q1, q2), (hst9.take 1).loc, by rw [hmr]; exact hU2, by rw [hmr]; refine congrArg Value.bool ?_; simp [hb56]⟩)
      · try simp only [nq1, nq2, nq3, nq4, nq5, nq6, nq7, nq8, nq9, u8_eq] at hb56
        have hmr : matR s.rs a b u = (u, decide (((alook a.var u.rs).getD zeroRw).var = b.var) && decide (((alook a.var u.rs).getD zeroRw).labels = bl)) := by
          unfold matR; rw [if_neg hc1, hJl]
          cases hq : alook a.var u.rs with
          | none => rw [hq] at hb56; cases hb56
          | some z => rfl
        refine wp_skip ?_
        refine hK27 _ _ ?_; clear hK27
        refine seq_any fun _ hK32 => ?_
        refine rp0 hst7 hfr7 (.cons rfl (ob_move rfl) <| .cons rfl (ob_not rfl) <| .cons rfl (ob_move rfl) <| .cons rfl (ob_loadLA (j := 2) rfl rfl Try.isAgg25 Try.sizeOf25 rfl) <| .cons rfl (ob_loadLA (j := 1) rfl rfl Try.isAgg25 Try.sizeOf25 rfl) <| .cons rfl (ob_callE rfl (.cons rfl <| .cons rfl <| .nil) Try.call55 (fun w m hK => by have hle_ := KC.le hK; have hA := KC.agree hK; have hJb := hJb.mono hle_; have hF := hF.mono hle_; exact samerow_c (a := (alook a.var u.rs).getD zeroRw) (b := ⟨bl, b.var⟩) hA hF ⟨_, _, rfl, hJb, hr_b⟩)) <| .cons rfl (ob_or rfl rfl rfl) <| .cons rfl (ob_assign rfl) <| .nil) ?_
        intro a8 w8 m8 hst8 hle8 hk8
        have hfr8 := hk8.fr (T' := [(32, _), (6, _)]) (.old rfl rfl <| .new rfl <| .nil)
        replace hU := hU.mono hle8
        have hlh8 := hlh7.trans hle8
        clear hst7 hfr7 hk8
        refine hK32 _ _ ?_; clear hK32
        refine wp_ret ?_
        repeat (with_reducible first | refine then_ret ?_ | refine block_ret ?_)
        exact fn_ret hst8 hfr8 rfl (.tmp rfl <| .nil) (⟨q, (hst8.take 1).loc, by rw [hmr]; exact hU, by rw [hmr]; refine congrArg Value.bool ?_; simp [hb56]⟩)

end Go.Proofs.Ytmpponcnohakdaa
