/-
  'brocadelaw05': what is said is right; what says nothing. Conditions: those of each theorem.
-/
import Derived.Test.YtfphefkfbhjfdaaThen5
namespace Go.Proofs.Ytfphefkfbhjfdaa
set_option linter.all false
set_option maxRecDepth 4000
open Go.RowKit
def okS (x : Say) : Bool := if x.ofRow then rowOk x.row.labels x.row.var else decide (deepT x.ty ≤ 200) && rightT x.ty
def goodS (l : List Say) : Bool := (l.take 10).all okS
theorem goodS_step {l : List Say} {y : Nat} (h : (l.take y).all okS = true) {x : Say} (ht : l.take (y + 1) = l.take y ++ [x]) : (l.take (y + 1)).all okS = okS x := by rw [ht, List.all_append, h]; simp
theorem goodS_out {l : List Say} {y : Nat} (hy : y + 1 ≤ min l.length 10) (h : (l.take (y + 1)).all okS = false) : goodS l = false := by
  have e : l.take 10 = l.take (y + 1) ++ (l.take 10).drop (y + 1) := by
    conv => lhs; rw [← List.take_append_drop (y + 1) (l.take 10)]
    rw [List.take_take, Nat.min_eq_left (by omega)]
  unfold goodS; rw [e, List.all_append, h, Bool.false_and]
/-- The keys are apart. -/
def Apart (s : Sub) : Prop := (s.ts.map Prod.fst).Nodup ∧ (s.rs.map Prod.fst).Nodup
theorem aset_keys {α : Type} (n : Int) (x : α) : ∀ l : List (Int × α), (aset n x l).map Prod.fst = if n ∈ l.map Prod.fst then l.map Prod.fst else l.map Prod.fst ++ [n]
  | [] => by simp [aset]
  | (a, u) :: l => by
    simp only [aset]
    by_cases h : n = a
    · subst h; simp
    · rw [if_neg h, List.map_cons, aset_keys n x l]
      by_cases h2 : n ∈ l.map Prod.fst
      · rw [if_pos h2, if_pos (by simp only [List.map_cons]; exact .tail _ h2)]; rfl
      · rw [if_neg h2, if_neg (by simp only [List.map_cons, List.mem_cons, not_or]; exact ⟨h, h2⟩)]; rfl
theorem aset_apart {α : Type} {n : Int} {x : α} {l : List (Int × α)} (h : (l.map Prod.fst).Nodup) : ((aset n x l).map Prod.fst).Nodup := by
  rw [aset_keys]
  split
  · exact h
  · rename_i hn
    exact List.nodup_append.2 ⟨h, by simp, fun a ha b hb e => by rw [List.mem_singleton] at hb; subst hb; subst e; exact hn ha⟩
/-- What is said is right. -/
def SubOk (s : Sub) : Prop := (∀ n t, alook n s.ts = some t → rightT t = true) ∧ ∀ n r, alook n s.rs = some r → rowOk r.labels r.var = true
theorem cutS_ok {r : Rw} {k : Nat} (h : rowOk r.labels r.var = true) : rowOk (cutS r k).labels (cutS r k).var = true := by
  unfold rowOk at h ⊢
  simp only [Bool.and_eq_true, decide_eq_true_eq] at h ⊢
  obtain ⟨⟨h1, h2⟩, h3⟩ := h
  unfold cutS; simp only [List.drop_zero]
  refine ⟨⟨h1, isSortedS_take _ _ h2⟩, ?_⟩
  simp only [Bool.not_eq_true', List.contains_eq_mem, decide_eq_false_iff_not] at h3 ⊢
  exact fun hm => h3 (List.mem_of_mem_take hm)
theorem saidS_ok {l : List Say} (h : goodS l = true) : SubOk (saidS l) ∧ Apart (saidS l) := by
  have key : ∀ (l : List Say) (s : Sub), l.all okS = true → SubOk s ∧ Apart s → SubOk (l.foldl sayS s) ∧ Apart (l.foldl sayS s) := by
    intro l
    induction l with
    | nil => intro s _ hs; exact hs
    | cons x l ih =>
      intro s hl hs
      rw [List.all_cons, Bool.and_eq_true] at hl
      rw [List.foldl_cons]
      refine ih _ hl.2 ?_
      obtain ⟨⟨h1, h2⟩, h3, h4⟩ := hs
      have hx := hl.1
      unfold okS at hx
      unfold sayS
      by_cases ho : x.ofRow = true
      · rw [if_pos ho] at hx ⊢
        refine ⟨⟨h1, fun n r hr => ?_⟩, h3, aset_apart h4⟩
        dsimp only at hr; rw [alook_aset] at hr
        split at hr
        · injection hr with hr; subst hr; exact cutS_ok hx
        · exact h2 n r hr
      · rw [if_neg ho] at hx ⊢
        split
        · refine ⟨⟨fun n t ht => ?_, h2⟩, aset_apart h3, h4⟩
          dsimp only at ht; rw [alook_aset] at ht
          split at ht
          · injection ht with ht; subst ht; exact (by rw [Bool.and_eq_true] at hx; exact hx.2)
          · exact h1 n t ht
        · exact ⟨⟨h1, h2⟩, h3, h4⟩
  exact key _ _ h ⟨⟨fun n t h => (by cases h), fun n t h => (by cases h)⟩, List.nodup_nil, List.nodup_nil⟩
/-- Two that say the same of all. -/
def SameL (a b : Sub) : Prop := (∀ k, alook k a.ts = alook k b.ts) ∧ ∀ k, alook k a.rs = alook k b.rs
theorem applyR_same {a b : Sub} (h : SameL a b) (r : Rw) : applyR a r = applyR b r := by unfold applyR; rw [h.2]
theorem applyT_same {a b : Sub} (h : SameL a b) (t : Ty) : applyT a t = applyT b t := by
  induction t using Ty.rec_ with
  | h t ih =>
    by_cases h7 : t.kind = 7
    · rw [applyT_var h7, applyT_var h7, h.1]
    · rw [applyT_not h7, applyT_not h7, applyR_same h]
      have key : ∀ l : List Ty, (∀ u ∈ l, u ∈ t.args) → applyTs a l = applyTs b l := by
        intro l
        induction l with
        | nil => intro _; rfl
        | cons x l ihl => intro hl; rw [applyTs, applyTs, ih x (hl x (.head _)), ihl fun u hu => hl u (.tail _ hu)]
      rw [key t.args fun u hu => hu]
theorem SameL.w {a b : Sub} {B R : Nat} (h : SameL a b) (hb : SubW B R b) : SubW B R a := ⟨fun n t ht => hb.1 n t (by rw [← h.1]; exact ht), fun n t ht => hb.2 n t (by rw [← h.2]; exact ht)⟩
def noneS : Sub := ⟨[], []⟩
theorem noneS_w {B R : Nat} : SubW B R noneS := ⟨fun n t h => (by cases h), fun n t h => (by cases h)⟩
theorem apply_none {t : Ty} (h : rightT t = true) : applyT noneS t = t := apply_closed noneS t h (fun _ _ => rfl) fun _ _ => rfl
theorem applyR_none {r : Rw} (h : rowOk r.labels r.var = true) : applyR noneS r = r := by rw [applyR_out (.inl rfl), (rowOk_sort h).1]
theorem ThenS.none1 {s o : Sub} (h : ThenS noneS s o) : SameL o s := ⟨fun k => by rw [h.1 k]; rfl, fun k => by rw [h.2 k]; rfl⟩
theorem ThenS.none2 {s o : Sub} (h : ThenS s noneS o) (hs : SubOk s) : SameL o s := ⟨fun k => by
  rw [h.1 k]
  cases hq : alook k s.ts with
  | none => rfl
  | some t => show some (applyT noneS t) = _; rw [apply_none (hs.1 k t hq)], fun k => by
  rw [h.2 k]
  cases hq : alook k s.rs with
  | none => rfl
  | some r => show some (applyR noneS r) = _; rw [applyR_none (hs.2 k r hq)]⟩
def MP.sameS (s : Sub) : MP := MP.mem (fun y : Sub × QQ => .agg (subV y.2).toArray) (fun y m => SubR m y.1 (subV y.2) ∧ SameL y.1 s) fun hm h => ⟨h.1.mono hm, h.2⟩
theorem then_none1 {w : World} {m : Mem} {s : Sub} {q p : QQ} (hA : Agree w m) (hp : SubR m noneS (subV p)) (hq : SubR m s (subV q)) (hw : SubW 17592186044000 20 s) :
    FnV Try.prog 21 #[.agg (subV p).toArray, .agg (subV q).toArray] w m fun _ m v => (MP.sameS s).p m v :=
  FnG.mono (then_c hA hp hq List.nodup_nil List.nodup_nil noneS_w hw) fun _ _ _ _ ⟨y, e, h1, h2⟩ => ⟨y, e, h1, h2.none1⟩
theorem then_none2 {w : World} {m : Mem} {s : Sub} {q p : QQ} (hA : Agree w m) (hp : SubR m noneS (subV p)) (hq : SubR m s (subV q)) (hw : SubW 17592186044000 20 s) (ha : Apart s) (hs : SubOk s) :
    FnV Try.prog 21 #[.agg (subV q).toArray, .agg (subV p).toArray] w m fun _ m v => (MP.sameS s).p m v :=
  FnG.mono (then_c hA hq hp ha.1 ha.2 hw noneS_w) fun _ _ _ _ ⟨y, e, h1, h2⟩ => ⟨y, e, h1, h2.none2 hs⟩
theorem apply_same {w : World} {m : Mem} {s o : Sub} {q : QQ} {t : Ty} {vs : List Value} (hA : Agree w m) (hq : SubR m o (subV q)) (h : SameL o s) (ht : TyR m t vs) (hw : SubW 17592186044416 40 s) (hb : wdT t ≤ 17592186044000) :
    FnV Try.prog 18 #[.agg (subV q).toArray, .agg vs.toArray] w m fun _ m v => (MP.ty (applyT s t)).p m v := by
  have := apply_c t hA hq ht (h.w hw) hb
  rw [applyT_same h] at this; exact this
set_option maxHeartbeats 1600000 in
theorem good_c {w : World} {m : Mem} {o_l : Option Addr} {c_l : Nat} {l : List Say} (hA : Agree w m) (h_l : Says m o_l l.length c_l l) : FnV Try.prog 19 #[.slice o_l l.length c_l] w m (fun _ _ v => v = .bool (goodS l)) := by
  have hb_l := h_l.big; have hc_l := h_l.cap
  refine fn_enter (vs := [_]) Try.func19 rfl rfl rfl fun a0 hfr0 => ?_
  have hst0 := st_enter hA (loc_nil [] _ w m)
  have hM : MLe m m := MLe.refl m
  refine seq_any fun _ hK1 => ?_
  refine rp0 hst0 hfr0 (.cons rfl (ob_assign rfl) <| .nil) ?_
  intro a1 w1 m1 hst1 hle1 hk1
  have hfr1 := hk1.fr (T' := [(0, _)]) (.old rfl rfl <| .nil)
  replace h_l := h_l.mono hle1
  clear hst0 hfr0 hk1
  refine hK1 _ _ ?_; clear hK1
  refine seq_any fun _ hK2 => ?_
  refine seq_any fun _ hK3 => ?_
  refine rp0 hst1 hfr1 (.cons rfl (ob_assign rfl) <| .nil) ?_
  intro a2 w2 m2 hst2 hle2 hk2
  have hfr2 := hk2.fr (T' := [(0, _), (3, _)]) (.old rfl rfl <| .new rfl <| .nil)
  replace h_l := h_l.mono hle2
  clear hst1 hfr1 hk2
  refine hK3 _ _ ?_; clear hK3
  refine wp_block ?_
  refine loop_any (T := [(0, _)]) (fun (y : Nat) => ([(3, .int .i64 (y : Int))] : List (Nat × Value))) (fun _ => _) (fun (y : Nat) m => (y ≤ min l.length 10) ∧ ((l.take y).all okS = true)) (fun y => min l.length 10 - y) (0) ⟨hst2, MLe.refl _, hfr2.sub (.cons rfl <| .cons rfl <| .nil), ⟨Nat.zero_le _, by simp⟩⟩ fun y a3 w3 m3 hh3 => ?_
  have hst3 := hh3.st; have hle3 := hh3.le; have hfr3 := hh3.fr; have hrel := hh3.rel; clear hh3
  replace h_l := h_l.mono hle3
  clear hst2 hfr2
  obtain ⟨hyn, hga⟩ := hrel
  have hlh3 := hle3
  refine seq_any fun _ hK5 => ?_
  refine seq_any fun _ hK6 => ?_
  refine rp0 hst3 hfr3 (.cons rfl (ob_move rfl) <| .cons rfl (ob_move rfl) <| .cons rfl (ob_len rfl Try.underlying22) <| .cons rfl (ob_lss rfl rfl) <| .cons rfl (ob_move rfl) <| .cons rfl (ob_move rfl) <| .cons rfl (ob_lss rfl rfl) <| .cons rfl (ob_and rfl rfl rfl) <| .nil) ?_
  intro a4 w4 m4 hst4 hle4 hk4
  have hfr4 := hk4.fr (T' := [(3, _), (0, _), (13, _)]) (.old rfl rfl <| .old rfl rfl <| .new rfl <| .nil)
  replace h_l := h_l.mono hle4
  have hlh4 := hlh3.trans hle4
  clear hst3 hfr3 hk4
  refine hK6 _ _ ?_; clear hK6
  refine cond_any hfr4 rfl rfl (fun hb13 => ?_) (fun hb13 => ?_)
  · try simp only [nq1, nq2, nq3, nq4, nq5, nq6, nq7, nq8, nq9, u8_eq] at hb13
    refine wp_skip ?_
    refine hK5 _ _ ?_; clear hK5
    refine seq_any fun _ hK7 => ?_
    refine wp_block ?_
    refine seq_any fun _ hK8 => ?_
    obtain ⟨p9, vs9, x9, ho9, hd9, hm_x9, ht9, hcv9, hl9, hv9⟩ := h_l.nth (k := y) (by omega)
    cases ho9
    obtain ⟨⟨⟨oa9, ca9⟩, ob9, cb9⟩, ⟨oc9, cc9⟩, rfl, hn9, hty9, hrw9⟩ := id hv9
    have hrl9 := (rwV_open hrw9).1
    refine rp0 hst4 hfr4 (.cons rfl (ob_move rfl) <| .cons rfl (ob_move rfl) <| .cons rfl (ob_indexAddr (k := y) rfl rfl Try.underlying22 Try.sizeOf64 rfl (by omega)) <| .cons rfl (ob_fieldAddrO (off := 8) rfl Try.underlying64 rfl rfl Try.sizeOf26 rfl) <| .cons rfl (ob_loadS rfl hcv9 Try.isAgg26 Try.sizeOf26 rfl rfl) <| .cons rfl (ob_callE rfl (.cons rfl <| .nil) Try.call35 (fun w m hK => by have hle_ := KC.le hK; have hA := KC.agree hK; have hrw9 := hrw9.mono hle_; exact rightRowR_c (r := x9.row) hA hrw9)) <| .cons rfl (ob_assign rfl) <| .nil) ?_
    intro a5 w5 m5 hst5 hle5 hk5
    have hfr5 := hk5.fr (T' := [(3, _), (0, _), (4, _)]) (.old rfl rfl <| .old rfl rfl <| .new rfl <| .nil)
    replace hcv9 := hcv9.mono hle5
    replace hty9 := hty9.mono hle5
    have hlh5 := hlh4.trans hle5
    clear hst4 hfr4 hk5
    refine hK8 _ _ ?_; clear hK8
    refine seq_any fun _ hK10 => ?_
    refine rp0 hst5 hfr5 (.cons rfl (ob_move rfl) <| .cons rfl (ob_move rfl) <| .cons rfl (ob_indexAddr (k := y) rfl rfl Try.underlying22 Try.sizeOf64 rfl (by omega)) <| .cons rfl (ob_fieldAddrO (off := 2) rfl Try.underlying64 rfl rfl Try.sizeOf28 rfl) <| .cons rfl (ob_loadS rfl hcv9 Try.isAgg28 Try.sizeOf28 rfl rfl) <| .cons rfl (ob_callE rfl (.cons rfl <| .nil) Try.call16 (fun w m hK => by have hle_ := KC.le hK; have hA := KC.agree hK; have hty9 := hty9.mono hle_; exact right0R_c (t := x9.ty) hA hty9)) <| .cons rfl (ob_assign rfl) <| .nil) ?_
    intro a6 w6 m6 hst6 hle6 hk6
    have hfr6 := hk6.fr (T' := [(3, _), (0, _), (4, _), (5, _)]) (.old rfl rfl <| .old rfl rfl <| .old rfl rfl <| .new rfl <| .nil)
    replace hcv9 := hcv9.mono hle6
    have hlh6 := hlh5.trans hle6
    clear hst5 hfr5 hk6
    refine hK10 _ _ ?_; clear hK10
    refine seq_any fun _ hK11 => ?_
    refine rp0 hst6 hfr6 (.cons rfl (ob_move rfl) <| .cons rfl (ob_move rfl) <| .cons rfl (ob_indexAddr (k := y) rfl rfl Try.underlying22 Try.sizeOf64 rfl (by omega)) <| .cons rfl (ob_fieldAddrO (off := 1) rfl Try.underlying64 rfl rfl Try.sizeOf4 rfl) <| .cons rfl (ob_load1 rfl hcv9 Try.isAgg4 rfl) <| .cons rfl (ob_move rfl) <| .cons rfl (ob_move rfl) <| .cons rfl (ob_not rfl) <| .cons rfl (ob_and rfl rfl rfl) <| .cons rfl (ob_move rfl) <| .cons rfl (ob_move rfl) <| .cons rfl (ob_move rfl) <| .cons rfl (ob_indexAddr (k := y) rfl rfl Try.underlying22 Try.sizeOf64 rfl (by omega)) <| .cons rfl (ob_fieldAddrO (off := 1) rfl Try.underlying64 rfl rfl Try.sizeOf4 rfl) <| .cons rfl (ob_load1 rfl hcv9 Try.isAgg4 rfl) <| .cons rfl (ob_not rfl) <| .cons rfl (ob_move rfl) <| .cons rfl (ob_move rfl) <| .cons rfl (ob_not rfl) <| .cons rfl (ob_and rfl rfl rfl) <| .cons rfl (ob_or rfl rfl rfl) <| .nil) ?_
    intro a7 w7 m7 hst7 hle7 hk7
    have hfr7 := hk7.fr (T' := [(3, _), (0, _), (48, _)]) (.old rfl rfl <| .old rfl rfl <| .new rfl <| .nil)
    have hlh7 := hlh6.trans hle7
    clear hst6 hfr6 hk7
    refine hK11 _ _ ?_; clear hK11
    refine cond_any hfr7 rfl rfl (fun hb48 => ?_) (fun hb48 => ?_)
    · try simp only [nq1, nq2, nq3, nq4, nq5, nq6, nq7, nq8, nq9, u8_eq] at hb48
      refine seq_any fun _ hK12 => ?_
      have hgf := goodS_out (l := l) (y := y) (by omega) (by rw [goodS_step hga ht9]; unfold okS; by_cases ho : x9.ofRow = true <;> simp_all <;> (intro h9; rcases hb48 with h8 | h8; (exfalso; omega); exact h8))
      refine rp0 hst7 hfr7 (.cons rfl (ob_assign rfl) <| .nil) ?_
      intro a8 w8 m8 hst8 hle8 hk8
      have hfr8 := hk8.fr (T' := [(3, _), (2, _)]) (.old rfl rfl <| .new rfl <| .nil)
      have hlh8 := hlh7.trans hle8
      clear hst7 hfr7 hk8
      refine hK12 _ _ ?_; clear hK12
      refine wp_ret ?_
      repeat (with_reducible first | refine then_ret ?_ | refine block_ret ?_)
      exact fn_ret hst8 hfr8 rfl (.tmp rfl <| .nil) (by rw [hgf]; rfl)
    · try simp only [nq1, nq2, nq3, nq4, nq5, nq6, nq7, nq8, nq9, u8_eq] at hb48
      refine wp_skip ?_
      refine hK7 _ _ ?_; clear hK7
      refine rp0 hst7 hfr7 (.cons rfl (ob_move rfl) <| .cons rfl (ob_add rfl rfl ⟨by omega, by omega⟩) <| .cons rfl (ob_assign rfl) <| .nil) ?_
      intro a8 w8 m8 hst8 hle8 hk8
      have hfr8 := hk8.fr (T' := [(0, _), (3, _)]) (.old rfl rfl <| .new rfl <| .nil)
      have hlh8 := hlh7.trans hle8
      clear hst7 hfr7 hk8
      exact ⟨y + 1, m8, by show min l.length 10 - (y + 1) < min l.length 10 - y; omega, ⟨hst8, hlh8, hfr8.sub (.cons rfl <| .cons rfl <| .nil), ⟨by show y + 1 ≤ min l.length 10; omega, by rw [goodS_step hga ht9]; unfold okS; rcases hb48 with ⟨h1, h2⟩; first | (simp_all; done) | (by_cases ho : x9.ofRow = true <;> simp_all)⟩⟩⟩
  · try simp only [nq1, nq2, nq3, nq4, nq5, nq6, nq7, nq8, nq9, u8_eq] at hb13
    have hge : y = min l.length 10 := by omega
    have htk : l.take y = l.take 10 := by rw [hge]; rcases Nat.le_total l.length 10 with h | h; (rw [Nat.min_eq_left h, List.take_length, List.take_of_length_le h]); (rw [Nat.min_eq_right h])
    rw [htk] at hga
    refine wp_exit ?_
    refine hK2 _ _ ?_; clear hK2
    refine seq_any fun _ hK14 => ?_
    refine rp0 hst4 hfr4 (.cons rfl (ob_assign rfl) <| .nil) ?_
    intro a5 w5 m5 hst5 hle5 hk5
    have hfr5 := hk5.fr (T' := [(3, _), (2, _)]) (.old rfl rfl <| .new rfl <| .nil)
    have hlh5 := hlh4.trans hle5
    clear hst4 hfr4 hk5
    refine hK14 _ _ ?_; clear hK14
    refine wp_ret ?_
    repeat (with_reducible first | refine then_ret ?_ | refine block_ret ?_)
    exact fn_ret hst5 hfr5 rfl (.tmp rfl <| .nil) (by show _ = Value.bool (goodS l); unfold goodS; rw [hga]; rfl)

end Go.Proofs.Ytfphefkfbhjfdaa
