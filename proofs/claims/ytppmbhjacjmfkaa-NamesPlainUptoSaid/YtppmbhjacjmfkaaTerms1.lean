/-
  Terms: free names, cleaned terms, parts. Conditions: those of each theorem.
-/
import Derived.Test.YtppmbhjacjmfkaaCheck2
import Derived.Test.YtppmbhjacjmfkaaRowx
namespace Go.Proofs.Ytppmbhjacjmfkaa
set_option linter.all false
set_option maxRecDepth 4000
open Go.RowKit
def uS : Str := [95]
mutual
def usesM (s : Str) : Tm → Nat
  | ⟨k, _, nm, p, _, ks, az, _⟩ => if k = 1 then (if nm = s then 1 else 0) else usesKs s (boundR k nm p) 0 ks + usesAs s az
def usesKs (s : Str) (f : Nat → List Str) : Nat → List Tm → Nat
  | _, [] => 0
  | i, t :: ts => (if s = uS ∨ ¬ s ∈ f i then usesM s t else 0) + usesKs s f (i + 1) ts
def usesAs (s : Str) : List Ar → Nat
  | [] => 0
  | ⟨_, l, b⟩ :: ts => (if s = uS ∨ ¬ s ∈ l then usesM s b else 0) + usesAs s ts
end
theorem usesM_eq (s : Str) (t : Tm) : usesM s t = if t.kind = 1 then (if t.name = s then 1 else 0) else usesKs s (boundR t.kind t.name t.param) 0 t.kids + usesAs s t.arms := by obtain ⟨k, a, s', p, n, ks, az, r⟩ := t; rw [usesM]; rfl
theorem usesAs_cons (s : Str) (a : Ar) (ts : List Ar) : usesAs s (a :: ts) = (if s = uS ∨ ¬ s ∈ a.vars then usesM s a.body else 0) + usesAs s ts := by obtain ⟨x, l, b⟩ := a; rw [usesAs]; rfl
theorem usesM_le (s : Str) (t : Tm) : usesM s t ≤ countM t := by
  induction t using Tm.rec_ with
  | h t ihk iha =>
    have hk : ∀ (l : List Tm), (∀ u ∈ l, u ∈ t.kids) → ∀ f i, usesKs s f i l ≤ countKs l := by
      intro l
      induction l with
      | nil => intro _ f i; simp [usesKs]
      | cons u l ih => intro hl f i; rw [usesKs, countKs]; have := ihk u (hl u (.head _)); have := ih (fun u hu => hl u (.tail _ hu)) f (i + 1); split <;> omega
    have ha : ∀ (l : List Ar), (∀ u ∈ l, u ∈ t.arms) → usesAs s l ≤ countAs l := by
      intro l
      induction l with
      | nil => intro _; simp [usesAs]
      | cons u l ih => intro hl; rw [usesAs_cons, countAs_cons]; have := iha u (hl u (.head _)); have := ih (fun u hu => hl u (.tail _ hu)); split <;> omega
    rw [usesM_eq, countM_eq]
    have := hk t.kids (fun _ h => h) (boundR t.kind t.name t.param) 0
    have := ha t.arms (fun _ h => h)
    split
    · split <;> omega
    · omega
def cleanP (t : Tm) : Str := if t.kind = 8 then t.param else []
def cleanN (t : Tm) : Int := if t.kind = 2 ∨ t.kind = 3 then t.n else 0
def cleanS (t : Tm) : Str := if t.kind = 2 ∨ t.kind = 3 ∨ t.kind = 4 ∨ t.kind = 6 ∨ t.kind = 9 ∨ t.kind = 12 then [] else t.name
mutual
def cleanT : Tm → Tm
  | ⟨k, a, s, p, n, ks, az, r⟩ => ⟨k, a, if k = 2 ∨ k = 3 ∨ k = 4 ∨ k = 6 ∨ k = 9 ∨ k = 12 then [] else s, if k = 8 then p else [], if k = 2 ∨ k = 3 then n else 0, cleanKs ks, cleanAs az, r⟩
def cleanKs : List Tm → List Tm
  | [] => []
  | t :: ts => cleanT t :: cleanKs ts
def cleanAs : List Ar → List Ar
  | [] => []
  | ⟨s, l, b⟩ :: ts => ⟨s, l, cleanT b⟩ :: cleanAs ts
end
def cleanA (a : Ar) : Ar := ⟨a.name, a.vars, cleanT a.body⟩
theorem cleanKs_map : ∀ l : List Tm, cleanKs l = l.map cleanT
  | [] => by simp [cleanKs]
  | t :: ts => by simp [cleanKs, cleanKs_map ts]
theorem cleanAs_map : ∀ l : List Ar, cleanAs l = l.map cleanA
  | [] => by simp [cleanAs]
  | ⟨s, v, b⟩ :: ts => by simp [cleanAs, cleanAs_map ts, cleanA, Ar.name, Ar.vars, Ar.body]
theorem cleanT_eq (t : Tm) : cleanT t = ⟨t.kind, t.at_, cleanS t, cleanP t, cleanN t, t.kids.map cleanT, t.arms.map cleanA, t.row⟩ := by
  obtain ⟨k, a, s, p, n, ks, az, r⟩ := t; rw [cleanT, cleanKs_map, cleanAs_map]; rfl
/-- A part of a term, itself among them. -/
inductive PtT : Tm → Tm → Prop where
  | refl (t : Tm) : PtT t t
  | kid {x u t : Tm} (h : u ∈ t.kids) (hs : PtT x u) : PtT x t
  | arm {x t : Tm} {a : Ar} (h : a ∈ t.arms) (hs : PtT x a.body) : PtT x t
theorem RtT.clean {t : Tm} (h : RtT t) : RtT (cleanT t) := by
  induction t using Tm.rec_ with
  | h t ihk iha =>
    rw [cleanT_eq]
    refine .mk ?_ (fun u hu => ?_) (fun a ha => ?_)
    · have := h.here
      unfold kindOk at this ⊢
      simpa [Tm.kind, Tm.kids, Tm.arms] using this
    · simp only [Tm.kids, List.mem_map] at hu
      obtain ⟨v, hv, rfl⟩ := hu
      exact ihk v hv (h.kid hv)
    · simp only [Tm.arms, List.mem_map] at ha
      obtain ⟨b, hb, rfl⟩ := ha
      exact iha b hb (h.arm hb)
theorem RtT.sub {x t : Tm} (hs : PtT x t) (h : RtT t) : RtT x := by
  induction hs with
  | refl => exact h
  | kid hu _ ih => exact ih (h.kid hu)
  | arm ha _ ih => exact ih (h.arm ha)
def zeroT : Tm := ⟨0, 0, [], [], 0, [], [], ⟨[], 0⟩⟩
theorem zeroT_R {m : Mem} : TmR m zeroT (tmV zeroT (TmY.zero none 0 none 0)) := TmR.build TmY.zero_one Sl.empty Sl.empty ⟨_, _, rfl, Sl.empty, ⟨by decide, by decide⟩⟩
theorem cleanT_count (t : Tm) : countM (cleanT t) = countM t := by
  induction t using Tm.rec_ with
  | h t ihk iha =>
    rw [cleanT_eq, countM_eq, countM_eq t]
    have hk : ∀ (l : List Tm), (∀ u ∈ l, countM (cleanT u) = countM u) → countKs (l.map cleanT) = countKs l := by
      intro l
      induction l with
      | nil => intro _; rfl
      | cons u l ih => intro h; rw [List.map_cons, countKs, countKs, h u (.head _), ih fun v hv => h v (.tail _ hv)]
    have ha : ∀ (l : List Ar), (∀ u ∈ l, countM (cleanT u.body) = countM u.body) → countAs (l.map cleanA) = countAs l := by
      intro l
      induction l with
      | nil => intro _; rfl
      | cons u l ih => intro h; rw [List.map_cons, countAs_cons, countAs_cons, ih fun v hv => h v (.tail _ hv)]; show countM (cleanT u.body) + _ = _; rw [h u (.head _)]
    show 1 + countKs (t.kids.map cleanT) + countAs (t.arms.map cleanA) = _
    rw [hk _ ihk, ha _ iha]
theorem PtT.count {x t : Tm} (hs : PtT x t) : countM x ≤ countM t := by
  have hkm : ∀ {l : List Tm} {u : Tm}, u ∈ l → countM u ≤ countKs l := by
    intro l u h
    induction l with
    | nil => cases h
    | cons v l ih => rw [countKs]; cases h with
      | head => omega
      | tail _ h => have := ih h; omega
  have ham : ∀ {l : List Ar} {u : Ar}, u ∈ l → countM u.body ≤ countAs l := by
    intro l u h
    induction l with
    | nil => cases h
    | cons v l ih => rw [countAs_cons]; cases h with
      | head => omega
      | tail _ h => have := ih h; omega
  induction hs with
  | refl => exact Nat.le_refl _
  | @kid u t hu _ ih => have := countM_eq t; have := hkm hu; omega
  | @arm t a ha _ ih => have := countM_eq t; have := ham ha; omega
theorem countM_bulk (t : Tm) : countM t ≤ bulkM t := by
  induction t using Tm.rec_ with
  | h t ihk iha =>
    rw [countM_eq, bulkM_eq]
    have hk : ∀ (l : List Tm), (∀ u ∈ l, countM u ≤ bulkM u) → countKs l ≤ bulkKs l := by
      intro l
      induction l with
      | nil => intro _; simp [countKs]
      | cons u l ih => intro h; rw [countKs, bulkKs]; have := h u (.head _); have := ih fun v hv => h v (.tail _ hv); omega
    have ha : ∀ (l : List Ar), (∀ u ∈ l, countM u.body ≤ bulkM u.body) → countAs l ≤ bulkAs l := by
      intro l
      induction l with
      | nil => intro _; simp [countAs]
      | cons u l ih => intro h; obtain ⟨n_, v_, b_⟩ := u; rw [countAs, bulkAs]; have := h ⟨n_, v_, b_⟩ (.head _); have := ih fun v hv => h v (.tail _ hv); simp only [Ar.body] at *; omega
    have := hk _ ihk; have := ha _ iha; omega
theorem sum_map_le {α : Type} {f g : α → Nat} : ∀ {l : List α}, (∀ x ∈ l, f x ≤ g x) → (l.map f).sum ≤ (l.map g).sum
  | [], _ => Nat.le_refl _
  | x :: l, h => by simp only [List.map_cons, List.sum_cons]; have := h x (.head _); have := sum_map_le (l := l) fun y hy => h y (.tail _ hy); omega
theorem cleanT_bulk (t : Tm) : bulkM (cleanT t) ≤ bulkM t := by
  induction t using Tm.rec_ with
  | h t ihk iha =>
    rw [cleanT_eq, bulkM_eq, bulkM_eq t]
    have hk : ∀ (l : List Tm), (∀ u ∈ l, bulkM (cleanT u) ≤ bulkM u) → bulkKs (l.map cleanT) ≤ bulkKs l := by
      intro l
      induction l with
      | nil => intro _; exact Nat.le_refl _
      | cons u l ih => intro h; rw [List.map_cons, bulkKs, bulkKs]; have := h u (.head _); have := ih fun v hv => h v (.tail _ hv); omega
    have ha : ∀ (l : List Ar), (∀ u ∈ l, bulkM (cleanT u.body) ≤ bulkM u.body) → bulkAs (l.map cleanA) ≤ bulkAs l := by
      intro l
      induction l with
      | nil => intro _; exact Nat.le_refl _
      | cons u l ih =>
        intro h
        obtain ⟨n_, v_, b_⟩ := u
        rw [List.map_cons, bulkAs]
        have h1 := h ⟨n_, v_, b_⟩ (.head _); have h2 := ih fun v hv => h v (.tail _ hv)
        show bulkAs (⟨n_, v_, cleanT b_⟩ :: l.map cleanA) ≤ _
        rw [bulkAs]
        simp only [Ar.body] at h1; omega
    show 3 + (cleanS t).length + (cleanP t).length + bulkKs (t.kids.map cleanT) + bulkAs (t.arms.map cleanA) ≤ _
    have h1 := hk _ ihk; have h2 := ha _ iha
    have h3 : (cleanS t).length ≤ t.name.length := by unfold cleanS; split <;> simp
    have h4 : (cleanP t).length ≤ t.param.length := by unfold cleanP; split <;> simp
    omega
theorem PtT.bulk {x t : Tm} (hs : PtT x t) : bulkM x ≤ bulkM t := by
  induction hs with
  | refl => exact Nat.le_refl _
  | @kid u t hu _ ih => have := bulk_kid hu; omega
  | @arm t a ha _ ih => have := bulk_arm ha; omega
def MP.atB (t : Tm) (n : Int) : MP := MP.mem (fun y : (Tm × TmY) × Int × Bool => .tuple #[.agg (tmV y.1.1 y.1.2).toArray, .int .i64 y.2.1, .bool y.2.2]) (fun y m => TmR m y.1.1 (tmV y.1.1 y.1.2) ∧ (0 ≤ y.2.1 ∧ y.2.1 ≤ n) ∧ (PtT y.1.1 t ∨ y.1.1 = zeroT)) fun hm h => ⟨h.1.mono hm, h.2⟩
abbrev uses_G (t : Tm) : Prop := ∀ {w : World} {m : Mem} {vs_t : List Value} {s : Str} (hA : Agree w m) (h_t : TmR m t vs_t) (hb : countM t ≤ 1073741824), FnV Try.prog 20 #[.agg vs_t.toArray, S s] w m (fun _ _ v => v = .int .i64 (usesM s t : Int))
set_option maxHeartbeats 400000 in
theorem uses_s {t : Tm} (ihk : ∀ u ∈ t.kids, uses_G u) (iha : ∀ a ∈ t.arms, uses_G a.body) {w : World} {m : Mem} {vs_t : List Value} {s : Str} (hA : Agree w m) (h_t : TmR m t vs_t) (hb : countM t ≤ 1073741824) : FnV Try.prog 20 #[.agg vs_t.toArray, S s] w m (fun _ _ v => v = .int .i64 (usesM s t : Int)) := by
  obtain ⟨⟨oK_t, cK_t, oA_t, cA_t, oR_t, cR_t, t0_t, t1_t, t2_t, t3_t, t4_t, t5_t, u0_t, u1_t, u2_t, u3_t, u4_t, u5_t⟩, rfl, hon_t, hkk_t, haa_t, hrr_t⟩ := h_t.open_
  dsimp only at hkk_t haa_t hrr_t
  have hbg_t := hkk_t.big; have hcp_t := hkk_t.cap; have hbh_t := haa_t.big; have hcq_t := haa_t.cap
  refine fn_enter (vs := [_, _]) Try.func20 rfl rfl rfl fun a0 hfr0 => ?_
  have hst0 := st_enter hA (loc_nil [] _ w m)
  have hM : MLe m m := MLe.refl m
  have hce := countM_eq t
  have hue := usesM_eq s t
  have hul := usesM_le s t
  refine seq_any fun _ hK1 => ?_
  refine rp0 hst0 hfr0 (.cons rfl (ob_box rfl rfl) <| .cons rfl (ob_assign rfl) <| .nil) ?_
  intro a1 w1 m1 hst1 hle1 hk1
  have hfr1 := hk1.fr (T' := [(1, _)]) (.old rfl rfl <| .nil)
  obtain ⟨g2, e2, hc2⟩ := hk1.ex 2 rfl
  replace hfr1 := hfr1.cons e2
  replace h_t := h_t.mono hle1
  replace hkk_t := hkk_t.mono hle1
  replace haa_t := haa_t.mono hle1
  replace hrr_t := hrr_t.mono hle1
  clear hst0 hfr0 hk1
  refine hK1 _ _ ?_; clear hK1
  refine seq_any fun _ hK3 => ?_
  refine seq_any fun _ hK4 => ?_
  refine rp0 hst1 hfr1 (.cons rfl (ob_fieldAddrO (off := 0) rfl Try.underlying33 rfl rfl Try.sizeOf3 rfl) <| .cons rfl (ob_load1 rfl hc2 Try.isAgg3 rfl) <| .cons rfl (ob_eql rfl rfl) <| .nil) ?_
  intro a2 w2 m2 hst2 hle2 hk2
  have hfr2 := hk2.fr (T' := [(1, _), (2, _), (11, _)]) (.old rfl rfl <| .old rfl rfl <| .new rfl <| .nil)
  replace h_t := h_t.mono hle2
  replace hkk_t := hkk_t.mono hle2
  replace haa_t := haa_t.mono hle2
  replace hrr_t := hrr_t.mono hle2
  replace hc2 := hc2.mono hle2
  clear hst1 hfr1 hk2
  refine hK4 _ _ ?_; clear hK4
  refine cond_any hfr2 rfl rfl (fun hb11 => ?_) (fun hb11 => ?_)
  · try simp only [nq1, nq2, nq3, nq4, nq5, nq6, nq7, nq8, nq9, u8_eq] at hb11
    rw [if_pos hb11] at hue
    refine seq_any fun _ hK5 => ?_
    refine seq_any fun _ hK6 => ?_
    refine rp0 hst2 hfr2 (.cons rfl (ob_fieldAddrO (off := 2) rfl Try.underlying33 rfl rfl Try.sizeOf9 rfl) <| .cons rfl (ob_load1 rfl hc2 Try.isAgg9 rfl) <| .cons rfl (ob_move rfl) <| .cons rfl (ob_seql rfl rfl) <| .nil) ?_
    intro a3 w3 m3 hst3 hle3 hk3
    have hfr3 := hk3.fr (T' := [(15, _)]) (.new rfl <| .nil)
    clear hst2 hfr2 hk3
    refine hK6 _ _ ?_; clear hK6
    refine cond_any hfr3 rfl rfl (fun hb15 => ?_) (fun hb15 => ?_)
    · try simp only [nq1, nq2, nq3, nq4, nq5, nq6, nq7, nq8, nq9, u8_eq] at hb15
      rw [if_pos hb15] at hue
      refine seq_any fun _ hK7 => ?_
      refine rp0 hst3 hfr3 (.cons rfl (ob_assign rfl) <| .nil) ?_
      intro a4 w4 m4 hst4 hle4 hk4
      have hfr4 := hk4.fr (T' := [(4, _)]) (.new rfl <| .nil)
      clear hst3 hfr3 hk4
      refine hK7 _ _ ?_; clear hK7
      refine wp_ret ?_
      repeat (with_reducible first | refine then_ret ?_ | refine block_ret ?_)
      exact fn_ret hst4 hfr4 rfl (.tmp rfl <| .nil) (by refine congrArg (Value.int _) ?_; omega)
    · try simp only [nq1, nq2, nq3, nq4, nq5, nq6, nq7, nq8, nq9, u8_eq] at hb15
      rw [if_neg hb15] at hue
      refine wp_skip ?_
      refine hK5 _ _ ?_; clear hK5
      refine seq_any fun _ hK9 => ?_
      refine rp0 hst3 hfr3 (.cons rfl (ob_assign rfl) <| .nil) ?_
      intro a4 w4 m4 hst4 hle4 hk4
      have hfr4 := hk4.fr (T' := [(4, _)]) (.new rfl <| .nil)
      clear hst3 hfr3 hk4
      refine hK9 _ _ ?_; clear hK9
      refine wp_ret ?_
      repeat (with_reducible first | refine then_ret ?_ | refine block_ret ?_)
      exact fn_ret hst4 hfr4 rfl (.tmp rfl <| .nil) (by refine congrArg (Value.int _) ?_; omega)
  · try simp only [nq1, nq2, nq3, nq4, nq5, nq6, nq7, nq8, nq9, u8_eq] at hb11
    rw [if_neg hb11] at hue
    refine wp_skip ?_
    refine hK3 _ _ ?_; clear hK3
    refine seq_any fun _ hK11 => ?_
    refine rp0 hst2 hfr2 (.cons rfl (ob_assign rfl) <| .nil) ?_
    intro a3 w3 m3 hst3 hle3 hk3
    have hfr3 := hk3.fr (T' := [(1, _), (2, _), (5, _)]) (.old rfl rfl <| .old rfl rfl <| .new rfl <| .nil)
    replace h_t := h_t.mono hle3
    replace hkk_t := hkk_t.mono hle3
    replace haa_t := haa_t.mono hle3
    replace hrr_t := hrr_t.mono hle3
    replace hc2 := hc2.mono hle3
    clear hst2 hfr2 hk3
    refine hK11 _ _ ?_; clear hK11
    refine seq_any fun _ hK12 => ?_
    refine seq_any fun _ hK13 => ?_
    refine rp0 hst3 hfr3 (.cons rfl (ob_assign rfl) <| .nil) ?_
    intro a4 w4 m4 hst4 hle4 hk4
    have hfr4 := hk4.fr (T' := [(1, _), (2, _), (5, _), (6, _)]) (.old rfl rfl <| .old rfl rfl <| .old rfl rfl <| .new rfl <| .nil)
    replace h_t := h_t.mono hle4
    replace hkk_t := hkk_t.mono hle4
    replace haa_t := haa_t.mono hle4
    replace hrr_t := hrr_t.mono hle4
    replace hc2 := hc2.mono hle4
    clear hst3 hfr3 hk4
    refine hK13 _ _ ?_; clear hK13
    refine wp_block ?_
    refine loop_any (T := [(1, _), (2, _)]) (fun (y : Nat × Int) => ([(5, .int .i64 y.2), (6, .int .i64 (y.1 : Int))] : List (Nat × Value))) (fun _ => _) (fun (y : Nat × Int) m => (fun (y : Nat) (a : Int) => (y ≤ t.kids.length) ∧ (a + usesKs s (boundR t.kind t.name t.param) y (t.kids.drop y) + usesAs s t.arms = (usesM s t : Int)) ∧ (0 ≤ a) ∧ (countKs (t.kids.drop y) ≤ countKs t.kids)) y.1 y.2) (fun y => t.kids.length - y.1) ((0, 0)) ⟨hst4, MLe.refl _, hfr4.sub (.cons rfl <| .cons rfl <| .cons rfl <| .cons rfl <| .nil), ⟨Nat.zero_le _, by show (0 : Int) + ((usesKs s (boundR t.kind t.name t.param) 0 (t.kids.drop 0) : Nat) : Int) + _ = _; rw [List.drop_zero]; omega, by omega, Nat.le_refl _⟩⟩ fun y a5 w5 m5 hh5 => ?_
    have hst5 := hh5.st; have hle5 := hh5.le; have hfr5 := hh5.fr; have hrel := hh5.rel; clear hh5
    replace h_t := h_t.mono hle5
    replace hkk_t := hkk_t.mono hle5
    replace haa_t := haa_t.mono hle5
    replace hrr_t := hrr_t.mono hle5
    replace hc2 := hc2.mono hle5
    clear hst4 hfr4
    obtain ⟨y, a⟩ := y
    dsimp only at hrel hfr5 hst5
    obtain ⟨hyn, ha, ha0, hck⟩ := hrel
    have hlh5 := hle5
    refine seq_any fun _ hK15 => ?_
    refine seq_any fun _ hK16 => ?_
    refine rp0 hst5 hfr5 (.cons rfl (ob_move rfl) <| .cons rfl (ob_fieldAddrO (off := 5) rfl Try.underlying33 rfl rfl Try.sizeOf24 rfl) <| .cons rfl (ob_load1 rfl hc2 Try.isAgg24 rfl) <| .cons rfl (ob_len rfl Try.underlying24) <| .cons rfl (ob_lss rfl rfl) <| .nil) ?_
    intro a6 w6 m6 hst6 hle6 hk6
    have hfr6 := hk6.fr (T' := [(5, _), (6, _), (1, _), (2, _), (20, _)]) (.old rfl rfl <| .old rfl rfl <| .old rfl rfl <| .old rfl rfl <| .new rfl <| .nil)
    replace h_t := h_t.mono hle6
    replace hkk_t := hkk_t.mono hle6
    replace haa_t := haa_t.mono hle6
    replace hrr_t := hrr_t.mono hle6
    replace hc2 := hc2.mono hle6
    have hlh6 := hlh5.trans hle6
    clear hst5 hfr5 hk6
    refine hK16 _ _ ?_; clear hK16
    refine cond_any hfr6 rfl rfl (fun hb20 => ?_) (fun hb20 => ?_)
    · try simp only [nq1, nq2, nq3, nq4, nq5, nq6, nq7, nq8, nq9, u8_eq] at hb20
      refine wp_skip ?_
      refine hK15 _ _ ?_; clear hK15
      refine seq_any fun _ hK17 => ?_
      refine wp_block ?_
      refine seq_any fun _ hK18 => ?_
      obtain ⟨p19, vs19, x19, ho19, hd19, hm_x19, ht19, hcv19, hl19, hv19⟩ := hkk_t.nth (k := y) (by omega)
      cases ho19
      obtain ⟨⟨oK19, cK19, oA19, cA19, oR19, cR19, t019, t119, t219, t319, t419, t519, u019, u119, u219, u319, u419, u519⟩, rfl, hon19, hkk19, haa19, hrr19⟩ := hv19.open_
      dsimp only at hkk19 haa19 hrr19
      have hbg19 := hkk19.big; have hcp19 := hkk19.cap; have hbh19 := haa19.big; have hcq19 := haa19.cap
      rw [hd19, usesKs] at ha
      rw [hd19, countKs] at hck
      refine ra0 (tch := []) hst6 hfr6 (.cons rfl (ob_loadS' rfl hc2 Try.isAgg33 Try.sizeOf33 rfl rfl) <| .cons rfl (ob_move rfl) <| .cons rfl (ob_call (φ := MP.strs (boundR t.kind t.name t.param y)) rfl (.cons rfl <| .cons rfl <| .nil) Try.call34 (fun w m hK => by have hle_ := KC.le hK; have hA := KC.agree hK; have h_t := h_t.mono hle_; exact FnG.mono (bound_c (t := t) (i := y) hA h_t) fun _ _ _ _ h => h)) <| .consA 25 rfl rfl <| .nil) ?_
      intro a7 w7 m7 hst7 hle7 hk7
      have hfr7 := hk7.fr (T' := [(5, _), (6, _), (1, _), (2, _)]) (.old rfl rfl <| .old rfl rfl <| .old rfl rfl <| .old rfl rfl <| .nil)
      obtain ⟨⟨oB, cB⟩, e20, hB⟩ := hk7.ex 25 rfl
      replace hfr7 := hfr7.cons (hk7.same 7 rfl e20)
      replace h_t := h_t.mono hle7
      replace hkk_t := hkk_t.mono hle7
      replace haa_t := haa_t.mono hle7
      replace hrr_t := hrr_t.mono hle7
      replace hc2 := hc2.mono hle7
      replace hcv19 := hcv19.mono hle7
      replace hv19 := hv19.mono hle7
      replace hkk19 := hkk19.mono hle7
      replace haa19 := haa19.mono hle7
      replace hrr19 := hrr19.mono hle7
      have hlh7 := hlh6.trans hle7
      clear hst6 hfr6 hk7
      dsimp only [MP.strs, MP.mem] at hB
      refine hK18 _ _ ?_; clear hK18
      refine seq_any fun _ hK21 => ?_
      refine rp0 hst7 hfr7 (.cons rfl (ob_move rfl) <| .cons rfl (ob_seql rfl rfl) <| .cons rfl (ob_move rfl) <| .cons rfl (ob_move rfl) <| .cons rfl (ob_move rfl) <| .cons rfl (ob_callE rfl (.cons rfl <| .cons rfl <| .nil) Try.call15 (fun w m hK => by have hle_ := KC.le hK; have hA := KC.agree hK; have hB := hB.mono hle_; exact in_c (l := boundR t.kind t.name t.param y) hA hB)) <| .cons rfl (ob_not rfl) <| .cons rfl (ob_or rfl rfl rfl) <| .nil) ?_
      intro a8 w8 m8 hst8 hle8 hk8
      have hfr8 := hk8.fr (T' := [(5, _), (6, _), (1, _), (2, _), (33, _)]) (.old rfl rfl <| .old rfl rfl <| .old rfl rfl <| .old rfl rfl <| .new rfl <| .nil)
      replace h_t := h_t.mono hle8
      replace hkk_t := hkk_t.mono hle8
      replace haa_t := haa_t.mono hle8
      replace hrr_t := hrr_t.mono hle8
      replace hc2 := hc2.mono hle8
      replace hcv19 := hcv19.mono hle8
      replace hv19 := hv19.mono hle8
      replace hkk19 := hkk19.mono hle8
      replace haa19 := haa19.mono hle8
      replace hrr19 := hrr19.mono hle8
      replace hB := hB.mono hle8
      have hlh8 := hlh7.trans hle8
      clear hst7 hfr7 hk8
      refine hK21 _ _ ?_; clear hK21
      refine cond_any hfr8 rfl rfl (fun hb33 => ?_) (fun hb33 => ?_)
      · try simp only [nq1, nq2, nq3, nq4, nq5, nq6, nq7, nq8, nq9, u8_eq] at hb33
        rw [if_pos (show s = uS ∨ ¬ s ∈ boundR t.kind t.name t.param y by simpa [uS] using hb33)] at ha
        have hul2 := usesM_le s x19
        refine rp0 hst8 hfr8 (.cons rfl (ob_move rfl) <| .cons rfl (ob_fieldAddrO (off := 5) rfl Try.underlying33 rfl rfl Try.sizeOf24 rfl) <| .cons rfl (ob_load1 rfl hc2 Try.isAgg24 rfl) <| .cons rfl (ob_move rfl) <| .cons rfl (ob_indexAddr (k := y) rfl rfl Try.underlying24 Try.sizeOf33 rfl (by omega)) <| .cons rfl (ob_loadS' rfl hcv19 Try.isAgg33 Try.sizeOf33 rfl rfl) <| .cons rfl (ob_move rfl) <| .cons rfl (ob_callE rfl (.cons rfl <| .cons rfl <| .nil) Try.call20 (fun w m hK => by have hle_ := KC.le hK; have hA := KC.agree hK; have h_t := h_t.mono hle_; have hkk_t := hkk_t.mono hle_; have haa_t := haa_t.mono hle_; have hrr_t := hrr_t.mono hle_; have hc2 := hc2.mono hle_; have hcv19 := hcv19.mono hle_; have hv19 := hv19.mono hle_; have hkk19 := hkk19.mono hle_; have haa19 := haa19.mono hle_; have hrr19 := hrr19.mono hle_; have hB := hB.mono hle_; exact ihk _ (by assumption) hA (by assumption) (by omega))) <| .cons rfl (ob_add rfl rfl ⟨by omega, by omega⟩) <| .cons rfl (ob_assign rfl) <| .nil) ?_
        intro a9 w9 m9 hst9 hle9 hk9
        have hfr9 := hk9.fr (T' := [(6, _), (1, _), (2, _), (5, _)]) (.old rfl rfl <| .old rfl rfl <| .old rfl rfl <| .new rfl <| .nil)
        have hlh9 := hlh8.trans hle9
        clear hst8 hfr8 hk9
        refine hK17 _ _ ?_; clear hK17
        refine rp0 hst9 hfr9 (.cons rfl (ob_move rfl) <| .cons rfl (ob_add rfl rfl ⟨by omega, by omega⟩) <| .cons rfl (ob_assign rfl) <| .nil) ?_
        intro a10 w10 m10 hst10 hle10 hk10
        have hfr10 := hk10.fr (T' := [(1, _), (2, _), (5, _), (6, _)]) (.old rfl rfl <| .old rfl rfl <| .old rfl rfl <| .new rfl <| .nil)
        have hlh10 := hlh9.trans hle10
        clear hst9 hfr9 hk10
        exact ⟨(y + 1, a + (usesM s x19 : Int)), m10, by show t.kids.length - (y + 1) < t.kids.length - y; omega, ⟨hst10, hlh10, hfr10.sub (.cons rfl <| .cons rfl <| .cons rfl <| .cons rfl <| .nil), ⟨by show y + 1 ≤ t.kids.length; omega, by show a + (usesM s x19 : Int) + ((usesKs s (boundR t.kind t.name t.param) (y + 1) (t.kids.drop (y + 1)) : Nat) : Int) + _ = _; omega, by show 0 ≤ a + (usesM s x19 : Int); omega, by show countKs (t.kids.drop (y + 1)) ≤ countKs t.kids; omega⟩⟩⟩
      · try simp only [nq1, nq2, nq3, nq4, nq5, nq6, nq7, nq8, nq9, u8_eq] at hb33
        rw [if_neg (show ¬ (s = uS ∨ ¬ s ∈ boundR t.kind t.name t.param y) by simpa [uS] using hb33)] at ha
        refine wp_skip ?_
        refine hK17 _ _ ?_; clear hK17
        refine rp0 hst8 hfr8 (.cons rfl (ob_move rfl) <| .cons rfl (ob_add rfl rfl ⟨by omega, by omega⟩) <| .cons rfl (ob_assign rfl) <| .nil) ?_
        intro a9 w9 m9 hst9 hle9 hk9
        have hfr9 := hk9.fr (T' := [(5, _), (1, _), (2, _), (6, _)]) (.old rfl rfl <| .old rfl rfl <| .old rfl rfl <| .new rfl <| .nil)
        have hlh9 := hlh8.trans hle9
        clear hst8 hfr8 hk9
        exact ⟨(y + 1, a), m9, by show t.kids.length - (y + 1) < t.kids.length - y; omega, ⟨hst9, hlh9, hfr9.sub (.cons rfl <| .cons rfl <| .cons rfl <| .cons rfl <| .nil), ⟨by show y + 1 ≤ t.kids.length; omega, by show a + ((usesKs s (boundR t.kind t.name t.param) (y + 1) (t.kids.drop (y + 1)) : Nat) : Int) + _ = _; omega, by show 0 ≤ a; omega, by show countKs (t.kids.drop (y + 1)) ≤ countKs t.kids; omega⟩⟩⟩
    · try simp only [nq1, nq2, nq3, nq4, nq5, nq6, nq7, nq8, nq9, u8_eq] at hb20
      have hge : y = t.kids.length := by omega
      rw [List.drop_of_length_le (by omega), usesKs] at ha
      have haa0 : a + usesAs s t.arms = (usesM s t : Int) := by omega
      refine wp_exit ?_
      refine hK12 _ _ ?_; clear hK12
      refine seq_any fun _ hK22 => ?_
      refine seq_any fun _ hK23 => ?_
      refine rp0 hst6 hfr6 (.cons rfl (ob_assign rfl) <| .nil) ?_
      intro a7 w7 m7 hst7 hle7 hk7
      have hfr7 := hk7.fr (T' := [(5, _), (6, _), (1, _), (2, _), (8, _)]) (.old rfl rfl <| .old rfl rfl <| .old rfl rfl <| .old rfl rfl <| .new rfl <| .nil)
      replace h_t := h_t.mono hle7
      replace hkk_t := hkk_t.mono hle7
      replace haa_t := haa_t.mono hle7
      replace hrr_t := hrr_t.mono hle7
      replace hc2 := hc2.mono hle7
      have hlh7 := hlh6.trans hle7
      clear hst6 hfr6 hk7
      refine hK23 _ _ ?_; clear hK23
      refine wp_block ?_
      have hlq24 := hlh7
      refine loop_any (T := [(6, _), (1, _), (2, _)]) (fun (y : Nat × Int) => ([(5, .int .i64 y.2), (8, .int .i64 (y.1 : Int))] : List (Nat × Value))) (fun _ => _) (fun (y : Nat × Int) m => (fun (y : Nat) (b : Int) => (y ≤ t.arms.length) ∧ (b + usesAs s (t.arms.drop y) = (usesM s t : Int)) ∧ (0 ≤ b) ∧ (countAs (t.arms.drop y) ≤ countAs t.arms)) y.1 y.2) (fun y => t.arms.length - y.1) ((0, a)) ⟨hst7, MLe.refl _, hfr7.sub (.cons rfl <| .cons rfl <| .cons rfl <| .cons rfl <| .cons rfl <| .nil), ⟨Nat.zero_le _, by rw [List.drop_zero]; omega, ha0, Nat.le_refl _⟩⟩ fun y a8 w8 m8 hh8 => ?_
      have hst8 := hh8.st; have hle8 := hh8.le; have hfr8 := hh8.fr; have hrel := hh8.rel; clear hh8
      replace h_t := h_t.mono hle8
      replace hkk_t := hkk_t.mono hle8
      replace haa_t := haa_t.mono hle8
      replace hrr_t := hrr_t.mono hle8
      replace hc2 := hc2.mono hle8
      clear hst7 hfr7
      obtain ⟨y, b⟩ := y
      dsimp only at hrel hfr8 hst8
      obtain ⟨hyn, hb_, hb0, hck⟩ := hrel
      have hlh8 := hle8
      refine seq_any fun _ hK25 => ?_
      refine seq_any fun _ hK26 => ?_
      refine rp0 hst8 hfr8 (.cons rfl (ob_move rfl) <| .cons rfl (ob_fieldAddrO (off := 6) rfl Try.underlying33 rfl rfl Try.sizeOf25 rfl) <| .cons rfl (ob_load1 rfl hc2 Try.isAgg25 rfl) <| .cons rfl (ob_len rfl Try.underlying25) <| .cons rfl (ob_lss rfl rfl) <| .nil) ?_
      intro a9 w9 m9 hst9 hle9 hk9
      have hfr9 := hk9.fr (T' := [(5, _), (8, _), (6, _), (1, _), (2, _), (47, _)]) (.old rfl rfl <| .old rfl rfl <| .old rfl rfl <| .old rfl rfl <| .old rfl rfl <| .new rfl <| .nil)
      replace h_t := h_t.mono hle9
      replace hkk_t := hkk_t.mono hle9
      replace haa_t := haa_t.mono hle9
      replace hrr_t := hrr_t.mono hle9
      replace hc2 := hc2.mono hle9
      have hlh9 := hlh8.trans hle9
      clear hst8 hfr8 hk9
      refine hK26 _ _ ?_; clear hK26
      refine cond_any hfr9 rfl rfl (fun hb47 => ?_) (fun hb47 => ?_)
      · try simp only [nq1, nq2, nq3, nq4, nq5, nq6, nq7, nq8, nq9, u8_eq] at hb47
        refine wp_skip ?_
        refine hK25 _ _ ?_; clear hK25
        refine seq_any fun _ hK27 => ?_
        refine wp_block ?_
        refine seq_any fun _ hK28 => ?_
        obtain ⟨p29, vs29, x29, ho29, hd29, hm_x29, ht29, hcv29, hl29, hv29⟩ := haa_t.nth (k := y) (by omega)
        cases ho29
        obtain ⟨oV29, cV29, bs29, rfl, hva29, hbd29⟩ := hv29.open_
        have hbv29 := hva29.big; have hcv29_ := hva29.cap
        obtain ⟨⟨oK29b, cK29b, oA29b, cA29b, oR29b, cR29b, t029b, t129b, t229b, t329b, t429b, t529b, u029b, u129b, u229b, u329b, u429b, u529b⟩, rfl, hon29b, hkk29b, haa29b, hrr29b⟩ := hbd29.open_
        dsimp only at hkk29b haa29b hrr29b
        have hbg29b := hkk29b.big; have hcp29b := hkk29b.cap; have hbh29b := haa29b.big; have hcq29b := haa29b.cap
        rw [hd29, usesAs_cons] at hb_
        rw [hd29, countAs_cons] at hck
        refine rp0 hst9 hfr9 (.cons rfl (ob_move rfl) <| .cons rfl (ob_seql rfl rfl) <| .cons rfl (ob_move rfl) <| .cons rfl (ob_fieldAddrO (off := 6) rfl Try.underlying33 rfl rfl Try.sizeOf25 rfl) <| .cons rfl (ob_load1 rfl hc2 Try.isAgg25 rfl) <| .cons rfl (ob_move rfl) <| .cons rfl (ob_indexAddr (k := y) rfl rfl Try.underlying25 Try.sizeOf40 rfl (by omega)) <| .cons rfl (ob_fieldAddrO (off := 1) rfl Try.underlying40 rfl rfl Try.sizeOf27 rfl) <| .cons rfl (ob_load1 rfl hcv29 Try.isAgg27 rfl) <| .cons rfl (ob_move rfl) <| .cons rfl (ob_callE rfl (.cons rfl <| .cons rfl <| .nil) Try.call15 (fun w m hK => by have hle_ := KC.le hK; have hA := KC.agree hK; have hva29 := hva29.mono hle_; exact in_c hA hva29)) <| .cons rfl (ob_not rfl) <| .cons rfl (ob_or rfl rfl rfl) <| .nil) ?_
        intro a10 w10 m10 hst10 hle10 hk10
        have hfr10 := hk10.fr (T' := [(5, _), (8, _), (6, _), (1, _), (2, _), (62, _)]) (.old rfl rfl <| .old rfl rfl <| .old rfl rfl <| .old rfl rfl <| .old rfl rfl <| .new rfl <| .nil)
        replace h_t := h_t.mono hle10
        replace hkk_t := hkk_t.mono hle10
        replace haa_t := haa_t.mono hle10
        replace hrr_t := hrr_t.mono hle10
        replace hc2 := hc2.mono hle10
        replace hcv29 := hcv29.mono hle10
        replace hv29 := hv29.mono hle10
        replace hva29 := hva29.mono hle10
        replace hbd29 := hbd29.mono hle10
        replace hkk29b := hkk29b.mono hle10
        replace haa29b := haa29b.mono hle10
        replace hrr29b := hrr29b.mono hle10
        have hlh10 := hlh9.trans hle10
        clear hst9 hfr9 hk10
        refine hK28 _ _ ?_; clear hK28
        refine cond_any hfr10 rfl rfl (fun hb62 => ?_) (fun hb62 => ?_)
        · try simp only [nq1, nq2, nq3, nq4, nq5, nq6, nq7, nq8, nq9, u8_eq] at hb62
          rw [if_pos (show s = uS ∨ ¬ s ∈ x29.vars by simpa [uS] using hb62)] at hb_
          have hul2 := usesM_le s x29.body
          refine rp0 hst10 hfr10 (.cons rfl (ob_move rfl) <| .cons rfl (ob_fieldAddrO (off := 6) rfl Try.underlying33 rfl rfl Try.sizeOf25 rfl) <| .cons rfl (ob_load1 rfl hc2 Try.isAgg25 rfl) <| .cons rfl (ob_move rfl) <| .cons rfl (ob_indexAddr (k := y) rfl rfl Try.underlying25 Try.sizeOf40 rfl (by omega)) <| .cons rfl (ob_fieldAddrO (off := 2) rfl Try.underlying40 rfl rfl Try.sizeOf33 rfl) <| .cons rfl (ob_loadS rfl hcv29 Try.isAgg33 Try.sizeOf33 rfl rfl) <| .cons rfl (ob_move rfl) <| .cons rfl (ob_callE rfl (.cons rfl <| .cons rfl <| .nil) Try.call20 (fun w m hK => by have hle_ := KC.le hK; have hA := KC.agree hK; have h_t := h_t.mono hle_; have hkk_t := hkk_t.mono hle_; have haa_t := haa_t.mono hle_; have hrr_t := hrr_t.mono hle_; have hc2 := hc2.mono hle_; have hcv29 := hcv29.mono hle_; have hv29 := hv29.mono hle_; have hva29 := hva29.mono hle_; have hbd29 := hbd29.mono hle_; have hkk29b := hkk29b.mono hle_; have haa29b := haa29b.mono hle_; have hrr29b := hrr29b.mono hle_; exact iha _ (by assumption) hA (by assumption) (by omega))) <| .cons rfl (ob_add rfl rfl ⟨by omega, by omega⟩) <| .cons rfl (ob_assign rfl) <| .nil) ?_
          intro a11 w11 m11 hst11 hle11 hk11
          have hfr11 := hk11.fr (T' := [(8, _), (6, _), (1, _), (2, _), (5, _)]) (.old rfl rfl <| .old rfl rfl <| .old rfl rfl <| .old rfl rfl <| .new rfl <| .nil)
          have hlh11 := hlh10.trans hle11
          clear hst10 hfr10 hk11
          refine hK27 _ _ ?_; clear hK27
          refine rp0 hst11 hfr11 (.cons rfl (ob_move rfl) <| .cons rfl (ob_add rfl rfl ⟨by omega, by omega⟩) <| .cons rfl (ob_assign rfl) <| .nil) ?_
          intro a12 w12 m12 hst12 hle12 hk12
          have hfr12 := hk12.fr (T' := [(6, _), (1, _), (2, _), (5, _), (8, _)]) (.old rfl rfl <| .old rfl rfl <| .old rfl rfl <| .old rfl rfl <| .new rfl <| .nil)
          have hlh12 := hlh11.trans hle12
          clear hst11 hfr11 hk12
          exact ⟨(y + 1, b + (usesM s x29.body : Int)), m12, by show t.arms.length - (y + 1) < t.arms.length - y; omega, ⟨hst12, hlh12, hfr12.sub (.cons rfl <| .cons rfl <| .cons rfl <| .cons rfl <| .cons rfl <| .nil), ⟨by show y + 1 ≤ t.arms.length; omega, by show b + (usesM s x29.body : Int) + ((usesAs s (t.arms.drop (y + 1)) : Nat) : Int) = _; omega, by show 0 ≤ b + (usesM s x29.body : Int); omega, by show countAs (t.arms.drop (y + 1)) ≤ countAs t.arms; omega⟩⟩⟩
        · try simp only [nq1, nq2, nq3, nq4, nq5, nq6, nq7, nq8, nq9, u8_eq] at hb62
          rw [if_neg (show ¬ (s = uS ∨ ¬ s ∈ x29.vars) by simpa [uS] using hb62)] at hb_
          refine wp_skip ?_
          refine hK27 _ _ ?_; clear hK27
          refine rp0 hst10 hfr10 (.cons rfl (ob_move rfl) <| .cons rfl (ob_add rfl rfl ⟨by omega, by omega⟩) <| .cons rfl (ob_assign rfl) <| .nil) ?_
          intro a11 w11 m11 hst11 hle11 hk11
          have hfr11 := hk11.fr (T' := [(5, _), (6, _), (1, _), (2, _), (8, _)]) (.old rfl rfl <| .old rfl rfl <| .old rfl rfl <| .old rfl rfl <| .new rfl <| .nil)
          have hlh11 := hlh10.trans hle11
          clear hst10 hfr10 hk11
          exact ⟨(y + 1, b), m11, by show t.arms.length - (y + 1) < t.arms.length - y; omega, ⟨hst11, hlh11, hfr11.sub (.cons rfl <| .cons rfl <| .cons rfl <| .cons rfl <| .cons rfl <| .nil), ⟨by show y + 1 ≤ t.arms.length; omega, by show b + ((usesAs s (t.arms.drop (y + 1)) : Nat) : Int) = _; omega, by show 0 ≤ b; omega, by show countAs (t.arms.drop (y + 1)) ≤ countAs t.arms; omega⟩⟩⟩
      · try simp only [nq1, nq2, nq3, nq4, nq5, nq6, nq7, nq8, nq9, u8_eq] at hb47
        have hge : y = t.arms.length := by omega
        rw [List.drop_of_length_le (by omega), usesAs] at hb_
        refine wp_exit ?_
        refine hK22 _ _ ?_; clear hK22
        refine seq_any fun _ hK30 => ?_
        refine rp0 hst9 hfr9 (.cons rfl (ob_move rfl) <| .cons rfl (ob_assign rfl) <| .nil) ?_
        intro a10 w10 m10 hst10 hle10 hk10
        have hfr10 := hk10.fr (T' := [(5, _), (8, _), (6, _), (4, _)]) (.old rfl rfl <| .old rfl rfl <| .old rfl rfl <| .new rfl <| .nil)
        have hlh10 := hlh9.trans hle10
        clear hst9 hfr9 hk10
        refine hK30 _ _ ?_; clear hK30
        refine wp_ret ?_
        repeat (with_reducible first | refine then_ret ?_ | refine block_ret ?_)
        exact fn_ret hst10 hfr10 rfl (.tmp rfl <| .nil) (by refine congrArg (Value.int _) ?_; omega)
theorem uses_c (t : Tm) : uses_G t := Tm.rec_ (p := uses_G) (fun t ihk iha => uses_s ihk iha) t

abbrev clean_G (t : Tm) : Prop := ∀ {w : World} {m : Mem} {vs_t : List Value} (hA : Agree w m) (h_t : TmR m t vs_t) (hb : countM t ≤ 1000000000), FnV Try.prog 30 #[.agg vs_t.toArray] w m (fun _ m v => (MP.tm (cleanT t)).p m v)
set_option maxHeartbeats 1600000 in
theorem clean_s {t : Tm} (ihk : ∀ u ∈ t.kids, clean_G u) (iha : ∀ a ∈ t.arms, clean_G a.body) {w : World} {m : Mem} {vs_t : List Value} (hA : Agree w m) (h_t : TmR m t vs_t) (hb : countM t ≤ 1000000000) : FnV Try.prog 30 #[.agg vs_t.toArray] w m (fun _ m v => (MP.tm (cleanT t)).p m v) := by
  obtain ⟨⟨oK_t, cK_t, oA_t, cA_t, oR_t, cR_t, t0_t, t1_t, t2_t, t3_t, t4_t, t5_t, u0_t, u1_t, u2_t, u3_t, u4_t, u5_t⟩, rfl, hon_t, hkk_t, haa_t, hrr_t⟩ := h_t.open_
  dsimp only at hkk_t haa_t hrr_t
  have hbg_t := hkk_t.big; have hcp_t := hkk_t.cap; have hbh_t := haa_t.big; have hcq_t := haa_t.cap
  refine fn_enter (vs := [_]) Try.func30 rfl rfl rfl fun a0 hfr0 => ?_
  have hst0 := st_enter hA (loc_nil [] _ w m)
  have hM : MLe m m := MLe.refl m
  have hce := countM_eq t
  have hkl_ := countKs_len t.kids
  have hal_ := countAs_len t.arms
  refine seq_any fun _ hK1 => ?_
  replace hst0 := hst0.more (r := .free) trivial List.nodup_nil (by simp [Res.blocks])
  refine ra0 (tch := [(1, 0, (fun v => .blk v _))]) hst0 hfr0 (.cons rfl (ob_box rfl rfl) <| .consT rfl rfl (fun _ => rfl) rfl (ob_allocL Try.zeroValue33 rfl) <| .nil) ?_
  intro a1 w1 m1 hst1 hle1 hk1
  have hfr1 := hk1.fr (T' := []) (.nil)
  obtain ⟨g2, e2, hc1⟩ := hk1.ex 1 rfl
  replace hfr1 := hfr1.cons e2
  obtain ⟨g3, e3, _⟩ := hk1.ex 2 rfl
  replace hfr1 := hfr1.cons e3
  replace hst1 := hst1.fin (L' := [_]) (.cons e3 <| .nil)
  replace h_t := h_t.mono hle1
  replace hkk_t := hkk_t.mono hle1
  replace haa_t := haa_t.mono hle1
  replace hrr_t := hrr_t.mono hle1
  clear hst0 hfr0 hk1
  refine hK1 _ _ ?_; clear hK1
  refine seq_any fun _ hK4 => ?_
  replace hst1 := hst1.more (r := .free) trivial List.nodup_nil (by simp [Res.blocks])
  refine ra0 (tch := [(1, 1, (fun v => .blk v _)), (2, 1, (fun v => .blk v _))]) hst1 hfr1 (.cons rfl (ob_loadS' rfl hc1 Try.isAgg33 Try.sizeOf33 rfl rfl) <| .consT rfl rfl (fun _ => rfl) rfl (ob_allocL Try.zeroValue33 rfl) <| .consT rfl rfl (fun _ => rfl) rfl (ob_imgT 3 rfl rfl rfl fun y3 => ob_storeF rfl rfl rfl rfl rfl Try.sizeOf33 rfl rfl h_t.one) <| .nil) ?_
  intro a2 w2 m2 hst2 hle2 hk2
  have hfr2 := hk2.fr (T' := [(1, _), (2, _)]) (.old rfl rfl <| .old rfl rfl <| .nil)
  obtain ⟨gB, e5, _⟩ := hk2.ex 3 rfl
  replace hfr2 := hfr2.cons e5
  replace hst2 := hst2.fin (L' := [_, _]) (.cons e5 <| .cons e5 <| .nil)
  try simp only [List.take_succ_cons, List.take_zero, List.drop_succ_cons, List.drop_zero, List.cons_append, List.nil_append, List.append_nil, List.length_cons, List.length_nil, Nat.zero_add, Nat.reduceAdd] at hst2
  replace hkk_t := hkk_t.mono hle2
  replace haa_t := haa_t.mono hle2
  replace hrr_t := hrr_t.mono hle2
  replace hc1 := hc1.mono hle2
  clear hst1 hfr1 hk2
  refine hK4 _ _ ?_; clear hK4
  refine seq_any fun _ hK6 => ?_
  refine ra0 (tch := [(1, 1, (fun _ => .blk _ _))]) hst2 hfr2 (.cons rfl (ob_fieldAddrO (off := 5) rfl Try.underlying33 rfl rfl Try.sizeOf24 rfl) <| .consT rfl rfl (fun _ => rfl) rfl (ob_store rfl rfl rfl Try.sizeOf24 rfl rfl rfl) <| .nil) ?_
  intro a3 w3 m3 hst3 hle3 hk3
  have hfr3 := hk3.fr (T' := [(1, _), (2, _), (3, _)]) (.old rfl rfl <| .old rfl rfl <| .old rfl rfl <| .nil)
  replace hst3 := hst3.fin (L' := [_, _]) (.cons rfl <| .nil)
  try simp only [List.take_succ_cons, List.take_zero, List.drop_succ_cons, List.drop_zero, List.cons_append, List.nil_append, List.append_nil, List.length_cons, List.length_nil, Nat.zero_add, Nat.reduceAdd] at hst3
  replace hkk_t := hkk_t.mono hle3
  replace haa_t := haa_t.mono hle3
  replace hrr_t := hrr_t.mono hle3
  replace hc1 := hc1.mono hle3
  clear hst2 hfr2 hk3
  refine hK6 _ _ ?_; clear hK6
  refine seq_any fun _ hK7 => ?_
  refine ra0 (tch := [(1, 1, (fun _ => .blk _ _))]) hst3 hfr3 (.cons rfl (ob_fieldAddrO (off := 6) rfl Try.underlying33 rfl rfl Try.sizeOf25 rfl) <| .consT rfl rfl (fun _ => rfl) rfl (ob_store rfl rfl rfl Try.sizeOf25 rfl rfl rfl) <| .nil) ?_
  intro a4 w4 m4 hst4 hle4 hk4
  have hfr4 := hk4.fr (T' := [(1, _), (2, _), (3, _)]) (.old rfl rfl <| .old rfl rfl <| .old rfl rfl <| .nil)
  replace hst4 := hst4.fin (L' := [_, _]) (.cons rfl <| .nil)
  try simp only [List.take_succ_cons, List.take_zero, List.drop_succ_cons, List.drop_zero, List.cons_append, List.nil_append, List.append_nil, List.length_cons, List.length_nil, Nat.zero_add, Nat.reduceAdd] at hst4
  replace hkk_t := hkk_t.mono hle4
  replace haa_t := haa_t.mono hle4
  replace hrr_t := hrr_t.mono hle4
  replace hc1 := hc1.mono hle4
  clear hst3 hfr3 hk4
  have hst4 := hst4.more (r := .rowx (.slice none 0 0) 0 21 33 (MP.reads (fun m vs t => TmR m t vs) 21 [])) rowx_new List.nodup_nil (by simp [Res.blocks, rowBlock])
  have hsl_K : Tms m4 none ([] : List Tm).length 0 ([] : List Tm) := Sl.empty
  have hst4 := hst4.more (r := .rowx (.slice none 0 0) 0 23 40 (MP.reads (fun m vs t => ArR m t vs) 23 [])) rowx_new List.nodup_nil (by simp [Res.blocks, rowBlock])
  have hsl_A : Ars m4 none ([] : List Ar).length 0 ([] : List Ar) := Sl.empty
  refine hK7 _ _ ?_; clear hK7
  refine join_any (T := [(1, _), (2, _), (3, _)]) (fun (y : Str) => ([] : List (Nat × Value))) (fun y => [_, .blk (.pointer (some ⟨gB, 0, none⟩)) (.cells (tmV ⟨t.kind, t.at_, t.name, y, t.n, [], [], t.row⟩ (⟨none, 0, none, 0, oR_t, cR_t, t0_t, t1_t, t2_t, t3_t, t4_t, t5_t, u0_t, u1_t, u2_t, u3_t, u4_t, u5_t⟩ : TmY)).toArray 33), _, _]) (fun (y : Str) m => (fun (pp : Str) => (pp = cleanP t)) y) ((t.param)) ⟨hst4, MLe.refl _, hfr4.sub (.cons rfl <| .cons rfl <| .cons rfl <| .nil), trivial⟩ (fun y a5 w5 m5 hh5 => ?_) (fun K8 hj8 => ?_)
  · have hst5 := hh5.st; have hle5 := hh5.le; have hfr5 := hh5.fr; have hrel := hh5.rel; clear hh5
    replace hkk_t := hkk_t.mono hle5
    replace haa_t := haa_t.mono hle5
    replace hrr_t := hrr_t.mono hle5
    replace hc1 := hc1.mono hle5
    replace hsl_K := hsl_K.mono hle5
    replace hsl_A := hsl_A.mono hle5
    clear hst4 hfr4
    obtain ⟨pp, rfl⟩ : ∃ z, z = y := ⟨_, rfl⟩
    try dsimp only at hrel
    try dsimp only at hfr5
    try dsimp only at hst5
    have hpp := hrel
    subst hpp
    refine join_any (T := [(1, _), (2, _), (3, _)]) (fun (y : Int) => ([] : List (Nat × Value))) (fun y => [_, .blk (.pointer (some ⟨gB, 0, none⟩)) (.cells (tmV ⟨t.kind, t.at_, t.name, (cleanP t), y, [], [], t.row⟩ (⟨none, 0, none, 0, oR_t, cR_t, t0_t, t1_t, t2_t, t3_t, t4_t, t5_t, u0_t, u1_t, u2_t, u3_t, u4_t, u5_t⟩ : TmY)).toArray 33), _, _]) (fun (y : Int) m => (fun (nn : Int) => (nn = cleanN t)) y) ((t.n)) ⟨hst5, MLe.refl _, hfr5.sub (.cons rfl <| .cons rfl <| .cons rfl <| .nil), trivial⟩ (fun y a6 w6 m6 hh6 => ?_) (fun K9 hj9 => ?_)
    · have hst6 := hh6.st; have hle6 := hh6.le; have hfr6 := hh6.fr; have hrel := hh6.rel; clear hh6
      replace hkk_t := hkk_t.mono hle6
      replace haa_t := haa_t.mono hle6
      replace hrr_t := hrr_t.mono hle6
      replace hc1 := hc1.mono hle6
      replace hsl_K := hsl_K.mono hle6
      replace hsl_A := hsl_A.mono hle6
      clear hst5 hfr5
      obtain ⟨nn, rfl⟩ : ∃ z, z = y := ⟨_, rfl⟩
      try dsimp only at hrel
      try dsimp only at hfr6
      try dsimp only at hst6
      have hnn := hrel
      subst hnn
      refine join_any (T := [(1, _), (2, _), (3, _)]) (fun (y : Str) => ([] : List (Nat × Value))) (fun y => [_, .blk (.pointer (some ⟨gB, 0, none⟩)) (.cells (tmV ⟨t.kind, t.at_, y, (cleanP t), (cleanN t), [], [], t.row⟩ (⟨none, 0, none, 0, oR_t, cR_t, t0_t, t1_t, t2_t, t3_t, t4_t, t5_t, u0_t, u1_t, u2_t, u3_t, u4_t, u5_t⟩ : TmY)).toArray 33), _, _]) (fun (y : Str) m => (fun (ss : Str) => (ss = cleanS t)) y) ((t.name)) ⟨hst6, MLe.refl _, hfr6.sub (.cons rfl <| .cons rfl <| .cons rfl <| .nil), trivial⟩ (fun y a7 w7 m7 hh7 => ?_) (fun K10 hj10 => ?_)
      · have hst7 := hh7.st; have hle7 := hh7.le; have hfr7 := hh7.fr; have hrel := hh7.rel; clear hh7
        replace hkk_t := hkk_t.mono hle7
        replace haa_t := haa_t.mono hle7
        replace hrr_t := hrr_t.mono hle7
        replace hc1 := hc1.mono hle7
        replace hsl_K := hsl_K.mono hle7
        replace hsl_A := hsl_A.mono hle7
        clear hst6 hfr6
        obtain ⟨ss, rfl⟩ : ∃ z, z = y := ⟨_, rfl⟩
        try dsimp only at hrel
        try dsimp only at hfr7
        try dsimp only at hst7
        have hss := hrel
        subst hss
        refine seq_any fun _ hK11 => ?_
        refine seq_any fun _ hK12 => ?_
        refine rp0 hst7 hfr7 (.cons rfl (ob_assign rfl) <| .nil) ?_
        intro a8 w8 m8 hst8 hle8 hk8
        have hfr8 := hk8.fr (T' := [(1, _), (2, _), (3, _), (4, _)]) (.old rfl rfl <| .old rfl rfl <| .old rfl rfl <| .new rfl <| .nil)
        replace hkk_t := hkk_t.mono hle8
        replace haa_t := haa_t.mono hle8
        replace hrr_t := hrr_t.mono hle8
        replace hc1 := hc1.mono hle8
        replace hsl_K := hsl_K.mono hle8
        replace hsl_A := hsl_A.mono hle8
        clear hst7 hfr7 hk8
        refine hK12 _ _ ?_; clear hK12
        refine wp_block ?_
        refine loop_any (T := [(1, _), (2, _), (3, _)]) (fun (y : Nat × Option Addr × Nat × List Tm) => ([(4, .int .i64 (y.1 : Int))] : List (Nat × Value))) (fun y => [_, .blk (.pointer (some ⟨gB, 0, none⟩)) (.cells (tmV ⟨t.kind, t.at_, (cleanS t), (cleanP t), (cleanN t), y.2.2.2, [], t.row⟩ (⟨y.2.1, y.2.2.1, none, 0, oR_t, cR_t, t0_t, t1_t, t2_t, t3_t, t4_t, t5_t, u0_t, u1_t, u2_t, u3_t, u4_t, u5_t⟩ : TmY)).toArray 33), .rowx (nz (.slice y.2.1 y.2.2.2.length y.2.2.1)) y.2.2.2.length 21 33 (MP.reads (fun m vs t => TmR m t vs) 21 y.2.2.2), _]) (fun (y : Nat × Option Addr × Nat × List Tm) m => (fun (y : Nat) (klo : Option Addr) (klp : Nat) (kl : List Tm) => (y ≤ t.kids.length) ∧ (Tms m klo kl.length klp kl) ∧ (kl = (t.kids.take y).map cleanT) ∧ (countKs (t.kids.drop y) ≤ countKs t.kids)) y.1 y.2.1 y.2.2.1 y.2.2.2) (fun y => t.kids.length - y.1) ((0, none, 0, ([] : List Tm))) ⟨hst8, MLe.refl _, hfr8.sub (.cons rfl <| .cons rfl <| .cons rfl <| .cons rfl <| .nil), ⟨Nat.zero_le _, hsl_K, rfl, Nat.le_refl _⟩⟩ fun y a9 w9 m9 hh9 => ?_
        have hst9 := hh9.st; have hle9 := hh9.le; have hfr9 := hh9.fr; have hrel := hh9.rel; clear hh9
        replace hkk_t := hkk_t.mono hle9
        replace haa_t := haa_t.mono hle9
        replace hrr_t := hrr_t.mono hle9
        replace hc1 := hc1.mono hle9
        replace hsl_A := hsl_A.mono hle9
        clear hst8 hfr8
        obtain ⟨y, klo, klp, kl⟩ := y
        dsimp only at hrel hfr9 hst9
        obtain ⟨hyn, hsl_kl, hlen_kl, hck⟩ := hrel
        have hlh9 := hle9
        refine seq_any fun _ hK14 => ?_
        refine seq_any fun _ hK15 => ?_
        refine rp0 hst9 hfr9 (.cons rfl (ob_move rfl) <| .cons rfl (ob_fieldAddrO (off := 5) rfl Try.underlying33 rfl rfl Try.sizeOf24 rfl) <| .cons rfl (ob_load1 rfl hc1 Try.isAgg24 rfl) <| .cons rfl (ob_len rfl Try.underlying24) <| .cons rfl (ob_lss rfl rfl) <| .nil) ?_
        intro a10 w10 m10 hst10 hle10 hk10
        have hfr10 := hk10.fr (T' := [(4, _), (1, _), (2, _), (3, _), (56, _)]) (.old rfl rfl <| .old rfl rfl <| .old rfl rfl <| .old rfl rfl <| .new rfl <| .nil)
        replace hkk_t := hkk_t.mono hle10
        replace haa_t := haa_t.mono hle10
        replace hrr_t := hrr_t.mono hle10
        replace hc1 := hc1.mono hle10
        replace hsl_A := hsl_A.mono hle10
        replace hsl_kl := hsl_kl.mono hle10
        have hlh10 := hlh9.trans hle10
        clear hst9 hfr9 hk10
        refine hK15 _ _ ?_; clear hK15
        refine cond_any hfr10 rfl rfl (fun hb56 => ?_) (fun hb56 => ?_)
        · try simp only [nq1, nq2, nq3, nq4, nq5, nq6, nq7, nq8, nq9, u8_eq] at hb56
          refine wp_skip ?_
          refine hK14 _ _ ?_; clear hK14
          refine seq_any fun _ hK16 => ?_
          refine wp_block ?_
          obtain ⟨p17, vs17, x17, ho17, hd17, hm_x17, ht17, hcv17, hl17, hv17⟩ := hkk_t.nth (k := y) (by omega)
          cases ho17
          obtain ⟨⟨oK17, cK17, oA17, cA17, oR17, cR17, t017, t117, t217, t317, t417, t517, u017, u117, u217, u317, u417, u517⟩, rfl, hon17, hkk17, haa17, hrr17⟩ := hv17.open_
          dsimp only at hkk17 haa17 hrr17
          have hbg17 := hkk17.big; have hcp17 := hkk17.cap; have hbh17 := haa17.big; have hcq17 := haa17.cap
          rw [hd17, countKs] at hck
          have hkll : kl.length ≤ t.kids.length := by rw [hlen_kl]; simp; omega
          refine region_any (tch := [(9, 2, (fun v => .rowx (nz v) _ _ _ _)), (11, 1, (fun u => .blk _ (.cells (_ ++ [u] ++ _).toArray _)))]) (fun _ => mixed) hst10 hfr10 (by kernel_rfl) (by kernel_rfl) (by kernel_rfl) (.cons rfl (ob_fieldAddrO (off := 5) rfl Try.underlying33 rfl rfl Try.sizeOf24 rfl) <| .cons rfl (ob_loadL (j := 1) rfl rfl Try.isAgg24 rfl) <| .cons rfl (ob_fieldAddrO (off := 5) rfl Try.underlying33 rfl rfl Try.sizeOf24 rfl) <| .cons rfl (ob_load1 rfl hc1 Try.isAgg24 rfl) <| .cons rfl (ob_move rfl) <| .cons rfl (ob_indexAddr (k := y) rfl rfl Try.underlying24 Try.sizeOf33 rfl (by omega)) <| .cons rfl (ob_loadS' rfl hcv17 Try.isAgg33 Try.sizeOf33 rfl rfl) <| .cons rfl (ob_call (φ := MP.tm (cleanT x17)) rfl (.cons rfl <| .nil) Try.call30 (fun w m hK => by have hle_ := KC.le hK; have hA := KC.agree hK; have hv17 := hv17.mono hle_; exact FnG.mono (ihk _ hm_x17 hA hv17 (by omega)) fun _ _ _ _ h => h)) <| .cons rfl (ob_imgI 66 rfl rfl rfl fun y66 => ob_buildSlice1 rfl Try.underlying24 Try.sizeOf33 Try.zeroValue33 rfl rfl rfl rfl) <| .consT rfl rfl (fun _ => rfl) rfl (ob_imgT 67 rfl rfl rfl fun y67 => ob_appendX (size := 21) (bytes := 312) (l := kl) (l' := [cleanT x17]) rfl rfl (fun _ => by first | exact .inl rfl | exact .inr (.inl rfl)) Try.underlying24 Try.type33 rfl rfl rfl rfl (fun w m hK => Sl.one (R := fun m vs t => TmR m t vs) hK.2.2 rfl hK.2.1) rfl (by decide) (by simp only [maxLen]; omega) (by omega)) <| .cons rfl (ob_fieldAddrO (off := 5) rfl Try.underlying33 rfl rfl Try.sizeOf24 rfl) <| .consT rfl rfl (fun _ => rfl) rfl (ob_imgT 68 rfl rfl rfl fun y68 => ob_storeV rfl rfl rfl rfl rfl Try.sizeOf24 rfl rfl rfl) <| .nil) ?_
          intro a11 w11 m11 hst11 hle11 hk11
          have hfr11 := hk11.fr (T' := [(4, _), (1, _), (2, _), (3, _)]) (.old rfl rfl <| .old rfl rfl <| .old rfl rfl <| .old rfl rfl <| .nil)
          obtain ⟨⟨K_18o, K_18p⟩, e19, hsl_K_18⟩ := hk11.ex 68 rfl
          replace hst11 := hst11.fin (L' := [_, _, _, _]) (.cons e19 <| .cons e19 <| .nil)
          try simp only [List.take_succ_cons, List.take_zero, List.drop_succ_cons, List.drop_zero, List.cons_append, List.nil_append, List.append_nil, List.length_cons, List.length_nil, Nat.zero_add, Nat.reduceAdd] at hst11
          have hlh11 := hlh10.trans hle11
          clear hst10 hfr10 hk11
          replace hsl_K_18 : Tms m11 K_18o (kl ++ [cleanT x17]).length K_18p (kl ++ [cleanT x17]) := hsl_K_18
          refine hK16 _ _ ?_; clear hK16
          refine rp0 hst11 hfr11 (.cons rfl (ob_move rfl) <| .cons rfl (ob_add rfl rfl ⟨by omega, by omega⟩) <| .cons rfl (ob_assign rfl) <| .nil) ?_
          intro a12 w12 m12 hst12 hle12 hk12
          have hfr12 := hk12.fr (T' := [(1, _), (2, _), (3, _), (4, _)]) (.old rfl rfl <| .old rfl rfl <| .old rfl rfl <| .new rfl <| .nil)
          replace hsl_K_18 := hsl_K_18.mono hle12
          have hlh12 := hlh11.trans hle12
          clear hst11 hfr11 hk12
          exact ⟨(y + 1, K_18o, K_18p, (kl ++ [cleanT x17])), m12, by show t.kids.length - (y + 1) < t.kids.length - y; omega, ⟨hst12, hlh12, hfr12.sub (.cons rfl <| .cons rfl <| .cons rfl <| .cons rfl <| .nil), ⟨by show y + 1 ≤ t.kids.length; omega, hsl_K_18, by rw [ht17, List.map_append, ← hlen_kl]; rfl, by show countKs (t.kids.drop (y + 1)) ≤ countKs t.kids; omega⟩⟩⟩
        · try simp only [nq1, nq2, nq3, nq4, nq5, nq6, nq7, nq8, nq9, u8_eq] at hb56
          have hge : y = t.kids.length := by omega
          rw [List.take_of_length_le (by omega)] at hlen_kl
          refine wp_exit ?_
          refine hK11 _ _ ?_; clear hK11
          refine seq_any fun _ hK20 => ?_
          refine seq_any fun _ hK21 => ?_
          refine rp0 hst10 hfr10 (.cons rfl (ob_assign rfl) <| .nil) ?_
          intro a11 w11 m11 hst11 hle11 hk11
          have hfr11 := hk11.fr (T' := [(4, _), (1, _), (2, _), (3, _), (5, _)]) (.old rfl rfl <| .old rfl rfl <| .old rfl rfl <| .old rfl rfl <| .new rfl <| .nil)
          replace haa_t := haa_t.mono hle11
          replace hrr_t := hrr_t.mono hle11
          replace hc1 := hc1.mono hle11
          replace hsl_A := hsl_A.mono hle11
          replace hsl_kl := hsl_kl.mono hle11
          have hlh11 := hlh10.trans hle11
          clear hst10 hfr10 hk11
          refine hK21 _ _ ?_; clear hK21
          refine wp_block ?_
          have hlq22 := hlh11
          refine loop_any (T := [(4, _), (1, _), (2, _), (3, _)]) (fun (y : Nat × Option Addr × Nat × List Ar) => ([(5, .int .i64 (y.1 : Int))] : List (Nat × Value))) (fun y => [_, .blk (.pointer (some ⟨gB, 0, none⟩)) (.cells (tmV ⟨t.kind, t.at_, (cleanS t), (cleanP t), (cleanN t), kl, y.2.2.2, t.row⟩ (⟨klo, klp, y.2.1, y.2.2.1, oR_t, cR_t, t0_t, t1_t, t2_t, t3_t, t4_t, t5_t, u0_t, u1_t, u2_t, u3_t, u4_t, u5_t⟩ : TmY)).toArray 33), _, .rowx (nz (.slice y.2.1 y.2.2.2.length y.2.2.1)) y.2.2.2.length 23 40 (MP.reads (fun m vs t => ArR m t vs) 23 y.2.2.2)]) (fun (y : Nat × Option Addr × Nat × List Ar) m => (fun (y : Nat) (alo : Option Addr) (alp : Nat) (al : List Ar) => (y ≤ t.arms.length) ∧ (Ars m alo al.length alp al) ∧ (al = (t.arms.take y).map cleanA) ∧ (countAs (t.arms.drop y) ≤ countAs t.arms)) y.1 y.2.1 y.2.2.1 y.2.2.2) (fun y => t.arms.length - y.1) ((0, none, 0, ([] : List Ar))) ⟨hst11, MLe.refl _, hfr11.sub (.cons rfl <| .cons rfl <| .cons rfl <| .cons rfl <| .cons rfl <| .nil), ⟨Nat.zero_le _, hsl_A, rfl, Nat.le_refl _⟩⟩ fun y a12 w12 m12 hh12 => ?_
          have hst12 := hh12.st; have hle12 := hh12.le; have hfr12 := hh12.fr; have hrel := hh12.rel; clear hh12
          replace haa_t := haa_t.mono hle12
          replace hrr_t := hrr_t.mono hle12
          replace hc1 := hc1.mono hle12
          replace hsl_kl := hsl_kl.mono hle12
          clear hst11 hfr11
          obtain ⟨y, alo, alp, al⟩ := y
          dsimp only at hrel hfr12 hst12
          obtain ⟨hyn, hsl_al, hlen_al, hck⟩ := hrel
          have hlh12 := hle12
          refine seq_any fun _ hK23 => ?_
          refine seq_any fun _ hK24 => ?_
          refine rp0 hst12 hfr12 (.cons rfl (ob_move rfl) <| .cons rfl (ob_fieldAddrO (off := 6) rfl Try.underlying33 rfl rfl Try.sizeOf25 rfl) <| .cons rfl (ob_load1 rfl hc1 Try.isAgg25 rfl) <| .cons rfl (ob_len rfl Try.underlying25) <| .cons rfl (ob_lss rfl rfl) <| .nil) ?_
          intro a13 w13 m13 hst13 hle13 hk13
          have hfr13 := hk13.fr (T' := [(5, _), (4, _), (1, _), (2, _), (3, _), (74, _)]) (.old rfl rfl <| .old rfl rfl <| .old rfl rfl <| .old rfl rfl <| .old rfl rfl <| .new rfl <| .nil)
          replace haa_t := haa_t.mono hle13
          replace hrr_t := hrr_t.mono hle13
          replace hc1 := hc1.mono hle13
          replace hsl_kl := hsl_kl.mono hle13
          replace hsl_al := hsl_al.mono hle13
          have hlh13 := hlh12.trans hle13
          clear hst12 hfr12 hk13
          refine hK24 _ _ ?_; clear hK24
          refine cond_any hfr13 rfl rfl (fun hb74 => ?_) (fun hb74 => ?_)
          · try simp only [nq1, nq2, nq3, nq4, nq5, nq6, nq7, nq8, nq9, u8_eq] at hb74
            refine wp_skip ?_
            refine hK23 _ _ ?_; clear hK23
            refine seq_any fun _ hK25 => ?_
            refine wp_block ?_
            refine seq_any fun _ hK26 => ?_
            obtain ⟨p27, vs27, x27, ho27, hd27, hm_x27, ht27, hcv27, hl27, hv27⟩ := haa_t.nth (k := y) (by omega)
            cases ho27
            obtain ⟨oV27, cV27, bs27, rfl, hva27, hbd27⟩ := hv27.open_
            have hbv27 := hva27.big; have hcv27_ := hva27.cap
            obtain ⟨⟨oK27b, cK27b, oA27b, cA27b, oR27b, cR27b, t027b, t127b, t227b, t327b, t427b, t527b, u027b, u127b, u227b, u327b, u427b, u527b⟩, rfl, hon27b, hkk27b, haa27b, hrr27b⟩ := hbd27.open_
            dsimp only at hkk27b haa27b hrr27b
            have hbg27b := hkk27b.big; have hcp27b := hkk27b.cap; have hbh27b := haa27b.big; have hcq27b := haa27b.cap
            rw [hd27, countAs_cons] at hck
            have hall : al.length ≤ t.arms.length := by rw [hlen_al]; simp; omega
            replace hst13 := hst13.more (r := .free) trivial List.nodup_nil (by simp [Res.blocks])
            refine ra0 (tch := [(5, 4, (fun v => .blk v _)), (6, 4, (fun v => .blk v _))]) hst13 hfr13 (.cons rfl (ob_fieldAddrO (off := 6) rfl Try.underlying33 rfl rfl Try.sizeOf25 rfl) <| .cons rfl (ob_load1 rfl hc1 Try.isAgg25 rfl) <| .cons rfl (ob_move rfl) <| .cons rfl (ob_indexAddr (k := y) rfl rfl Try.underlying25 Try.sizeOf40 rfl (by omega)) <| .cons rfl (ob_loadS' rfl hcv27 Try.isAgg40 Try.sizeOf40 rfl rfl) <| .consT rfl rfl (fun _ => rfl) rfl (ob_allocL Try.zeroValue40 rfl) <| .consT rfl rfl (fun _ => rfl) rfl (ob_imgT 6 rfl rfl rfl fun y6 => ob_storeF rfl rfl rfl rfl rfl Try.sizeOf40 rfl rfl hv27.one) <| .nil) ?_
            intro a14 w14 m14 hst14 hle14 hk14
            have hfr14 := hk14.fr (T' := [(5, _), (4, _), (1, _), (2, _), (3, _)]) (.old rfl rfl <| .old rfl rfl <| .old rfl rfl <| .old rfl rfl <| .old rfl rfl <| .nil)
            obtain ⟨g28, e28, _⟩ := hk14.ex 6 rfl
            replace hfr14 := hfr14.cons e28
            replace hst14 := hst14.fin (L' := [_, _, _, _, _]) (.cons e28 <| .cons e28 <| .nil)
            try simp only [List.take_succ_cons, List.take_zero, List.drop_succ_cons, List.drop_zero, List.cons_append, List.nil_append, List.append_nil, List.length_cons, List.length_nil, Nat.zero_add, Nat.reduceAdd] at hst14
            replace hva27 := hva27.mono hle14
            replace hbd27 := hbd27.mono hle14
            have hlh14 := hlh13.trans hle14
            clear hst13 hfr13 hk14
            refine hK26 _ _ ?_; clear hK26
            refine seq_any fun _ hK29 => ?_
            refine ra0 (tch := [(4, 4, (fun _ => .blkx _ _ _))]) hst14 hfr14 (.cons rfl (ob_fieldAddrO (off := 2) rfl Try.underlying40 rfl rfl Try.sizeOf33 rfl) <| .cons rfl (ob_loadLS (j := 4) rfl rfl Try.isAgg33 Try.sizeOf33 rfl rfl) <| .cons rfl (ob_call (φ := MP.tm (cleanT x27.body)) rfl (.cons rfl <| .nil) Try.call30 (fun w m hK => by have hle_ := KC.le hK; have hA := KC.agree hK; have hbd27 := hbd27.mono hle_; exact FnG.mono (iha _ hm_x27 hA hbd27 (by omega)) fun _ _ _ _ h => h)) <| .cons rfl (ob_fieldAddrO (off := 2) rfl Try.underlying40 rfl rfl Try.sizeOf33 rfl) <| .consT rfl rfl (fun _ => rfl) rfl (ob_imgTX 84 rfl rfl rfl fun y84 => ob_storeK rfl rfl rfl Try.sizeOf33 rfl rfl (fun w m hK => hK.2.one)) <| .nil) ?_
            intro a15 w15 m15 hst15 hle15 hk15
            have hfr15 := hk15.fr (T' := [(5, _), (4, _), (1, _), (2, _), (3, _), (6, _)]) (.old rfl rfl <| .old rfl rfl <| .old rfl rfl <| .old rfl rfl <| .old rfl rfl <| .old rfl rfl <| .nil)
            replace hst15 := hst15.fin (L' := [_, _, _, _, _]) (.cons rfl <| .nil)
            try simp only [List.take_succ_cons, List.take_zero, List.drop_succ_cons, List.drop_zero, List.cons_append, List.nil_append, List.append_nil, List.length_cons, List.length_nil, Nat.zero_add, Nat.reduceAdd] at hst15
            obtain ⟨yb, hcb, hst15⟩ := hst15.unx (k := 4) rfl (fun _ => rfl)
            replace hva27 := hva27.mono hle15
            have hlh15 := hlh14.trans hle15
            clear hst14 hfr14 hk15
            refine hK29 _ _ ?_; clear hK29
            refine ra0 (tch := [(4, 3, (fun v => .rowx (nz v) _ _ _ _)), (6, 1, (fun u => .blk _ (.cells (_ ++ [u] ++ _).toArray _)))]) hst15 hfr15 (.cons rfl (ob_fieldAddrO (off := 6) rfl Try.underlying33 rfl rfl Try.sizeOf25 rfl) <| .cons rfl (ob_loadL (j := 1) rfl rfl Try.isAgg25 rfl) <| .cons rfl (ob_loadLA (j := 4) rfl rfl Try.isAgg40 Try.sizeOf40 rfl) <| .cons rfl (ob_buildSlice1 rfl Try.underlying25 Try.sizeOf40 Try.zeroValue40 rfl rfl rfl rfl) <| .consT rfl rfl (fun _ => rfl) rfl (ob_imgT 89 rfl rfl rfl fun y89 => ob_appendX (size := 23) (bytes := 352) (l := al) (l' := [cleanA x27]) rfl rfl (fun _ => by first | exact .inl rfl | exact .inr (.inl rfl)) Try.underlying25 Try.type40 rfl rfl rfl rfl (fun w m hK => Sl.one (R := fun m vs t => ArR m t vs) hK.2 rfl ⟨_, _, _, rfl, hva27.mono (KC.le hK), hcb.mono (KC.le hK)⟩) rfl (by decide) (by simp only [maxLen]; omega) (by omega)) <| .cons rfl (ob_fieldAddrO (off := 6) rfl Try.underlying33 rfl rfl Try.sizeOf25 rfl) <| .consT rfl rfl (fun _ => rfl) rfl (ob_imgT 90 rfl rfl rfl fun y90 => ob_storeV rfl rfl rfl rfl rfl Try.sizeOf25 rfl rfl rfl) <| .nil) ?_
            intro a16 w16 m16 hst16 hle16 hk16
            have hfr16 := hk16.fr (T' := [(5, _), (4, _), (1, _), (2, _), (3, _)]) (.old rfl rfl <| .old rfl rfl <| .old rfl rfl <| .old rfl rfl <| .old rfl rfl <| .nil)
            obtain ⟨⟨A_31o, A_31p⟩, e32, hsl_A_31⟩ := hk16.ex 90 rfl
            replace hst16 := hst16.fin (L' := [_, _, _, _, _]) (.cons e32 <| .cons e32 <| .nil)
            try simp only [List.take_succ_cons, List.take_zero, List.drop_succ_cons, List.drop_zero, List.cons_append, List.nil_append, List.append_nil, List.length_cons, List.length_nil, Nat.zero_add, Nat.reduceAdd] at hst16
            have hlh16 := hlh15.trans hle16
            clear hst15 hfr15 hk16
            replace hsl_A_31 : Ars m16 A_31o (al ++ [cleanA x27]).length A_31p (al ++ [cleanA x27]) := hsl_A_31
            refine hK25 _ _ ?_; clear hK25
            refine rp0 hst16 hfr16 (.cons rfl (ob_move rfl) <| .cons rfl (ob_add rfl rfl ⟨by omega, by omega⟩) <| .cons rfl (ob_assign rfl) <| .nil) ?_
            intro a17 w17 m17 hst17 hle17 hk17
            have hfr17 := hk17.fr (T' := [(4, _), (1, _), (2, _), (3, _), (5, _)]) (.old rfl rfl <| .old rfl rfl <| .old rfl rfl <| .old rfl rfl <| .new rfl <| .nil)
            replace hsl_A_31 := hsl_A_31.mono hle17
            have hlh17 := hlh16.trans hle17
            clear hst16 hfr16 hk17
            have hst17 := hst17.take 4
            exact ⟨(y + 1, A_31o, A_31p, (al ++ [cleanA x27])), m17, by show t.arms.length - (y + 1) < t.arms.length - y; omega, ⟨hst17, hlh17, hfr17.sub (.cons rfl <| .cons rfl <| .cons rfl <| .cons rfl <| .cons rfl <| .nil), ⟨by show y + 1 ≤ t.arms.length; omega, hsl_A_31, by rw [ht27, List.map_append, ← hlen_al]; rfl, by show countAs (t.arms.drop (y + 1)) ≤ countAs t.arms; omega⟩⟩⟩
          · try simp only [nq1, nq2, nq3, nq4, nq5, nq6, nq7, nq8, nq9, u8_eq] at hb74
            have hge : y = t.arms.length := by omega
            rw [List.take_of_length_le (by omega)] at hlen_al
            refine wp_exit ?_
            refine hK20 _ _ ?_; clear hK20
            refine seq_any fun _ hK33 => ?_
            have hout : TmR m13 ⟨t.kind, t.at_, cleanS t, cleanP t, cleanN t, kl, al, t.row⟩ (tmV ⟨t.kind, t.at_, cleanS t, cleanP t, cleanN t, kl, al, t.row⟩ (⟨klo, klp, alo, alp, oR_t, cR_t, t0_t, t1_t, t2_t, t3_t, t4_t, t5_t, u0_t, u1_t, u2_t, u3_t, u4_t, u5_t⟩ : TmY)) := TmR.build hon_t hsl_kl hsl_al hrr_t
            refine ra0 (tch := [(1, 0, (fun _ => .blk _ _))]) hst13 hfr13 (.cons rfl (ob_loadLA (j := 1) rfl rfl Try.isAgg33 Try.sizeOf33 rfl) <| .consT rfl rfl (fun _ => rfl) rfl (ob_store' rfl rfl rfl Try.sizeOf33 rfl rfl hout.one) <| .nil) ?_
            intro a14 w14 m14 hst14 hle14 hk14
            have hfr14 := hk14.fr (T' := [(5, _), (4, _), (2, _)]) (.old rfl rfl <| .old rfl rfl <| .old rfl rfl <| .nil)
            replace hst14 := hst14.fin (L' := [_, _, _, _]) (.cons rfl <| .nil)
            try simp only [List.take_succ_cons, List.take_zero, List.drop_succ_cons, List.drop_zero, List.cons_append, List.nil_append, List.append_nil, List.length_cons, List.length_nil, Nat.zero_add, Nat.reduceAdd] at hst14
            replace hout := hout.mono hle14
            have hlh14 := hlh13.trans hle14
            clear hst13 hfr13 hk14
            refine hK33 _ _ ?_; clear hK33
            refine wp_ret ?_
            repeat (with_reducible first | refine then_ret ?_ | refine block_ret ?_)
            exact fn_ret hst14 hfr14 rfl (.cell rfl (load_blk (blk_heap (hst14.loc.at_ (k := 0) rfl)) Try.isAgg33 Try.sizeOf33) <| .nil) (⟨(⟨klo, klp, alo, alp, oR_t, cR_t, t0_t, t1_t, t2_t, t3_t, t4_t, t5_t, u0_t, u1_t, u2_t, u3_t, u4_t, u5_t⟩ : TmY), by rw [cleanT_eq, ← hlen_kl, ← hlen_al]; rfl, by rw [cleanT_eq, ← hlen_kl, ← hlen_al]; exact hout⟩)
      · have hlj10 : MLe m6 m6 := MLe.refl _
        refine seq_any fun _ hK35 => ?_
        refine rp0 hst6 hfr6 (.cons rfl (ob_fieldAddrO (off := 0) rfl Try.underlying33 rfl rfl Try.sizeOf3 rfl) <| .cons rfl (ob_load1 rfl hc1 Try.isAgg3 rfl) <| .cons rfl (ob_eql rfl rfl) <| .cons rfl (ob_move rfl) <| .cons rfl (ob_fieldAddrO (off := 0) rfl Try.underlying33 rfl rfl Try.sizeOf3 rfl) <| .cons rfl (ob_load1 rfl hc1 Try.isAgg3 rfl) <| .cons rfl (ob_eql rfl rfl) <| .cons rfl (ob_or rfl rfl rfl) <| .cons rfl (ob_move rfl) <| .cons rfl (ob_fieldAddrO (off := 0) rfl Try.underlying33 rfl rfl Try.sizeOf3 rfl) <| .cons rfl (ob_load1 rfl hc1 Try.isAgg3 rfl) <| .cons rfl (ob_eql rfl rfl) <| .cons rfl (ob_or rfl rfl rfl) <| .cons rfl (ob_move rfl) <| .cons rfl (ob_fieldAddrO (off := 0) rfl Try.underlying33 rfl rfl Try.sizeOf3 rfl) <| .cons rfl (ob_load1 rfl hc1 Try.isAgg3 rfl) <| .cons rfl (ob_eql rfl rfl) <| .cons rfl (ob_or rfl rfl rfl) <| .cons rfl (ob_move rfl) <| .cons rfl (ob_fieldAddrO (off := 0) rfl Try.underlying33 rfl rfl Try.sizeOf3 rfl) <| .cons rfl (ob_load1 rfl hc1 Try.isAgg3 rfl) <| .cons rfl (ob_eql rfl rfl) <| .cons rfl (ob_or rfl rfl rfl) <| .cons rfl (ob_move rfl) <| .cons rfl (ob_fieldAddrO (off := 0) rfl Try.underlying33 rfl rfl Try.sizeOf3 rfl) <| .cons rfl (ob_load1 rfl hc1 Try.isAgg3 rfl) <| .cons rfl (ob_eql rfl rfl) <| .cons rfl (ob_or rfl rfl rfl) <| .nil) ?_
        intro a7 w7 m7 hst7 hle7 hk7
        have hfr7 := hk7.fr (T' := [(1, _), (2, _), (3, _), (50, _)]) (.old rfl rfl <| .old rfl rfl <| .old rfl rfl <| .new rfl <| .nil)
        replace hlj10 := hlj10.trans hle7
        clear hst6 hfr6 hk7
        refine hK35 _ _ ?_; clear hK35
        refine cond_any hfr7 rfl rfl (fun hb50 => ?_) (fun hb50 => ?_)
        · try simp only [nq1, nq2, nq3, nq4, nq5, nq6, nq7, nq8, nq9, u8_eq] at hb50
          refine ra0 (tch := [(1, 1, (fun _ => .blk _ _))]) hst7 hfr7 (.cons rfl (ob_fieldAddrO (off := 2) rfl Try.underlying33 rfl rfl Try.sizeOf9 rfl) <| .consT rfl rfl (fun _ => rfl) rfl (ob_store rfl rfl rfl Try.sizeOf9 rfl rfl rfl) <| .nil) ?_
          intro a8 w8 m8 hst8 hle8 hk8
          have hfr8 := hk8.fr (T' := [(1, _), (2, _), (3, _)]) (.old rfl rfl <| .old rfl rfl <| .old rfl rfl <| .nil)
          replace hst8 := hst8.fin (L' := [_, _, _, _]) (.cons rfl <| .nil)
          try simp only [List.take_succ_cons, List.take_zero, List.drop_succ_cons, List.drop_zero, List.cons_append, List.nil_append, List.append_nil, List.length_cons, List.length_nil, Nat.zero_add, Nat.reduceAdd] at hst8
          replace hlj10 := hlj10.trans hle8
          clear hst7 hfr7 hk8
          repeat (with_reducible first | refine then_exit ?_ | refine block_exit ?_ | refine block_normal ?_)
          exact hj10 (([] : Str)) _ _ _ ⟨hst8, hlj10, hfr8.sub (.cons rfl <| .cons rfl <| .cons rfl <| .nil), by unfold cleanS; first | rw [if_pos (by omega)] | rw [if_neg (by omega)]⟩
        · try simp only [nq1, nq2, nq3, nq4, nq5, nq6, nq7, nq8, nq9, u8_eq] at hb50
          refine wp_skip ?_
          repeat (with_reducible first | refine then_exit ?_ | refine block_exit ?_ | refine block_normal ?_)
          exact hj10 (t.name) _ _ _ ⟨hst7, hlj10, hfr7.sub (.cons rfl <| .cons rfl <| .cons rfl <| .nil), by unfold cleanS; first | rw [if_pos (by omega)] | rw [if_neg (by omega)]⟩
    · have hlj9 : MLe m5 m5 := MLe.refl _
      refine seq_any fun _ hK36 => ?_
      refine rp0 hst5 hfr5 (.cons rfl (ob_fieldAddrO (off := 0) rfl Try.underlying33 rfl rfl Try.sizeOf3 rfl) <| .cons rfl (ob_load1 rfl hc1 Try.isAgg3 rfl) <| .cons rfl (ob_neq rfl rfl) <| .cons rfl (ob_move rfl) <| .cons rfl (ob_fieldAddrO (off := 0) rfl Try.underlying33 rfl rfl Try.sizeOf3 rfl) <| .cons rfl (ob_load1 rfl hc1 Try.isAgg3 rfl) <| .cons rfl (ob_neq rfl rfl) <| .cons rfl (ob_and rfl rfl rfl) <| .nil) ?_
      intro a6 w6 m6 hst6 hle6 hk6
      have hfr6 := hk6.fr (T' := [(1, _), (2, _), (3, _), (21, _)]) (.old rfl rfl <| .old rfl rfl <| .old rfl rfl <| .new rfl <| .nil)
      replace hlj9 := hlj9.trans hle6
      clear hst5 hfr5 hk6
      refine hK36 _ _ ?_; clear hK36
      refine cond_any hfr6 rfl rfl (fun hb21 => ?_) (fun hb21 => ?_)
      · try simp only [nq1, nq2, nq3, nq4, nq5, nq6, nq7, nq8, nq9, u8_eq] at hb21
        refine ra0 (tch := [(1, 1, (fun _ => .blk _ _))]) hst6 hfr6 (.cons rfl (ob_fieldAddrO (off := 4) rfl Try.underlying33 rfl rfl Try.sizeOf3 rfl) <| .consT rfl rfl (fun _ => rfl) rfl (ob_store rfl rfl rfl Try.sizeOf3 rfl rfl rfl) <| .nil) ?_
        intro a7 w7 m7 hst7 hle7 hk7
        have hfr7 := hk7.fr (T' := [(1, _), (2, _), (3, _)]) (.old rfl rfl <| .old rfl rfl <| .old rfl rfl <| .nil)
        replace hst7 := hst7.fin (L' := [_, _, _, _]) (.cons rfl <| .nil)
        try simp only [List.take_succ_cons, List.take_zero, List.drop_succ_cons, List.drop_zero, List.cons_append, List.nil_append, List.append_nil, List.length_cons, List.length_nil, Nat.zero_add, Nat.reduceAdd] at hst7
        replace hlj9 := hlj9.trans hle7
        clear hst6 hfr6 hk7
        repeat (with_reducible first | refine then_exit ?_ | refine block_exit ?_ | refine block_normal ?_)
        exact hj9 ((0 : Int)) _ _ _ ⟨hst7, hlj9, hfr7.sub (.cons rfl <| .cons rfl <| .cons rfl <| .nil), by unfold cleanN; first | rw [if_pos (by omega)] | rw [if_neg (by omega)]⟩
      · try simp only [nq1, nq2, nq3, nq4, nq5, nq6, nq7, nq8, nq9, u8_eq] at hb21
        refine wp_skip ?_
        repeat (with_reducible first | refine then_exit ?_ | refine block_exit ?_ | refine block_normal ?_)
        exact hj9 (t.n) _ _ _ ⟨hst6, hlj9, hfr6.sub (.cons rfl <| .cons rfl <| .cons rfl <| .nil), by unfold cleanN; first | rw [if_pos (by omega)] | rw [if_neg (by omega)]⟩
  · have hlj8 : MLe m4 m4 := MLe.refl _
    refine seq_any fun _ hK37 => ?_
    refine rp0 hst4 hfr4 (.cons rfl (ob_fieldAddrO (off := 0) rfl Try.underlying33 rfl rfl Try.sizeOf3 rfl) <| .cons rfl (ob_load1 rfl hc1 Try.isAgg3 rfl) <| .cons rfl (ob_neq rfl rfl) <| .nil) ?_
    intro a5 w5 m5 hst5 hle5 hk5
    have hfr5 := hk5.fr (T' := [(1, _), (2, _), (3, _), (12, _)]) (.old rfl rfl <| .old rfl rfl <| .old rfl rfl <| .new rfl <| .nil)
    replace hlj8 := hlj8.trans hle5
    clear hst4 hfr4 hk5
    refine hK37 _ _ ?_; clear hK37
    refine cond_any hfr5 rfl rfl (fun hb12 => ?_) (fun hb12 => ?_)
    · try simp only [nq1, nq2, nq3, nq4, nq5, nq6, nq7, nq8, nq9, u8_eq] at hb12
      refine ra0 (tch := [(1, 1, (fun _ => .blk _ _))]) hst5 hfr5 (.cons rfl (ob_fieldAddrO (off := 3) rfl Try.underlying33 rfl rfl Try.sizeOf9 rfl) <| .consT rfl rfl (fun _ => rfl) rfl (ob_store rfl rfl rfl Try.sizeOf9 rfl rfl rfl) <| .nil) ?_
      intro a6 w6 m6 hst6 hle6 hk6
      have hfr6 := hk6.fr (T' := [(1, _), (2, _), (3, _)]) (.old rfl rfl <| .old rfl rfl <| .old rfl rfl <| .nil)
      replace hst6 := hst6.fin (L' := [_, _, _, _]) (.cons rfl <| .nil)
      try simp only [List.take_succ_cons, List.take_zero, List.drop_succ_cons, List.drop_zero, List.cons_append, List.nil_append, List.append_nil, List.length_cons, List.length_nil, Nat.zero_add, Nat.reduceAdd] at hst6
      replace hlj8 := hlj8.trans hle6
      clear hst5 hfr5 hk6
      repeat (with_reducible first | refine then_exit ?_ | refine block_exit ?_ | refine block_normal ?_)
      exact hj8 (([] : Str)) _ _ _ ⟨hst6, hlj8, hfr6.sub (.cons rfl <| .cons rfl <| .cons rfl <| .nil), by unfold cleanP; simp [hb12]⟩
    · try simp only [nq1, nq2, nq3, nq4, nq5, nq6, nq7, nq8, nq9, u8_eq] at hb12
      refine wp_skip ?_
      repeat (with_reducible first | refine then_exit ?_ | refine block_exit ?_ | refine block_normal ?_)
      exact hj8 (t.param) _ _ _ ⟨hst5, hlj8, hfr5.sub (.cons rfl <| .cons rfl <| .cons rfl <| .nil), by unfold cleanP; simp [hb12]⟩
theorem clean_c (t : Tm) : clean_G t := Tm.rec_ (p := clean_G) (fun t ihk iha => clean_s ihk iha) t

end Go.Proofs.Ytppmbhjacjmfkaa
