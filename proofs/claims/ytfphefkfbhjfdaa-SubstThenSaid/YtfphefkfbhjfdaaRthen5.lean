/-
  brocaderef05: one substitution, and then another one; what both do is the same. Conditions: those of each theorem.
-/
import Derived.Test.YtfphefkfbhjfdaaRapply5
namespace Go.Proofs.Ytfphefkfbhjfdaa
set_option linter.all false
set_option maxRecDepth 4000
open Go.RowKit
def thenT (b : Sub) (l : List (Int × Ty)) : List (Int × Ty) := l.foldl (fun o p => rset p.1 (applyT b p.2) o) b.ts
def thenRw (b : Sub) (l : List (Int × Rw)) : List (Int × Rw) := l.foldl (fun o p => rset p.1 (applyR b p.2) o) b.rs
/-- One, and then another one, as the document says it. -/
def thenR (a b : Sub) : Sub := ⟨thenT b a.ts, thenRw b a.rs⟩
theorem take_at {α : Type} {l : List α} {y : Nat} {p : α} (h : l[y]? = some p) : l.take (y + 1) = l.take y ++ [p] := by rw [List.take_succ, h]; rfl
theorem thenT_snoc {b : Sub} {l : List (Int × Ty)} {y : Nat} {p : Int × Ty} (h : l[y]? = some p) : thenT b (l.take (y + 1)) = rset p.1 (applyT b p.2) (thenT b (l.take y)) := by rw [take_at h]; unfold thenT; rw [List.foldl_append]; rfl
theorem thenRw_snoc {b : Sub} {l : List (Int × Rw)} {y : Nat} {p : Int × Rw} (h : l[y]? = some p) : thenRw b (l.take (y + 1)) = rset p.1 (applyR b p.2) (thenRw b (l.take y)) := by rw [take_at h]; unfold thenRw; rw [List.foldl_append]; rfl
theorem alook_filter {α : Type} (k n : Int) : ∀ l : List (Int × α), alook k (l.filter fun p => !decide (p.1 = n)) = if k = n then none else alook k l
  | [] => by simp [alook]
  | (a, u) :: l => by
    have ih := alook_filter k n l
    by_cases h : a = n
    · subst h
      rw [List.filter_cons_of_neg (by simp), ih]
      split
      · rfl
      · rename_i hk; simp only [alook]; rw [if_neg hk]
    · rw [List.filter_cons_of_pos (by simp [h])]
      simp only [alook, ih]
      by_cases hk : k = a
      · subst hk; simp [h]
      · rw [if_neg hk]; split <;> rfl
theorem alook_rset {α : Type} (k n : Int) (x : α) (l : List (Int × α)) : alook k (rset n x l) = if k = n then some x else alook k l := by
  unfold rset; rw [alook_app, alook_filter]
  by_cases h : k = n
  · rw [if_pos h, if_pos h]; simp [alook, h]
  · rw [if_neg h, if_neg h]; simp [alook, h]
theorem rset_apart {α : Type} {n : Int} {x : α} {l : List (Int × α)} (h : (l.map Prod.fst).Nodup) : ((rset n x l).map Prod.fst).Nodup := by
  unfold rset; rw [List.map_append]
  refine List.nodup_append.2 ⟨h.sublist (List.filter_sublist.map _), by simp, fun a ha b hb e => ?_⟩
  simp at hb; subst hb; subst e
  obtain ⟨p, hp, e⟩ := List.mem_map.1 ha
  have := (List.mem_filter.1 hp).2
  simp [e] at this
theorem rset_mem {α : Type} {n : Int} {x : α} {l : List (Int × α)} {p : Int × α} (h : p ∈ rset n x l) : p ∈ l ∨ p = (n, x) := by
  unfold rset at h
  rcases List.mem_append.1 h with h | h
  · exact .inl (List.mem_filter.1 h).1
  · exact .inr (by simpa using h)
theorem Over.snocR {α : Type} {f : α → α} {l b o : List (Int × α)} (h : Over f l b o) {k : Int} (x : α) (hk : alook k l = none) : Over f (l ++ [(k, x)]) b (rset k (f x) o) := fun j => by
  rw [alook_rset, alook_app, h j]
  by_cases e : j = k
  · subst e; rw [if_pos rfl, hk]; simp [alook]
  · rw [if_neg e]; simp [alook, e]
theorem over_fold {α : Type} (f : α → α) (b : List (Int × α)) : ∀ (l dn o : List (Int × α)), Over f dn b o → ((dn ++ l).map Prod.fst).Nodup → Over f (dn ++ l) b (l.foldl (fun o p => rset p.1 (f p.2) o) o)
  | [], dn, o, h, _ => by rw [List.append_nil]; exact h
  | (k, x) :: l, dn, o, h, hn => by
    have e : dn ++ (k, x) :: l = (dn ++ [(k, x)]) ++ l := by simp
    rw [e] at hn ⊢
    refine over_fold f b l _ _ (h.snocR x (alook_none.2 ?_)) hn
    rw [List.map_append, List.map_append] at hn
    intro hk
    exact (List.nodup_append.1 (List.nodup_append.1 hn).1).2.2 k hk k (by simp) rfl
theorem thenR_over {a b : Sub} (h : Apart a) : ThenS a b (thenR a b) := ⟨by have := over_fold (applyT b) b.ts a.ts [] b.ts (Over.nil _ _) (by simpa using h.1); rw [List.nil_append] at this; exact this, by have := over_fold (applyR b) b.rs a.rs [] b.rs (Over.nil _ _) (by simpa using h.2); rw [List.nil_append] at this; exact this⟩
theorem SameL.symm {a b : Sub} (h : SameL a b) : SameL b a := ⟨fun k => (h.1 k).symm, fun k => (h.2 k).symm⟩
theorem then_same {a b x y o p : Sub} (h : ThenS a b o) (k : ThenS x y p) (hax : SameL a x) (hby : SameL b y) : SameL o p := by
  have e1 : applyT b = applyT y := funext fun t => applyT_same hby t
  have e2 : applyR b = applyR y := funext fun t => applyR_same hby t
  exact ⟨fun n => by rw [h.1 n, k.1 n, hax.1 n, hby.1 n, e1], fun n => by rw [h.2 n, k.2 n, hax.2 n, hby.2 n, e2]⟩
/-- The document's has the same said, each variable once. -/
structure Twin (B R : Nat) (s r : Sub) : Prop where
  same : SameL s r
  apart : Apart r
  ts : ∀ p ∈ r.ts, wdT p.2 ≤ B
  rs : ∀ p ∈ r.rs, p.2.labels.length ≤ R
theorem Twin.setT {B R : Nat} {s r : Sub} (h : Twin B R s r) (n : Int) {t : Ty} (ht : wdT t ≤ B) : Twin B R ⟨aset n t s.ts, s.rs⟩ ⟨rset n t r.ts, r.rs⟩ :=
  ⟨⟨fun k => by dsimp only; rw [alook_aset, alook_rset, h.same.1], h.same.2⟩, ⟨rset_apart h.apart.1, h.apart.2⟩, fun p hp => by rcases rset_mem hp with hp | rfl; exact h.ts p hp; exact ht, h.rs⟩
theorem Twin.setR {B R : Nat} {s r : Sub} (h : Twin B R s r) (n : Int) {t : Rw} (ht : t.labels.length ≤ R) : Twin B R ⟨s.ts, aset n t s.rs⟩ ⟨r.ts, rset n t r.rs⟩ :=
  ⟨⟨h.same.1, fun k => by dsimp only; rw [alook_aset, alook_rset, h.same.2]⟩, ⟨h.apart.1, rset_apart h.apart.2⟩, h.ts, fun p hp => by rcases rset_mem hp with hp | rfl; exact h.rs p hp; exact ht⟩
theorem said_twin {B R : Nat} (hB : 10 ≤ R) {l : List Say} (h : ∀ x ∈ l, wdT x.ty ≤ B) : Twin B R (saidS l) (saidR l) ∧ (saidR l).ts.length ≤ 10 ∧ (saidR l).rs.length ≤ 10 := by
  have key : ∀ (l : List Say) (s r : Sub) (n : Nat), (∀ x ∈ l, wdT x.ty ≤ B) → Twin B R s r → r.ts.length ≤ n → r.rs.length ≤ n → Twin B R (l.foldl sayS s) (l.foldl sayR r) ∧ (l.foldl sayR r).ts.length ≤ n + l.length ∧ (l.foldl sayR r).rs.length ≤ n + l.length := by
    intro l
    induction l with
    | nil => intro s r n _ h h1 h2; exact ⟨h, h1, h2⟩
    | cons x l ih =>
      intro s r n hl h h1 h2
      rw [List.foldl_cons, List.foldl_cons, List.length_cons, show n + (l.length + 1) = (n + 1) + l.length by omega]
      refine ih _ _ _ (fun y hy => hl y (.tail _ hy)) ?_ ?_ ?_
      · unfold sayS sayR
        split
        · exact h.setR _ (Nat.le_trans (cutS_len _ _) hB)
        · split
          · exact h.setT _ (hl x (.head _))
          · exact h
      · unfold sayR; split
        · dsimp only; omega
        · split
          · exact Nat.le_trans (rset_len _ _ _) (by omega)
          · omega
      · unfold sayR; split
        · exact Nat.le_trans (rset_len _ _ _) (by omega)
        · split
          · dsimp only; omega
          · omega
  have h0 : Twin B R ⟨[], []⟩ ⟨[], []⟩ := ⟨⟨fun _ => rfl, fun _ => rfl⟩, ⟨List.nodup_nil, List.nodup_nil⟩, fun p hp => (by cases hp), fun p hp => (by cases hp)⟩
  obtain ⟨h1, h2, h3⟩ := key (l.take 10) ⟨[], []⟩ ⟨[], []⟩ 0 (fun x hx => h x (List.mem_of_mem_take hx)) h0 (Nat.le_refl _) (Nat.le_refl _)
  have h4 : (l.take 10).length ≤ 10 := by rw [List.length_take]; omega
  exact ⟨h1, Nat.le_trans h2 (by omega), Nat.le_trans h3 (by omega)⟩
theorem Twin.w {B R : Nat} {s r : Sub} (h : Twin B R s r) : SubW B R r := ⟨fun n t ht => h.ts _ (alook_mem ht), fun n t ht => h.rs _ (alook_mem ht)⟩
theorem sort_app {a b c : List Str} (h : a.Perm b) : sortS (a ++ c) = sortS (b ++ c) := sortS_of_perm (h.append_right c)
theorem sort_idem (a : List Str) : sortS (sortS a) = sortS a := sortS_of_perm (sortS_perm a)
theorem sort_app2 {a b c : List Str} (h : b.Perm c) : sortS (a ++ b) = sortS (a ++ c) := sortS_of_perm (h.append_left a)
theorem applyR_cat (b : Sub) (l : List Str) (x : Rw) : (⟨sortS (l ++ (applyR b x).labels), (applyR b x).var⟩ : Rw) = applyR b ⟨sortS (l ++ x.labels), x.var⟩ := by
  unfold applyR
  cases h : alook x.var b.rs with
  | none => dsimp only; rw [sort_idem, sort_app2 (sortS_perm _)]
  | some z =>
    dsimp only
    split
    · dsimp only; rw [sort_idem, sort_app2 (sortS_perm _)]
    · dsimp only; rw [sort_app2 (sortS_perm _), ← List.append_assoc, sort_app (sortS_perm _)]
theorem applyR_then {a b o : Sub} (h : ThenS a b o) (r : Rw) : applyR o r = applyR b (applyR a r) := by
  have hk := h.2 r.var
  cases ha : alook r.var a.rs with
  | none =>
    rw [ha] at hk; simp at hk
    have e : applyR a r = ⟨sortS r.labels, r.var⟩ := by unfold applyR; rw [ha]
    rw [e]; unfold applyR; dsimp only; rw [hk]
    cases alook r.var b.rs with
    | none => dsimp only; rw [sort_idem]
    | some x =>
      dsimp only; split
      · rw [sort_idem]
      · rw [sort_app (sortS_perm _)]
  | some x =>
    rw [ha] at hk; simp at hk
    by_cases h0 : r.var = 0
    · rw [applyR_out (.inr h0), applyR_out (s := a) (.inr h0), applyR_out (s := b) (r := ⟨sortS r.labels, r.var⟩) (.inr h0)]; dsimp only; rw [sort_idem]
    · have e1 : applyR o r = ⟨sortS (r.labels ++ (applyR b x).labels), (applyR b x).var⟩ := by unfold applyR; rw [hk]; dsimp only; rw [if_neg h0]; rfl
      have e2 : applyR a r = ⟨sortS (r.labels ++ x.labels), x.var⟩ := by unfold applyR; rw [ha]; dsimp only; rw [if_neg h0]
      rw [e1, e2, applyR_cat]
theorem applyT_then {a b o : Sub} (h : ThenS a b o) (t : Ty) : applyT o t = applyT b (applyT a t) := by
  induction t using Ty.rec_ with
  | h t ih =>
    by_cases h7 : t.kind = 7
    · rw [applyT_var h7, applyT_var (s := a) h7, h.1 t.var]
      cases ha : alook t.var a.ts with
      | none => simp only [Option.map_none, Option.none_or, Option.getD_none]; rw [applyT_var h7]
      | some x => rfl
    · have key : ∀ l : List Ty, (∀ u ∈ l, u ∈ t.args) → applyTs o l = applyTs b (applyTs a l) := by
        intro l
        induction l with
        | nil => intro _; rfl
        | cons x l ihl => intro hl; rw [applyTs, applyTs, applyTs, ih x (hl x (.head _)), ihl fun u hu => hl u (.tail _ hu)]
      have hr := applyR_then h ⟨t.labels, t.rv⟩
      have hk := key t.args fun u hu => hu
      rw [applyT_not h7, applyT_not (s := a) h7, applyT_not (s := b) (t := ⟨t.kind, t.name, t.var, _, _, _⟩) h7]
      show (⟨t.kind, t.name, t.var, applyTs o t.args, if t.kind = 5 then (applyR o ⟨t.labels, t.rv⟩).labels else t.labels, if t.kind = 5 then (applyR o ⟨t.labels, t.rv⟩).var else t.rv⟩ : Ty) = ⟨t.kind, t.name, t.var, applyTs b (applyTs a t.args), if t.kind = 5 then (applyR b ⟨if t.kind = 5 then (applyR a ⟨t.labels, t.rv⟩).labels else t.labels, if t.kind = 5 then (applyR a ⟨t.labels, t.rv⟩).var else t.rv⟩).labels else (if t.kind = 5 then (applyR a ⟨t.labels, t.rv⟩).labels else t.labels), if t.kind = 5 then (applyR b ⟨if t.kind = 5 then (applyR a ⟨t.labels, t.rv⟩).labels else t.labels, if t.kind = 5 then (applyR a ⟨t.labels, t.rv⟩).var else t.rv⟩).var else (if t.kind = 5 then (applyR a ⟨t.labels, t.rv⟩).var else t.rv)⟩
      rw [hk]
      by_cases h5 : t.kind = 5
      · simp only [if_pos h5]; rw [hr]
      · simp only [if_neg h5]
set_option maxHeartbeats 3200000 in
theorem rthen_c {w : World} {m : Mem} {a : Sub} {vs_a : List Value} {b : Sub} {vs_b : List Value} (hA : Agree w m) (h_a : RSubR m a vs_a) (h_b : RSubR m b vs_b) (hwa : ∀ p ∈ a.ts, wdT p.2 ≤ 17592186044000) (hra : ∀ p ∈ a.rs, p.2.labels.length ≤ 8796093022000) (hwb : SubW 17592186044416 40 b) (hla : a.ts.length ≤ 10 ∧ a.rs.length ≤ 10) (hlb : b.ts.length ≤ 10 ∧ b.rs.length ≤ 10) : FnV Try.prog 22 #[.agg vs_a.toArray, .agg vs_b.toArray] w m (fun _ m v => (MP.rsub (thenR a b)).p m v) := by
  obtain ⟨⟨⟨⟨oA_a, cA_a⟩, oB_a, cB_a⟩, ⟨oC_a, cC_a⟩, oD_a, cD_a⟩, rfl, hqa_a, hqb_a, hqc_a, hqd_a⟩ := id h_a
  have hgb_a := hqa_a.big; have hgd_a := hqc_a.big; simp only [List.length_map] at hgb_a hgd_a
  obtain ⟨⟨⟨⟨oA_b, cA_b⟩, oB_b, cB_b⟩, ⟨oC_b, cC_b⟩, oD_b, cD_b⟩, rfl, hqa_b, hqb_b, hqc_b, hqd_b⟩ := id h_b
  have hgb_b := hqa_b.big; have hgd_b := hqc_b.big; simp only [List.length_map] at hgb_b hgd_b
  refine fn_enter (vs := [_, _]) Try.func22 rfl rfl rfl fun a0 hfr0 => ?_
  have hst0 := st_enter hA (loc_nil [] _ w m)
  have hM : MLe m m := MLe.refl m
  refine seq_any fun _ hK1 => ?_
  replace hst0 := hst0.more (r := .free) trivial List.nodup_nil (by simp [Res.blocks])
  refine ra0 (tch := [(2, 0, (fun v => .blk v _))]) hst0 hfr0 (.cons rfl (ob_box rfl rfl) <| .cons rfl (ob_box rfl rfl) <| .consT rfl rfl (fun _ => rfl) rfl (ob_allocL Try.zeroValue40 rfl) <| .nil) ?_
  intro a1 w1 m1 hst1 hle1 hk1
  have hfr1 := hk1.fr (T' := []) (.nil)
  obtain ⟨g2, e2, hc2⟩ := hk1.ex 2 rfl
  replace hfr1 := hfr1.cons e2
  obtain ⟨g3, e3, hc3⟩ := hk1.ex 3 rfl
  replace hfr1 := hfr1.cons e3
  obtain ⟨g4, e4, _⟩ := hk1.ex 4 rfl
  replace hfr1 := hfr1.cons e4
  replace hst1 := hst1.fin (L' := [_]) (.cons e4 <| .nil)
  replace hqa_a := hqa_a.mono hle1
  replace hqb_a := hqb_a.mono hle1
  replace hqc_a := hqc_a.mono hle1
  replace hqd_a := hqd_a.mono hle1
  replace h_b := h_b.mono hle1
  clear hst0 hfr0 hk1
  refine hK1 _ _ ?_; clear hK1
  refine seq_any fun _ hK5 => ?_
  replace hst1 := hst1.more (r := .free) trivial List.nodup_nil (by simp [Res.blocks])
  refine ra0 (tch := [(1, 1, (fun v => .blk v _)), (2, 1, (fun v => .blk v _))]) hst1 hfr1 (.cons rfl (ob_loadS' rfl hc3 Try.isAgg40 Try.sizeOf40 rfl rfl) <| .consT rfl rfl (fun _ => rfl) rfl (ob_allocL Try.zeroValue40 rfl) <| .consT rfl rfl (fun _ => rfl) rfl (ob_imgT 5 rfl rfl rfl fun y5 => ob_storeF rfl rfl rfl rfl rfl Try.sizeOf40 rfl rfl rfl) <| .nil) ?_
  intro a2 w2 m2 hst2 hle2 hk2
  have hfr2 := hk2.fr (T' := [(2, _), (3, _), (4, _)]) (.old rfl rfl <| .old rfl rfl <| .old rfl rfl <| .nil)
  obtain ⟨g5, e6, _⟩ := hk2.ex 5 rfl
  replace hfr2 := hfr2.cons e6
  replace hst2 := hst2.fin (L' := [_, _]) (.cons e6 <| .cons e6 <| .nil)
  try simp only [List.take_succ_cons, List.take_zero, List.drop_succ_cons, List.drop_zero, List.cons_append, List.nil_append, List.append_nil, List.length_cons, List.length_nil, Nat.zero_add, Nat.reduceAdd] at hst2
  replace hqa_a := hqa_a.mono hle2
  replace hqb_a := hqb_a.mono hle2
  replace hqc_a := hqc_a.mono hle2
  replace hqd_a := hqd_a.mono hle2
  replace h_b := h_b.mono hle2
  replace hc2 := hc2.mono hle2
  replace hc3 := hc3.mono hle2
  clear hst1 hfr1 hk2
  refine hK5 _ _ ?_; clear hK5
  refine seq_any fun _ hK7 => ?_
  refine seq_any fun _ hK8 => ?_
  refine rp0 hst2 hfr2 (.cons rfl (ob_assign rfl) <| .nil) ?_
  intro a3 w3 m3 hst3 hle3 hk3
  have hfr3 := hk3.fr (T' := [(2, _), (3, _), (4, _), (5, _), (6, _)]) (.old rfl rfl <| .old rfl rfl <| .old rfl rfl <| .old rfl rfl <| .new rfl <| .nil)
  replace hqa_a := hqa_a.mono hle3
  replace hqb_a := hqb_a.mono hle3
  replace hqc_a := hqc_a.mono hle3
  replace hqd_a := hqd_a.mono hle3
  replace h_b := h_b.mono hle3
  replace hc2 := hc2.mono hle3
  replace hc3 := hc3.mono hle3
  clear hst2 hfr2 hk3
  refine hK8 _ _ ?_; clear hK8
  refine wp_block ?_
  refine loop_any (T := [(2, _), (3, _), (4, _), (5, _)]) (fun (y : Nat × Sub × ZZ) => ([(6, .int .i64 (y.1 : Int))] : List (Nat × Value))) (fun y => [_, .blk (.pointer (some ⟨g5, 0, none⟩)) (.cells (rsV y.2.1 y.2.2).toArray 40)]) (fun (y : Nat × Sub × ZZ) m => (fun (y : Nat) (o : Sub) (z : ZZ) => (y ≤ (a.ts.map Prod.fst).length) ∧ (RSubR m o (rsV o z)) ∧ (o = ⟨thenT b (a.ts.take y), b.rs⟩ ∧ (thenT b (a.ts.take y)).length ≤ 10 + y) ∧ (o.ts.length ≤ 1000 ∧ o.rs.length ≤ 1000)) y.1 y.2.1 y.2.2) (fun y => (a.ts.map Prod.fst).length - y.1) ((0, b, (((oA_b, cA_b), (oB_b, cB_b)), ((oC_b, cC_b), (oD_b, cD_b))))) ⟨hst3, MLe.refl _, hfr3.sub (.cons rfl <| .cons rfl <| .cons rfl <| .cons rfl <| .cons rfl <| .nil), ⟨Nat.zero_le _, h_b, ⟨rfl, by show b.ts.length ≤ _; omega⟩, ⟨by show b.ts.length ≤ 1000; omega, by show b.rs.length ≤ 1000; omega⟩⟩⟩ fun y a4 w4 m4 hh4 => ?_
  have hst4 := hh4.st; have hle4 := hh4.le; have hfr4 := hh4.fr; have hrel := hh4.rel; clear hh4
  replace hqa_a := hqa_a.mono hle4
  replace hqb_a := hqb_a.mono hle4
  replace hqc_a := hqc_a.mono hle4
  replace hqd_a := hqd_a.mono hle4
  replace h_b := h_b.mono hle4
  replace hc2 := hc2.mono hle4
  replace hc3 := hc3.mono hle4
  clear hst3 hfr3
  obtain ⟨y, o, z⟩ := y
  dsimp only at hrel hfr4 hst4
  obtain ⟨hyn, hO, ho9, hol⟩ := hrel
  have hyb : a.ts.length ≤ 10 := hla.1
  have hlh4 := hle4
  refine seq_any fun _ hK10 => ?_
  refine seq_any fun _ hK11 => ?_
  refine rp0 hst4 hfr4 (.cons rfl (ob_move rfl) <| .cons rfl (ob_fieldAddrO (off := 0) rfl Try.underlying40 rfl rfl Try.sizeOf37 rfl) <| .cons rfl (ob_load1 rfl hc2 Try.isAgg37 rfl) <| .cons rfl (ob_len rfl Try.underlying37) <| .cons rfl (ob_lss rfl rfl) <| .nil) ?_
  intro a5 w5 m5 hst5 hle5 hk5
  have hfr5 := hk5.fr (T' := [(6, _), (2, _), (3, _), (4, _), (5, _), (13, _)]) (.old rfl rfl <| .old rfl rfl <| .old rfl rfl <| .old rfl rfl <| .old rfl rfl <| .new rfl <| .nil)
  replace hqa_a := hqa_a.mono hle5
  replace hqb_a := hqb_a.mono hle5
  replace hqc_a := hqc_a.mono hle5
  replace hqd_a := hqd_a.mono hle5
  replace h_b := h_b.mono hle5
  replace hc2 := hc2.mono hle5
  replace hc3 := hc3.mono hle5
  replace hO := hO.mono hle5
  have hlh5 := hlh4.trans hle5
  clear hst4 hfr4 hk5
  refine hK11 _ _ ?_; clear hK11
  refine cond_any hfr5 rfl rfl (fun hb13 => ?_) (fun hb13 => ?_)
  · try simp only [nq1, nq2, nq3, nq4, nq5, nq6, nq7, nq8, nq9, u8_eq] at hb13
    refine wp_skip ?_
    refine hK10 _ _ ?_; clear hK10
    refine seq_any fun _ hK12 => ?_
    refine wp_block ?_
    have hyl : y < a.ts.length := by rw [← List.length_map (f := Prod.fst)]; omega
    obtain ⟨p9, hp9⟩ : ∃ p, a.ts[y]? = some p := ⟨_, List.getElem?_eq_getElem hyl⟩
    have hyl2 : y < (a.ts.map Prod.snd).length := by rw [List.length_map]; exact hyl
    obtain ⟨p13, vs13, x13, ho13, hd13, hm_x13, ht13, hcv13, hl13, hv13⟩ := hqa_a.nth (k := y) (by omega)
    cases ho13
    subst hv13
    obtain ⟨p14, vs14, x14, ho14, hd14, hm_x14, ht14, hcv14, hl14, hv14⟩ := hqb_a.nth (k := y) (by omega)
    cases ho14
    obtain ⟨o14, c14, oL14, cL14, rfl, hkd14, hs14, hi14, hj14, hr14⟩ := hv14.open_
    have hbg14 := hkd14.big; have hcp14 := hkd14.cap; have hbs14 := hs14.big; have hcs14 := hs14.cap
    have hrw14 : RwR _ ⟨x14.labels, x14.rv⟩ _ := ⟨_, _, rfl, hs14, hr14⟩
    have e9 := at_map hp9 hd13
    have e8 := at_map hp9 hd14
    have hwx := hwa p9 (List.mem_of_getElem? hp9)
    rw [← e8] at hwx
    refine region_any (tch := [(14, 1, (fun _ => .blkx _ _ _))]) (fun _ => mixed) hst5 hfr5 (by kernel_rfl) (by kernel_rfl) (by kernel_rfl) (.cons rfl (ob_loadLA (j := 1) rfl rfl Try.isAgg40 Try.sizeOf40 rfl) <| .cons rfl (ob_fieldAddrO (off := 0) rfl Try.underlying40 rfl rfl Try.sizeOf37 rfl) <| .cons rfl (ob_load1 rfl hc2 Try.isAgg37 rfl) <| .cons rfl (ob_move rfl) <| .cons rfl (ob_indexAddr (k := y) rfl rfl Try.underlying37 Try.sizeOf3 rfl (by omega)) <| .cons rfl (ob_load1' rfl hcv13 Try.isAgg3 rfl) <| .cons rfl (ob_loadS' rfl hc3 Try.isAgg40 Try.sizeOf40 rfl rfl) <| .cons rfl (ob_fieldAddrO (off := 1) rfl Try.underlying40 rfl rfl Try.sizeOf23 rfl) <| .cons rfl (ob_load1 rfl hc2 Try.isAgg23 rfl) <| .cons rfl (ob_move rfl) <| .cons rfl (ob_indexAddr (k := y) rfl rfl Try.underlying23 Try.sizeOf28 rfl (by omega)) <| .cons rfl (ob_loadS' rfl hcv14 Try.isAgg28 Try.sizeOf28 rfl rfl) <| .cons rfl (ob_call (φ := MP.ty (applyT b x14)) rfl (.cons rfl <| .cons rfl <| .nil) Try.call36 (fun w m hK => by have hle_ := KC.le hK; have hA := KC.agree hK; have h_b := h_b.mono hle_; have hv14 := hv14.mono hle_; exact FnG.mono (rapply_c x14 hA h_b hv14 hwb (by omega)) fun _ _ _ _ h => h)) <| .cons rfl (ob_imgE 28 rfl rfl rfl fun y28 => ob_call (φ := MP.rsub ⟨rset x13 (applyT b x14) o.ts, o.rs⟩) rfl (.cons rfl <| .cons rfl <| .cons rfl <| .nil) Try.call26 (fun w m hK => by have hle_ := KC.le hK; have hA := KC.agree hK; have hr0_ := hK.2; have hO := hO.mono hle_; exact FnG.mono (rsetType_c (s := o) (n := x13) (x := applyT b x14) hA hO hr0_ (by omega)) fun _ _ _ _ h => h)) <| .consT rfl rfl (fun _ => rfl) rfl (ob_imgTX 29 rfl rfl rfl fun y29 => ob_store' rfl rfl rfl Try.sizeOf40 rfl rfl rfl) <| .nil) ?_
    intro a6 w6 m6 hst6 hle6 hk6
    have hfr6 := hk6.fr (T' := [(6, _), (2, _), (3, _), (4, _), (5, _)]) (.old rfl rfl <| .old rfl rfl <| .old rfl rfl <| .old rfl rfl <| .old rfl rfl <| .nil)
    replace hst6 := hst6.fin (L' := [_, _]) (.cons rfl <| .nil)
    try simp only [List.take_succ_cons, List.take_zero, List.drop_succ_cons, List.drop_zero, List.cons_append, List.nil_append, List.append_nil, List.length_cons, List.length_nil, Nat.zero_add, Nat.reduceAdd] at hst6
    obtain ⟨z1, hR1, hst6⟩ := hst6.unx (k := 1) rfl (fun _ => rfl)
    have hlh6 := hlh5.trans hle6
    clear hst5 hfr5 hk6
    refine hK12 _ _ ?_; clear hK12
    refine rp0 hst6 hfr6 (.cons rfl (ob_move rfl) <| .cons rfl (ob_add rfl rfl ⟨by omega, by omega⟩) <| .cons rfl (ob_assign rfl) <| .nil) ?_
    intro a7 w7 m7 hst7 hle7 hk7
    have hfr7 := hk7.fr (T' := [(2, _), (3, _), (4, _), (5, _), (6, _)]) (.old rfl rfl <| .old rfl rfl <| .old rfl rfl <| .old rfl rfl <| .new rfl <| .nil)
    replace hR1 := hR1.mono hle7
    have hlh7 := hlh6.trans hle7
    clear hst6 hfr6 hk7
    exact ⟨(y + 1, ⟨rset x13 (applyT b x14) o.ts, o.rs⟩, z1), m7, by show (a.ts.map Prod.fst).length - (y + 1) < (a.ts.map Prod.fst).length - y; omega, ⟨hst7, hlh7, hfr7.sub (.cons rfl <| .cons rfl <| .cons rfl <| .cons rfl <| .cons rfl <| .nil), ⟨by show y + 1 ≤ (a.ts.map Prod.fst).length; omega, hR1, ⟨by rw [thenT_snoc hp9, ho9.1, e9, e8], by rw [thenT_snoc hp9]; have h7 := rset_len p9.1 (applyT b p9.2) (thenT b (a.ts.take y)); omega⟩, ⟨by show (rset x13 (applyT b x14) o.ts).length ≤ 1000; have h7 := rset_len x13 (applyT b x14) o.ts; have h6 : o.ts = thenT b (a.ts.take y) := (by rw [ho9.1]); have h5 := ho9.2; rw [← h6] at h5; omega, hol.2⟩⟩⟩⟩
  · try simp only [nq1, nq2, nq3, nq4, nq5, nq6, nq7, nq8, nq9, u8_eq] at hb13
    have hlm : (a.ts.map Prod.fst).length = a.ts.length := List.length_map _
    have hge : y = a.ts.length := by omega
    rw [List.take_of_length_le (by omega)] at ho9
    refine wp_exit ?_
    refine hK7 _ _ ?_; clear hK7
    refine seq_any fun _ hK16 => ?_
    refine seq_any fun _ hK17 => ?_
    have hoT := ho9.1
    refine rp0 hst5 hfr5 (.cons rfl (ob_assign rfl) <| .nil) ?_
    intro a6 w6 m6 hst6 hle6 hk6
    have hfr6 := hk6.fr (T' := [(6, _), (2, _), (3, _), (4, _), (5, _), (7, _)]) (.old rfl rfl <| .old rfl rfl <| .old rfl rfl <| .old rfl rfl <| .old rfl rfl <| .new rfl <| .nil)
    replace hqc_a := hqc_a.mono hle6
    replace hqd_a := hqd_a.mono hle6
    replace h_b := h_b.mono hle6
    replace hc2 := hc2.mono hle6
    replace hc3 := hc3.mono hle6
    replace hO := hO.mono hle6
    have hlh6 := hlh5.trans hle6
    clear hst5 hfr5 hk6
    refine hK17 _ _ ?_; clear hK17
    refine wp_block ?_
    have hlq18 := hlh6
    refine loop_any (T := [(6, _), (2, _), (3, _), (4, _), (5, _)]) (fun (y : Nat × Sub × ZZ) => ([(7, .int .i64 (y.1 : Int))] : List (Nat × Value))) (fun y => [_, .blk (.pointer (some ⟨g5, 0, none⟩)) (.cells (rsV y.2.1 y.2.2).toArray 40)]) (fun (y : Nat × Sub × ZZ) m => (fun (y : Nat) (o : Sub) (z : ZZ) => (y ≤ (a.rs.map Prod.fst).length) ∧ (RSubR m o (rsV o z)) ∧ (o = ⟨thenT b a.ts, thenRw b (a.rs.take y)⟩ ∧ (thenRw b (a.rs.take y)).length ≤ 10 + y) ∧ (o.ts.length ≤ 1000 ∧ o.rs.length ≤ 1000)) y.1 y.2.1 y.2.2) (fun y => (a.rs.map Prod.fst).length - y.1) ((0, o, z)) ⟨hst6, MLe.refl _, hfr6.sub (.cons rfl <| .cons rfl <| .cons rfl <| .cons rfl <| .cons rfl <| .cons rfl <| .nil), ⟨Nat.zero_le _, hO, ⟨by rw [hoT]; rfl, by show b.rs.length ≤ _; omega⟩, hol⟩⟩ fun y a7 w7 m7 hh7 => ?_
    have hst7 := hh7.st; have hle7 := hh7.le; have hfr7 := hh7.fr; have hrel := hh7.rel; clear hh7
    replace hqc_a := hqc_a.mono hle7
    replace hqd_a := hqd_a.mono hle7
    replace h_b := h_b.mono hle7
    replace hc2 := hc2.mono hle7
    replace hc3 := hc3.mono hle7
    replace hO := hO.mono hle7
    clear hst6 hfr6
    obtain ⟨y, o, z⟩ := y
    dsimp only at hrel hfr7 hst7
    obtain ⟨hyn, hO, ho9, hol⟩ := hrel
    have hyb : a.rs.length ≤ 10 := hla.2
    have hlh7 := hle7
    refine seq_any fun _ hK19 => ?_
    refine seq_any fun _ hK20 => ?_
    refine rp0 hst7 hfr7 (.cons rfl (ob_move rfl) <| .cons rfl (ob_fieldAddrO (off := 2) rfl Try.underlying40 rfl rfl Try.sizeOf37 rfl) <| .cons rfl (ob_load1 rfl hc2 Try.isAgg37 rfl) <| .cons rfl (ob_len rfl Try.underlying37) <| .cons rfl (ob_lss rfl rfl) <| .nil) ?_
    intro a8 w8 m8 hst8 hle8 hk8
    have hfr8 := hk8.fr (T' := [(7, _), (6, _), (2, _), (3, _), (4, _), (5, _), (34, _)]) (.old rfl rfl <| .old rfl rfl <| .old rfl rfl <| .old rfl rfl <| .old rfl rfl <| .old rfl rfl <| .new rfl <| .nil)
    replace hqc_a := hqc_a.mono hle8
    replace hqd_a := hqd_a.mono hle8
    replace h_b := h_b.mono hle8
    replace hc2 := hc2.mono hle8
    replace hc3 := hc3.mono hle8
    replace hO := hO.mono hle8
    have hlh8 := hlh7.trans hle8
    clear hst7 hfr7 hk8
    refine hK20 _ _ ?_; clear hK20
    refine cond_any hfr8 rfl rfl (fun hb34 => ?_) (fun hb34 => ?_)
    · try simp only [nq1, nq2, nq3, nq4, nq5, nq6, nq7, nq8, nq9, u8_eq] at hb34
      refine wp_skip ?_
      refine hK19 _ _ ?_; clear hK19
      refine seq_any fun _ hK21 => ?_
      refine wp_block ?_
      have hyl : y < a.rs.length := by rw [← List.length_map (f := Prod.fst)]; omega
      obtain ⟨p9, hp9⟩ : ∃ p, a.rs[y]? = some p := ⟨_, List.getElem?_eq_getElem hyl⟩
      have hyl2 : y < (a.rs.map Prod.snd).length := by rw [List.length_map]; exact hyl
      obtain ⟨p22, vs22, x22, ho22, hd22, hm_x22, ht22, hcv22, hl22, hv22⟩ := hqc_a.nth (k := y) (by omega)
      cases ho22
      subst hv22
      obtain ⟨p23, vs23, x23, ho23, hd23, hm_x23, ht23, hcv23, hl23, hv23⟩ := hqd_a.nth (k := y) (by omega)
      cases ho23
      obtain ⟨o23, c23, rfl, hs23, hr23⟩ := hv23.open_
      have hbs23 := hs23.big; have hcs23 := hs23.cap
      have e9 := at_map hp9 hd22
      have e8 := at_map hp9 hd23
      have hwx := hra p9 (List.mem_of_getElem? hp9)
      rw [← e8] at hwx
      refine region_any (tch := [(14, 1, (fun _ => .blkx _ _ _))]) (fun _ => mixed) hst8 hfr8 (by kernel_rfl) (by kernel_rfl) (by kernel_rfl) (.cons rfl (ob_loadLA (j := 1) rfl rfl Try.isAgg40 Try.sizeOf40 rfl) <| .cons rfl (ob_fieldAddrO (off := 2) rfl Try.underlying40 rfl rfl Try.sizeOf37 rfl) <| .cons rfl (ob_load1 rfl hc2 Try.isAgg37 rfl) <| .cons rfl (ob_move rfl) <| .cons rfl (ob_indexAddr (k := y) rfl rfl Try.underlying37 Try.sizeOf3 rfl (by omega)) <| .cons rfl (ob_load1' rfl hcv22 Try.isAgg3 rfl) <| .cons rfl (ob_loadS' rfl hc3 Try.isAgg40 Try.sizeOf40 rfl rfl) <| .cons rfl (ob_fieldAddrO (off := 3) rfl Try.underlying40 rfl rfl Try.sizeOf38 rfl) <| .cons rfl (ob_load1 rfl hc2 Try.isAgg38 rfl) <| .cons rfl (ob_move rfl) <| .cons rfl (ob_indexAddr (k := y) rfl rfl Try.underlying38 Try.sizeOf26 rfl (by omega)) <| .cons rfl (ob_loadS' rfl hcv23 Try.isAgg26 Try.sizeOf26 rfl rfl) <| .cons rfl (ob_call (φ := MP.rw (applyR b x23)) rfl (.cons rfl <| .cons rfl <| .nil) Try.call37 (fun w m hK => by have hle_ := KC.le hK; have hA := KC.agree hK; have h_b := h_b.mono hle_; have hv23 := hv23.mono hle_; exact FnG.mono (rapplyR_c (r := x23) hA h_b hv23 hwb (by omega)) fun _ _ _ _ h => h)) <| .cons rfl (ob_imgE 49 rfl rfl rfl fun y49 => ob_call (φ := MP.rsub ⟨o.ts, rset x22 (applyR b x23) o.rs⟩) rfl (.cons rfl <| .cons rfl <| .cons rfl <| .nil) Try.call25 (fun w m hK => by have hle_ := KC.le hK; have hA := KC.agree hK; have hr0_ := hK.2; have hO := hO.mono hle_; exact FnG.mono (rsetRow_c (s := o) (n := x22) (x := applyR b x23) hA hO hr0_ (by omega)) fun _ _ _ _ h => h)) <| .consT rfl rfl (fun _ => rfl) rfl (ob_imgTX 50 rfl rfl rfl fun y50 => ob_store' rfl rfl rfl Try.sizeOf40 rfl rfl rfl) <| .nil) ?_
      intro a9 w9 m9 hst9 hle9 hk9
      have hfr9 := hk9.fr (T' := [(7, _), (6, _), (2, _), (3, _), (4, _), (5, _)]) (.old rfl rfl <| .old rfl rfl <| .old rfl rfl <| .old rfl rfl <| .old rfl rfl <| .old rfl rfl <| .nil)
      replace hst9 := hst9.fin (L' := [_, _]) (.cons rfl <| .nil)
      try simp only [List.take_succ_cons, List.take_zero, List.drop_succ_cons, List.drop_zero, List.cons_append, List.nil_append, List.append_nil, List.length_cons, List.length_nil, Nat.zero_add, Nat.reduceAdd] at hst9
      obtain ⟨z1, hR1, hst9⟩ := hst9.unx (k := 1) rfl (fun _ => rfl)
      have hlh9 := hlh8.trans hle9
      clear hst8 hfr8 hk9
      refine hK21 _ _ ?_; clear hK21
      refine rp0 hst9 hfr9 (.cons rfl (ob_move rfl) <| .cons rfl (ob_add rfl rfl ⟨by omega, by omega⟩) <| .cons rfl (ob_assign rfl) <| .nil) ?_
      intro a10 w10 m10 hst10 hle10 hk10
      have hfr10 := hk10.fr (T' := [(6, _), (2, _), (3, _), (4, _), (5, _), (7, _)]) (.old rfl rfl <| .old rfl rfl <| .old rfl rfl <| .old rfl rfl <| .old rfl rfl <| .new rfl <| .nil)
      replace hR1 := hR1.mono hle10
      have hlh10 := hlh9.trans hle10
      clear hst9 hfr9 hk10
      exact ⟨(y + 1, ⟨o.ts, rset x22 (applyR b x23) o.rs⟩, z1), m10, by show (a.rs.map Prod.fst).length - (y + 1) < (a.rs.map Prod.fst).length - y; omega, ⟨hst10, hlh10, hfr10.sub (.cons rfl <| .cons rfl <| .cons rfl <| .cons rfl <| .cons rfl <| .cons rfl <| .nil), ⟨by show y + 1 ≤ (a.rs.map Prod.fst).length; omega, hR1, ⟨by rw [thenRw_snoc hp9, ho9.1, e9, e8], by rw [thenRw_snoc hp9]; have h7 := rset_len p9.1 (applyR b p9.2) (thenRw b (a.rs.take y)); omega⟩, ⟨hol.1, by show (rset x22 (applyR b x23) o.rs).length ≤ 1000; have h7 := rset_len x22 (applyR b x23) o.rs; have h6 : o.rs = thenRw b (a.rs.take y) := (by rw [ho9.1]); have h5 := ho9.2; rw [← h6] at h5; omega⟩⟩⟩⟩
    · try simp only [nq1, nq2, nq3, nq4, nq5, nq6, nq7, nq8, nq9, u8_eq] at hb34
      have hlm : (a.rs.map Prod.fst).length = a.rs.length := List.length_map _
      have hge : y = a.rs.length := by omega
      rw [List.take_of_length_le (by omega)] at ho9
      refine wp_exit ?_
      refine hK16 _ _ ?_; clear hK16
      refine seq_any fun _ hK25 => ?_
      refine ra0 (tch := [(1, 0, (fun _ => .blk _ _))]) hst8 hfr8 (.cons rfl (ob_loadLA (j := 1) rfl rfl Try.isAgg40 Try.sizeOf40 rfl) <| .consT rfl rfl (fun _ => rfl) rfl (ob_store' rfl rfl rfl Try.sizeOf40 rfl rfl rfl) <| .nil) ?_
      intro a9 w9 m9 hst9 hle9 hk9
      have hfr9 := hk9.fr (T' := [(7, _), (6, _), (4, _)]) (.old rfl rfl <| .old rfl rfl <| .old rfl rfl <| .nil)
      replace hst9 := hst9.fin (L' := [_, _]) (.cons rfl <| .nil)
      try simp only [List.take_succ_cons, List.take_zero, List.drop_succ_cons, List.drop_zero, List.cons_append, List.nil_append, List.append_nil, List.length_cons, List.length_nil, Nat.zero_add, Nat.reduceAdd] at hst9
      replace hO := hO.mono hle9
      have hlh9 := hlh8.trans hle9
      clear hst8 hfr8 hk9
      refine hK25 _ _ ?_; clear hK25
      refine wp_ret ?_
      repeat (with_reducible first | refine then_ret ?_ | refine block_ret ?_)
      exact fn_ret hst9 hfr9 rfl (.cell rfl (load_blk (blk_heap (hst9.loc.at_ (k := 0) rfl)) Try.isAgg40 Try.sizeOf40) <| .nil) (⟨z, by have h7 : thenR a b = o := ho9.1.symm; rw [h7]; rfl, by have h7 : thenR a b = o := ho9.1.symm; rw [h7]; exact hO⟩)

end Go.Proofs.Ytfphefkfbhjfdaa
