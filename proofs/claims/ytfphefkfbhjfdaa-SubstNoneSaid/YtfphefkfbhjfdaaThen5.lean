/-
  One substitution, and then another one: the walk. Conditions: those of each theorem.
-/
import Derived.Test.YtfphefkfbhjfdaaOver5
namespace Go.Proofs.Ytfphefkfbhjfdaa
set_option linter.all false
set_option maxRecDepth 4000
open Go.RowKit
theorem applyT_wd {B R : Nat} {s : Sub} (h : SubW B R s) (t : Ty) : wdT (applyT s t) ≤ max B (wdT t) + 2 * R := by
  induction t using Ty.rec_ with
  | h t ih =>
    by_cases h7 : t.kind = 7
    · rw [applyT_var h7]
      cases hq : alook t.var s.ts with
      | none => show wdT t ≤ _; omega
      | some x => have := h.1 _ _ hq; show wdT x ≤ _; omega
    · rw [applyT_not h7, wdT_eq, wdT_eq t]
      have hl : (applyR s ⟨t.labels, t.rv⟩).labels.length ≤ t.labels.length + R := applyR_len h ⟨t.labels, t.rv⟩
      have key : ∀ l : List Ty, (∀ u ∈ l, u ∈ t.args) → wdTs (applyTs s l) ≤ max B (wdTs l) + 2 * R := by
        intro l
        induction l with
        | nil => intro _; rw [applyTs]; simp only [wdTs]; omega
        | cons x l ihl =>
          intro hl
          have h1 := ih x (hl x (.head _)); have h2 := ihl fun u hu => hl u (.tail _ hu)
          rw [applyTs]; simp only [wdTs]; omega
      have hk := key t.args fun u hu => hu
      have ha := applyTs_len s t.args
      show max (2 * (if t.kind = 5 then (applyR s ⟨t.labels, t.rv⟩).labels else t.labels).length) (max (11 * (applyTs s t.args).length) (wdTs (applyTs s t.args))) ≤ max B (max (2 * t.labels.length) (max (11 * t.args.length) (wdTs t.args))) + 2 * R
      split <;> omega
/-- What Then says, by its lookups. -/
def ThenS (a b o : Sub) : Prop := Over (applyT b) a.ts b.ts o.ts ∧ Over (applyR b) a.rs b.rs o.rs
def MP.thenS (a b : Sub) : MP := MP.mem (fun y : Sub × QQ => .agg (subV y.2).toArray) (fun y m => SubR m y.1 (subV y.2) ∧ ThenS a b y.1) fun hm h => ⟨h.1.mono hm, h.2⟩
theorem ThenS.w {a b o : Sub} {A B Q R : Nat} (h : ThenS a b o) (ha : SubW A Q a) (hb : SubW B R b) : SubW (max B A + 2 * R) (Q + R) o := ⟨fun n t ht => by
  rw [h.1 n] at ht
  cases hq : alook n a.ts with
  | none => rw [hq] at ht; have := hb.1 n t (by simpa using ht); omega
  | some x => rw [hq] at ht; simp at ht; subst ht; have h1 := applyT_wd hb x; have h2 := ha.1 n x hq; omega, fun n t ht => by
  rw [h.2 n] at ht
  cases hq : alook n a.rs with
  | none => rw [hq] at ht; have := hb.2 n t (by simpa using ht); omega
  | some x => rw [hq] at ht; simp at ht; subst ht; have h1 := applyR_len hb x; have h2 := ha.2 n x hq; omega⟩
theorem nodup_head {κ α : Type} {k : κ} {x : α} {d l : List (κ × α)} {L : List (κ × α)} (hp : (d ++ (k, x) :: l).Perm L) (hn : (L.map Prod.fst).Nodup) : ¬ k ∈ d.map Prod.fst := by
  have h := (hp.map Prod.fst).nodup_iff.2 hn
  rw [List.map_append, List.map_cons] at h
  exact fun hk => (List.nodup_append.1 h).2.2 k hk k (.head _) rfl
set_option maxHeartbeats 3200000 in
theorem then_c {w : World} {m : Mem} {a : Sub} {vs_a : List Value} {b : Sub} {vs_b : List Value} (hA : Agree w m) (h_a : SubR m a vs_a) (h_b : SubR m b vs_b) (hn_ts : (a.ts.map Prod.fst).Nodup) (hn_rs : (a.rs.map Prod.fst).Nodup) (hwa : SubW 17592186044000 20 a) (hwb : SubW 17592186044000 20 b) : FnV Try.prog 21 #[.agg vs_a.toArray, .agg vs_b.toArray] w m (fun _ m v => (MP.thenS a b).p m v) := by
  obtain ⟨oT_a, oR_a, rfl, hst_a, hsr_a⟩ := id h_a
  obtain ⟨oT_b, oR_b, rfl, hst_b, hsr_b⟩ := id h_b
  refine fn_enter (vs := [_, _]) Try.func21 rfl rfl rfl fun a0 hfr0 => ?_
  have hst0 := st_enter hA (loc_nil [] _ w m)
  have hM : MLe m m := MLe.refl m
  refine seq_any fun _ hK1 => ?_
  replace hst0 := hst0.more (r := .free) trivial List.nodup_nil (by simp [Res.blocks])
  refine ra0 (tch := [(2, 0, (fun v => .blk v _))]) hst0 hfr0 (.cons rfl (ob_box rfl rfl) <| .cons rfl (ob_box rfl rfl) <| .consT rfl rfl (fun _ => rfl) rfl (ob_allocL Try.zeroValue36 rfl) <| .nil) ?_
  intro a1 w1 m1 hst1 hle1 hk1
  have hfr1 := hk1.fr (T' := []) (.nil)
  obtain ⟨g2, e2, hc2⟩ := hk1.ex 2 rfl
  replace hfr1 := hfr1.cons e2
  obtain ⟨g3, e3, hc3⟩ := hk1.ex 3 rfl
  replace hfr1 := hfr1.cons e3
  obtain ⟨g4, e4, _⟩ := hk1.ex 4 rfl
  replace hfr1 := hfr1.cons e4
  replace hst1 := hst1.fin (L' := [_]) (.cons e4 <| .nil)
  replace hst_a := hst_a.mono hle1
  replace hsr_a := hsr_a.mono hle1
  replace h_b := h_b.mono hle1
  clear hst0 hfr0 hk1
  refine hK1 _ _ ?_; clear hK1
  refine seq_any fun _ hK5 => ?_
  replace hst1 := hst1.more (r := .free) trivial List.nodup_nil (by simp [Res.blocks])
  refine ra0 (tch := [(1, 1, (fun v => .blk v _)), (2, 1, (fun v => .blk v _))]) hst1 hfr1 (.cons rfl (ob_loadS' rfl hc3 Try.isAgg36 Try.sizeOf36 rfl rfl) <| .consT rfl rfl (fun _ => rfl) rfl (ob_allocL Try.zeroValue36 rfl) <| .consT rfl rfl (fun _ => rfl) rfl (ob_imgT 5 rfl rfl rfl fun y5 => ob_storeF rfl rfl rfl rfl rfl Try.sizeOf36 rfl rfl rfl) <| .nil) ?_
  intro a2 w2 m2 hst2 hle2 hk2
  have hfr2 := hk2.fr (T' := [(2, _), (3, _), (4, _)]) (.old rfl rfl <| .old rfl rfl <| .old rfl rfl <| .nil)
  obtain ⟨g5, e6, _⟩ := hk2.ex 5 rfl
  replace hfr2 := hfr2.cons e6
  replace hst2 := hst2.fin (L' := [_, _]) (.cons e6 <| .cons e6 <| .nil)
  try simp only [List.take_succ_cons, List.take_zero, List.drop_succ_cons, List.drop_zero, List.cons_append, List.nil_append, List.append_nil, List.length_cons, List.length_nil, Nat.zero_add, Nat.reduceAdd] at hst2
  replace hst_a := hst_a.mono hle2
  replace hsr_a := hsr_a.mono hle2
  replace h_b := h_b.mono hle2
  replace hc2 := hc2.mono hle2
  replace hc3 := hc3.mono hle2
  clear hst1 hfr1 hk2
  refine hK5 _ _ ?_; clear hK5
  refine seq_any fun _ hK7 => ?_
  refine seq_any fun _ hK8 => ?_
  obtain ⟨es9, hrv9, hes9⟩ := id hst_a
  replace hst2 := hst2.more (r := .free) trivial List.nodup_nil (by simp [Res.blocks])
  refine ra0 (tch := [(2, 2, (fun v => .iter v _ none))]) hst2 hfr2 (.cons rfl (ob_fieldAddrO (off := 0) rfl Try.underlying36 rfl rfl Try.sizeOf32 rfl) <| .cons rfl (ob_load1 rfl hc2 Try.isAgg32 rfl) <| .consT rfl rfl (fun _ => rfl) rfl (ob_range rfl Try.underlying32 (fun w m hK => hrv9.mono (KC.le hK))) <| .nil) ?_
  intro a3 w3 m3 hst3 hle3 hk3
  have hfr3 := hk3.fr (T' := [(2, _), (3, _), (4, _), (5, _)]) (.old rfl rfl <| .old rfl rfl <| .old rfl rfl <| .old rfl rfl <| .nil)
  obtain ⟨gr9, e10, _⟩ := hk3.ex 13 rfl
  replace hfr3 := hfr3.cons e10
  replace hst3 := hst3.fin (L' := [_, _, _]) (.cons e10 <| .nil)
  replace hsr_a := hsr_a.mono hle3
  replace h_b := h_b.mono hle3
  replace hc2 := hc2.mono hle3
  replace hc3 := hc3.mono hle3
  replace hes9 := hes9.mono hle3
  clear hst2 hfr2 hk3
  refine hK8 _ _ ?_; clear hK8
  refine wp_block ?_
  refine loop_any (T := [(2, _), (3, _), (4, _), (5, _), (13, _)]) (fun (y : (List (Int × Value)) × (List (Int × Ty)) × (List (Int × Ty)) × (Option (Value × Value)) × (Sub) × (QQ)) => ([] : List (Nat × Value))) (fun y => [_, .blk (.pointer (some ⟨g5, 0, none⟩)) (.cells (subV y.2.2.2.2.2).toArray 36), .iter (.pointer (some ⟨gr9, 0, none⟩)) (encs KI y.1) y.2.2.2.1]) (fun (y : (List (Int × Value)) × (List (Int × Ty)) × (List (Int × Ty)) × (Option (Value × Value)) × (Sub) × (QQ)) m => (fun (es : List (Int × Value)) (l : List (Int × Ty)) (dn : List (Int × Ty)) (la : Option (Value × Value)) (o : Sub) (q : QQ) => (EntsR RTy m es l) ∧ ((dn ++ l).Perm a.ts) ∧ (SubR m o (subV q)) ∧ (Over (applyT b) dn b.ts o.ts) ∧ (o.rs = b.rs)) y.1 y.2.1 y.2.2.1 y.2.2.2.1 y.2.2.2.2.1 y.2.2.2.2.2) (fun y => y.2.1.length) ((es9, a.ts, [], none, b, (oT_b, oR_b))) ⟨hst3, MLe.refl _, hfr3.sub (.cons rfl <| .cons rfl <| .cons rfl <| .cons rfl <| .cons rfl <| .nil), ⟨hes9, by simp, h_b, Over.nil _ _, rfl⟩⟩ fun y a4 w4 m4 hh4 => ?_
  have hst4 := hh4.st; have hle4 := hh4.le; have hfr4 := hh4.fr; have hrel := hh4.rel; clear hh4
  replace hsr_a := hsr_a.mono hle4
  replace h_b := h_b.mono hle4
  replace hc2 := hc2.mono hle4
  replace hc3 := hc3.mono hle4
  replace hes9 := hes9.mono hle4
  clear hst3 hfr3
  obtain ⟨es, l, dn, la, o, q⟩ := y
  dsimp only at hrel hfr4 hst4
  obtain ⟨hes9, hpm, hO, hov, hot⟩ := hrel
  have hlh4 := hle4
  refine seq_any fun _ hK12 => ?_
  refine region_cut 1 (by kernel_rfl) ?_
  refine ops_seq (tch := [(0, 2, (nextRes _ _))]) hst4 hfr4 (by kernel_rfl) (by kernel_rfl) (by kernel_rfl) (.consT rfl rfl (fun _ => rfl) rfl (ob_next rfl) <| .nil) ?_
  intro a5 w5 m5 hst5 hle5 hk5
  have hfr5 := hk5.fr (T' := [(2, _), (3, _), (4, _), (5, _), (13, _)]) (.old rfl rfl <| .old rfl rfl <| .old rfl rfl <| .old rfl rfl <| .old rfl rfl <| .nil)
  obtain ⟨yn9, e14, hyn9⟩ := hk5.ex 14 rfl
  replace hfr5 := hfr5.cons e14
  replace hst5 := hst5.fin (L' := [_, _, _]) (.cons e14 <| .nil)
  replace hsr_a := hsr_a.mono hle5
  replace h_b := h_b.mono hle5
  replace hc2 := hc2.mono hle5
  replace hc3 := hc3.mono hle5
  replace hes9 := hes9.mono hle5
  replace hO := hO.mono hle5
  have hlh5 := hlh4.trans hle5
  clear hst4 hfr4 hk5
  rcases yn9 with _ | e9
  · skip
    have hl0 := EntsR.nil_iff hes9 hyn9
    subst hl0
    dsimp only [MP.next, MP.mem, nextV, nextRes] at hst5 hfr5
    refine ops_seq (tch := []) hst5 hfr5 (by kernel_rfl) (by kernel_rfl) (by kernel_rfl) (.cons rfl (ob_extract rfl rfl) <| .nil) ?_
    intro a6 w6 m6 hst6 hle6 hk6
    have hfr6 := hk6.fr (T' := [(2, _), (3, _), (4, _), (5, _), (13, _), (14, _), (15, _)]) (.old rfl rfl <| .old rfl rfl <| .old rfl rfl <| .old rfl rfl <| .old rfl rfl <| .old rfl rfl <| .new rfl <| .nil)
    replace hsr_a := hsr_a.mono hle6
    replace h_b := h_b.mono hle6
    replace hc2 := hc2.mono hle6
    replace hc3 := hc3.mono hle6
    replace hes9 := hes9.mono hle6
    replace hO := hO.mono hle6
    have hlh6 := hlh5.trans hle6
    clear hst5 hfr5 hk6
    refine hK12 _ _ ?_; clear hK12
    refine seq_any fun _ hK15 => ?_
    refine cond_any hfr6 rfl rfl (fun hb15 => ?_) (fun hb15 => ?_)
    · exact absurd hb15 (by simp)
    · try simp only [nq1, nq2, nq3, nq4, nq5, nq6, nq7, nq8, nq9, u8_eq] at hb15
      refine wp_exit ?_
      refine hK7 _ _ ?_; clear hK7
      refine seq_any fun _ hK16 => ?_
      refine seq_any fun _ hK17 => ?_
      have hovT := hov.perm (by simpa using hpm) (by have h9 := (List.append_nil dn) ▸ hpm; exact (h9.map Prod.fst).nodup_iff.2 hn_ts)
      have hrs9 := hot
      obtain ⟨es18, hrv18, hes18⟩ := id hsr_a
      replace hst6 := hst6.more (r := .free) trivial List.nodup_nil (by simp [Res.blocks])
      refine ra0 (tch := [(2, 3, (fun v => .iter v _ none))]) hst6 hfr6 (.cons rfl (ob_fieldAddrO (off := 1) rfl Try.underlying36 rfl rfl Try.sizeOf34 rfl) <| .cons rfl (ob_load1 rfl hc2 Try.isAgg34 rfl) <| .consT rfl rfl (fun _ => rfl) rfl (ob_range rfl Try.underlying34 (fun w m hK => hrv18.mono (KC.le hK))) <| .nil) ?_
      intro a7 w7 m7 hst7 hle7 hk7
      have hfr7 := hk7.fr (T' := [(3, _), (4, _), (5, _)]) (.old rfl rfl <| .old rfl rfl <| .old rfl rfl <| .nil)
      obtain ⟨gr18, e19, _⟩ := hk7.ex 27 rfl
      replace hfr7 := hfr7.cons e19
      replace hst7 := hst7.fin (L' := [_, _, _, _]) (.cons e19 <| .nil)
      replace h_b := h_b.mono hle7
      replace hc3 := hc3.mono hle7
      replace hes9 := hes9.mono hle7
      replace hO := hO.mono hle7
      replace hes18 := hes18.mono hle7
      have hlh7 := hlh6.trans hle7
      clear hst6 hfr6 hk7
      refine hK17 _ _ ?_; clear hK17
      refine wp_block ?_
      have hlq20 := hlh7
      refine loop_any (T := [(3, _), (4, _), (5, _), (27, _)]) (fun (y : (List (Int × Value)) × (List (Int × Rw)) × (List (Int × Rw)) × (Option (Value × Value)) × (Sub) × (QQ)) => ([] : List (Nat × Value))) (fun y => [_, .blk (.pointer (some ⟨g5, 0, none⟩)) (.cells (subV y.2.2.2.2.2).toArray 36), _, .iter (.pointer (some ⟨gr18, 0, none⟩)) (encs KI y.1) y.2.2.2.1]) (fun (y : (List (Int × Value)) × (List (Int × Rw)) × (List (Int × Rw)) × (Option (Value × Value)) × (Sub) × (QQ)) m => (fun (es : List (Int × Value)) (l : List (Int × Rw)) (dn : List (Int × Rw)) (la : Option (Value × Value)) (o : Sub) (q : QQ) => (EntsR RRw m es l) ∧ ((dn ++ l).Perm a.rs) ∧ (SubR m o (subV q)) ∧ (Over (applyR b) dn b.rs o.rs) ∧ (Over (applyT b) a.ts b.ts o.ts)) y.1 y.2.1 y.2.2.1 y.2.2.2.1 y.2.2.2.2.1 y.2.2.2.2.2) (fun y => y.2.1.length) ((es18, a.rs, [], none, o, q)) ⟨hst7, MLe.refl _, hfr7.sub (.cons rfl <| .cons rfl <| .cons rfl <| .cons rfl <| .nil), ⟨hes18, by simp, hO, by show Over _ [] b.rs o.rs; rw [hrs9]; exact Over.nil _ _, hovT⟩⟩ fun y a8 w8 m8 hh8 => ?_
      have hst8 := hh8.st; have hle8 := hh8.le; have hfr8 := hh8.fr; have hrel := hh8.rel; clear hh8
      replace h_b := h_b.mono hle8
      replace hc3 := hc3.mono hle8
      replace hes9 := hes9.mono hle8
      replace hO := hO.mono hle8
      clear hst7 hfr7
      obtain ⟨es, l, dn, la, o, q⟩ := y
      dsimp only at hrel hfr8 hst8
      obtain ⟨hes9, hpm, hO, hov, hot⟩ := hrel
      have hlh8 := hle8
      refine seq_any fun _ hK21 => ?_
      refine region_cut 1 (by kernel_rfl) ?_
      refine ops_seq (tch := [(0, 3, (nextRes _ _))]) hst8 hfr8 (by kernel_rfl) (by kernel_rfl) (by kernel_rfl) (.consT rfl rfl (fun _ => rfl) rfl (ob_next rfl) <| .nil) ?_
      intro a9 w9 m9 hst9 hle9 hk9
      have hfr9 := hk9.fr (T' := [(3, _), (4, _), (5, _), (27, _)]) (.old rfl rfl <| .old rfl rfl <| .old rfl rfl <| .old rfl rfl <| .nil)
      obtain ⟨yn18, e23, hyn18⟩ := hk9.ex 28 rfl
      replace hfr9 := hfr9.cons e23
      replace hst9 := hst9.fin (L' := [_, _, _, _]) (.cons e23 <| .nil)
      replace h_b := h_b.mono hle9
      replace hc3 := hc3.mono hle9
      replace hes9 := hes9.mono hle9
      replace hO := hO.mono hle9
      have hlh9 := hlh8.trans hle9
      clear hst8 hfr8 hk9
      rcases yn18 with _ | e9
      · skip
        have hl0 := EntsR.nil_iff hes9 hyn18
        subst hl0
        dsimp only [MP.next, MP.mem, nextV, nextRes] at hst9 hfr9
        refine ops_seq (tch := []) hst9 hfr9 (by kernel_rfl) (by kernel_rfl) (by kernel_rfl) (.cons rfl (ob_extract rfl rfl) <| .nil) ?_
        intro a10 w10 m10 hst10 hle10 hk10
        have hfr10 := hk10.fr (T' := [(3, _), (4, _), (5, _), (27, _), (28, _), (29, _)]) (.old rfl rfl <| .old rfl rfl <| .old rfl rfl <| .old rfl rfl <| .old rfl rfl <| .new rfl <| .nil)
        replace hO := hO.mono hle10
        have hlh10 := hlh9.trans hle10
        clear hst9 hfr9 hk10
        refine hK21 _ _ ?_; clear hK21
        refine seq_any fun _ hK24 => ?_
        refine cond_any hfr10 rfl rfl (fun hb29 => ?_) (fun hb29 => ?_)
        · exact absurd hb29 (by simp)
        · try simp only [nq1, nq2, nq3, nq4, nq5, nq6, nq7, nq8, nq9, u8_eq] at hb29
          refine wp_exit ?_
          refine hK16 _ _ ?_; clear hK16
          refine seq_any fun _ hK25 => ?_
          refine ra0 (tch := [(1, 0, (fun _ => .blk _ _))]) hst10 hfr10 (.cons rfl (ob_loadLA (j := 1) rfl rfl Try.isAgg36 Try.sizeOf36 rfl) <| .consT rfl rfl (fun _ => rfl) rfl (ob_store' rfl rfl rfl Try.sizeOf36 rfl rfl rfl) <| .nil) ?_
          intro a11 w11 m11 hst11 hle11 hk11
          have hfr11 := hk11.fr (T' := [(4, _)]) (.old rfl rfl <| .nil)
          replace hst11 := hst11.fin (L' := [_, _, _, _]) (.cons rfl <| .nil)
          try simp only [List.take_succ_cons, List.take_zero, List.drop_succ_cons, List.drop_zero, List.cons_append, List.nil_append, List.append_nil, List.length_cons, List.length_nil, Nat.zero_add, Nat.reduceAdd] at hst11
          replace hO := hO.mono hle11
          have hlh11 := hlh10.trans hle11
          clear hst10 hfr10 hk11
          refine hK25 _ _ ?_; clear hK25
          refine wp_ret ?_
          repeat (with_reducible first | refine then_ret ?_ | refine block_ret ?_)
          exact fn_ret hst11 hfr11 rfl (.cell rfl (load_blk (blk_heap (hst11.loc.at_ (k := 0) rfl)) Try.isAgg36 Try.sizeOf36) <| .nil) (⟨(o, q), rfl, hO, hot, hov.perm (by simpa using hpm) (by have h9 := (List.append_nil dn) ▸ hpm; exact (h9.map Prod.fst).nodup_iff.2 hn_rs)⟩)
      · skip
        obtain ⟨k9, x9, vs9, es8, l8, rfl, hx9, hp9, he9, hes8, hl8⟩ := EntsR.next hes9 hyn18
        dsimp only [MP.next, MP.mem, nextV, nextRes] at hst9 hfr9
        rw [he9] at hst9
        obtain ⟨o9, c9, rfl, hs9, hr9⟩ := hx9.open_
        have hbs9 := hs9.big; have hcs9 := hs9.cap
        refine ops_seq (tch := []) hst9 hfr9 (by kernel_rfl) (by kernel_rfl) (by kernel_rfl) (.cons rfl (ob_extract rfl rfl) <| .nil) ?_
        intro a10 w10 m10 hst10 hle10 hk10
        have hfr10 := hk10.fr (T' := [(3, _), (4, _), (5, _), (27, _), (28, _), (29, _)]) (.old rfl rfl <| .old rfl rfl <| .old rfl rfl <| .old rfl rfl <| .old rfl rfl <| .new rfl <| .nil)
        replace h_b := h_b.mono hle10
        replace hc3 := hc3.mono hle10
        replace hO := hO.mono hle10
        replace hx9 := hx9.mono hle10
        replace hes8 := hes8.mono hle10
        have hlh10 := hlh9.trans hle10
        clear hst9 hfr9 hk10
        refine hK21 _ _ ?_; clear hK21
        refine seq_any fun _ hK27 => ?_
        refine cond_any hfr10 rfl rfl (fun hb29 => ?_) (fun hb29 => ?_)
        · try simp only [nq1, nq2, nq3, nq4, nq5, nq6, nq7, nq8, nq9, u8_eq] at hb29
          refine wp_skip ?_
          refine hK27 _ _ ?_; clear hK27
          refine wp_block ?_
          refine seq_any fun _ hK28 => ?_
          replace hst10 := hst10.more (r := .free) trivial List.nodup_nil (by simp [Res.blocks])
          refine ra0 (tch := [(3, 4, (fun v => .blk v _)), (5, 4, (fun v => .blk v _))]) hst10 hfr10 (.cons rfl (ob_entry (j := 3) rfl rfl) <| .cons rfl (ob_extract rfl rfl) <| .cons rfl (ob_extract rfl rfl) <| .consT rfl rfl (fun _ => rfl) rfl (ob_allocL Try.zeroValue26 rfl) <| .cons rfl (ob_assign rfl) <| .consT rfl rfl (fun _ => rfl) rfl (ob_imgT 9 rfl rfl rfl fun y9 => ob_storeF rfl rfl rfl rfl rfl Try.sizeOf26 rfl rfl rfl) <| .nil) ?_
          intro a11 w11 m11 hst11 hle11 hk11
          have hfr11 := hk11.fr (T' := [(3, _), (4, _), (5, _), (27, _), (8, _)]) (.old rfl rfl <| .old rfl rfl <| .old rfl rfl <| .old rfl rfl <| .new rfl <| .nil)
          obtain ⟨g29, e29, _⟩ := hk11.ex 9 rfl
          replace hfr11 := hfr11.cons e29
          replace hst11 := hst11.fin (L' := [_, _, _, _, _]) (.cons e29 <| .cons e29 <| .nil)
          try simp only [List.take_succ_cons, List.take_zero, List.drop_succ_cons, List.drop_zero, List.cons_append, List.nil_append, List.append_nil, List.length_cons, List.length_nil, Nat.zero_add, Nat.reduceAdd] at hst11
          replace h_b := h_b.mono hle11
          replace hc3 := hc3.mono hle11
          replace hO := hO.mono hle11
          replace hx9 := hx9.mono hle11
          replace hes8 := hes8.mono hle11
          have hlh11 := hlh10.trans hle11
          clear hst10 hfr10 hk11
          have hwb9 : SubW 17592186044416 40 b := ⟨fun n t h => Nat.le_trans (hwb.1 n t h) (by omega), fun n t h => Nat.le_trans (hwb.2 n t h) (by omega)⟩
          have hm9 : (k9, x9) ∈ a.rs := hpm.mem_iff.1 (List.mem_append_right _ (hp9.mem_iff.2 (.head _)))
          have hn9 := nodup_head ((hp9.symm.append_left dn).trans hpm) hn_rs
          have hk9 : alook k9 dn = none := alook_none.2 hn9
          have hwx : x9.labels.length ≤ 20 := hwa.2 k9 x9 (alook_of_mem hn_rs hm9)
          have hwy := applyR_len hwb x9
          refine hK28 _ _ ?_; clear hK28
          refine region_any (tch := [(6, 1, (fun _ => .blkx _ _ _))]) (fun _ => mixed) hst11 hfr11 (by kernel_rfl) (by kernel_rfl) (by kernel_rfl) (.cons rfl (ob_loadLA (j := 1) rfl rfl Try.isAgg36 Try.sizeOf36 rfl) <| .cons rfl (ob_move rfl) <| .cons rfl (ob_loadS' rfl hc3 Try.isAgg36 Try.sizeOf36 rfl rfl) <| .cons rfl (ob_loadLA (j := 4) rfl rfl Try.isAgg26 Try.sizeOf26 rfl) <| .cons rfl (ob_call (φ := MP.rw (applyR b x9)) rfl (.cons rfl <| .cons rfl <| .nil) Try.call34 (fun w m hK => by have hle_ := KC.le hK; have hA := KC.agree hK; have h_b := h_b.mono hle_; have hx9 := hx9.mono hle_; exact FnG.mono (applyR_c (r := x9) hA h_b hx9 hwb9 (by omega)) fun _ _ _ _ h => h)) <| .cons rfl (ob_imgE 37 rfl rfl rfl fun y37 => ob_call (φ := MP.sub ⟨o.ts, aset k9 (applyR b x9) o.rs⟩) rfl (.cons rfl <| .cons rfl <| .cons rfl <| .nil) Try.call11 (fun w m hK => by have hle_ := KC.le hK; have hA := KC.agree hK; have hr0_ := hK.2; have hO := hO.mono hle_; exact FnG.mono (setRow_c (n := k9) (r := applyR b x9) hA hO hr0_ (by omega)) fun _ _ _ _ h => h)) <| .consT rfl rfl (fun _ => rfl) rfl (ob_imgTX 38 rfl rfl rfl fun y38 => ob_store' rfl rfl rfl Try.sizeOf36 rfl rfl rfl) <| .nil) ?_
          intro a12 w12 m12 hst12 hle12 hk12
          have hfr12 := hk12.fr (T' := [(3, _), (4, _), (5, _), (27, _)]) (.old rfl rfl <| .old rfl rfl <| .old rfl rfl <| .old rfl rfl <| .nil)
          replace hst12 := hst12.fin (L' := [_, _, _, _, _]) (.cons rfl <| .nil)
          try simp only [List.take_succ_cons, List.take_zero, List.drop_succ_cons, List.drop_zero, List.cons_append, List.nil_append, List.append_nil, List.length_cons, List.length_nil, Nat.zero_add, Nat.reduceAdd] at hst12
          obtain ⟨⟨q3, q4⟩, hS1, hst12⟩ := hst12.unx (k := 1) rfl (fun _ => rfl)
          replace hes8 := hes8.mono hle12
          have hlh12 := hlh11.trans hle12
          clear hst11 hfr11 hk12
          have hst12 := hst12.take 4
          exact ⟨(es8, l8, (dn ++ [(k9, x9)]), _, ⟨o.ts, aset k9 (applyR b x9) o.rs⟩, (q3, q4)), m12, by show l8.length < l.length; omega, ⟨hst12, hlh12, hfr12.sub (.cons rfl <| .cons rfl <| .cons rfl <| .cons rfl <| .nil), ⟨hes8, by rw [List.append_assoc]; exact (hp9.symm.append_left dn).trans hpm, hS1, hov.snoc x9 hk9, hot⟩⟩⟩
        · exact absurd hb29 (by simp)
  · skip
    obtain ⟨k9, x9, vs9, es8, l8, rfl, hx9, hp9, he9, hes8, hl8⟩ := EntsR.next hes9 hyn9
    dsimp only [MP.next, MP.mem, nextV, nextRes] at hst5 hfr5
    rw [he9] at hst5
    obtain ⟨o9, c9, oL9, cL9, rfl, hkd9, hs9, hi9, hj9, hr9⟩ := hx9.open_
    have hbg9 := hkd9.big; have hcp9 := hkd9.cap; have hbs9 := hs9.big; have hcs9 := hs9.cap
    have hrw9 : RwR _ ⟨x9.labels, x9.rv⟩ _ := ⟨_, _, rfl, hs9, hr9⟩
    refine ops_seq (tch := []) hst5 hfr5 (by kernel_rfl) (by kernel_rfl) (by kernel_rfl) (.cons rfl (ob_extract rfl rfl) <| .nil) ?_
    intro a6 w6 m6 hst6 hle6 hk6
    have hfr6 := hk6.fr (T' := [(2, _), (3, _), (4, _), (5, _), (13, _), (14, _), (15, _)]) (.old rfl rfl <| .old rfl rfl <| .old rfl rfl <| .old rfl rfl <| .old rfl rfl <| .old rfl rfl <| .new rfl <| .nil)
    replace h_b := h_b.mono hle6
    replace hc3 := hc3.mono hle6
    replace hO := hO.mono hle6
    replace hx9 := hx9.mono hle6
    replace hes8 := hes8.mono hle6
    have hlh6 := hlh5.trans hle6
    clear hst5 hfr5 hk6
    refine hK12 _ _ ?_; clear hK12
    refine seq_any fun _ hK31 => ?_
    refine cond_any hfr6 rfl rfl (fun hb15 => ?_) (fun hb15 => ?_)
    · try simp only [nq1, nq2, nq3, nq4, nq5, nq6, nq7, nq8, nq9, u8_eq] at hb15
      refine wp_skip ?_
      refine hK31 _ _ ?_; clear hK31
      refine wp_block ?_
      refine seq_any fun _ hK32 => ?_
      replace hst6 := hst6.more (r := .free) trivial List.nodup_nil (by simp [Res.blocks])
      refine ra0 (tch := [(3, 3, (fun v => .blk v _)), (5, 3, (fun v => .blk v _))]) hst6 hfr6 (.cons rfl (ob_entry (j := 2) rfl rfl) <| .cons rfl (ob_extract rfl rfl) <| .cons rfl (ob_extract rfl rfl) <| .consT rfl rfl (fun _ => rfl) rfl (ob_allocL Try.zeroValue28 rfl) <| .cons rfl (ob_assign rfl) <| .consT rfl rfl (fun _ => rfl) rfl (ob_imgT 7 rfl rfl rfl fun y7 => ob_storeF rfl rfl rfl rfl rfl Try.sizeOf28 rfl rfl rfl) <| .nil) ?_
      intro a7 w7 m7 hst7 hle7 hk7
      have hfr7 := hk7.fr (T' := [(2, _), (3, _), (4, _), (5, _), (13, _), (6, _)]) (.old rfl rfl <| .old rfl rfl <| .old rfl rfl <| .old rfl rfl <| .old rfl rfl <| .new rfl <| .nil)
      obtain ⟨g33, e33, _⟩ := hk7.ex 7 rfl
      replace hfr7 := hfr7.cons e33
      replace hst7 := hst7.fin (L' := [_, _, _, _]) (.cons e33 <| .cons e33 <| .nil)
      try simp only [List.take_succ_cons, List.take_zero, List.drop_succ_cons, List.drop_zero, List.cons_append, List.nil_append, List.append_nil, List.length_cons, List.length_nil, Nat.zero_add, Nat.reduceAdd] at hst7
      replace h_b := h_b.mono hle7
      replace hc3 := hc3.mono hle7
      replace hO := hO.mono hle7
      replace hx9 := hx9.mono hle7
      replace hes8 := hes8.mono hle7
      have hlh7 := hlh6.trans hle7
      clear hst6 hfr6 hk7
      have hwb9 : SubW 17592186044416 40 b := ⟨fun n t h => Nat.le_trans (hwb.1 n t h) (by omega), fun n t h => Nat.le_trans (hwb.2 n t h) (by omega)⟩
      have hm9 : (k9, x9) ∈ a.ts := hpm.mem_iff.1 (List.mem_append_right _ (hp9.mem_iff.2 (.head _)))
      have hn9 := nodup_head ((hp9.symm.append_left dn).trans hpm) hn_ts
      have hk9 : alook k9 dn = none := alook_none.2 hn9
      have hwx : wdT x9 ≤ 17592186044000 := hwa.1 k9 x9 (alook_of_mem hn_ts hm9)
      have hwy := applyT_wd hwb x9
      refine hK32 _ _ ?_; clear hK32
      refine region_any (tch := [(6, 1, (fun _ => .blkx _ _ _))]) (fun _ => mixed) hst7 hfr7 (by kernel_rfl) (by kernel_rfl) (by kernel_rfl) (.cons rfl (ob_loadLA (j := 1) rfl rfl Try.isAgg36 Try.sizeOf36 rfl) <| .cons rfl (ob_move rfl) <| .cons rfl (ob_loadS' rfl hc3 Try.isAgg36 Try.sizeOf36 rfl rfl) <| .cons rfl (ob_loadLA (j := 3) rfl rfl Try.isAgg28 Try.sizeOf28 rfl) <| .cons rfl (ob_call (φ := MP.ty (applyT b x9)) rfl (.cons rfl <| .cons rfl <| .nil) Try.call18 (fun w m hK => by have hle_ := KC.le hK; have hA := KC.agree hK; have h_b := h_b.mono hle_; have hx9 := hx9.mono hle_; exact FnG.mono (apply_c x9 hA h_b hx9 hwb9 (by omega)) fun _ _ _ _ h => h)) <| .cons rfl (ob_imgE 23 rfl rfl rfl fun y23 => ob_call (φ := MP.sub ⟨aset k9 (applyT b x9) o.ts, o.rs⟩) rfl (.cons rfl <| .cons rfl <| .cons rfl <| .nil) Try.call10 (fun w m hK => by have hle_ := KC.le hK; have hA := KC.agree hK; have hr0_ := hK.2; have hO := hO.mono hle_; exact FnG.mono (setType_c (n := k9) (t := applyT b x9) hA hO hr0_ (by omega)) fun _ _ _ _ h => h)) <| .consT rfl rfl (fun _ => rfl) rfl (ob_imgTX 24 rfl rfl rfl fun y24 => ob_store' rfl rfl rfl Try.sizeOf36 rfl rfl rfl) <| .nil) ?_
      intro a8 w8 m8 hst8 hle8 hk8
      have hfr8 := hk8.fr (T' := [(2, _), (3, _), (4, _), (5, _), (13, _)]) (.old rfl rfl <| .old rfl rfl <| .old rfl rfl <| .old rfl rfl <| .old rfl rfl <| .nil)
      replace hst8 := hst8.fin (L' := [_, _, _, _]) (.cons rfl <| .nil)
      try simp only [List.take_succ_cons, List.take_zero, List.drop_succ_cons, List.drop_zero, List.cons_append, List.nil_append, List.append_nil, List.length_cons, List.length_nil, Nat.zero_add, Nat.reduceAdd] at hst8
      obtain ⟨⟨q3, q4⟩, hS1, hst8⟩ := hst8.unx (k := 1) rfl (fun _ => rfl)
      replace hes8 := hes8.mono hle8
      have hlh8 := hlh7.trans hle8
      clear hst7 hfr7 hk8
      have hst8 := hst8.take 3
      exact ⟨(es8, l8, (dn ++ [(k9, x9)]), _, ⟨aset k9 (applyT b x9) o.ts, o.rs⟩, (q3, q4)), m8, by show l8.length < l.length; omega, ⟨hst8, hlh8, hfr8.sub (.cons rfl <| .cons rfl <| .cons rfl <| .cons rfl <| .cons rfl <| .nil), ⟨hes8, by rw [List.append_assoc]; exact (hp9.symm.append_left dn).trans hpm, hS1, hov.snoc x9 hk9, hot⟩⟩⟩
    · exact absurd hb15 (by simp)

end Go.Proofs.Ytfphefkfbhjfdaa
