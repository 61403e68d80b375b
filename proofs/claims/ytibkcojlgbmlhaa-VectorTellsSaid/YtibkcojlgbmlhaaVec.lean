/-
  Package vector: what each method computes, said of the list of entries (innermost first). Conditions: the vector's entries lie in memory as Chain says.
-/
import Derived.Test.YtibkcojlgbmlhaaLoop
import Derived.Test.YtibkcojlgbmlhaaRows
namespace Go.Proofs.Ytibkcojlgbmlhaa
open Go.RowKit
theorem mixed : Try.prog.follows .mixedOrders = true := by kernel_rfl
structure VE where
  e : Str
  mrk : Int
  kept : Value
def Chain (m : Mem) : List VE → Option Addr → Prop
  | [], a => a = none
  | x :: xs, a => ∃ p o, a = some p ∧ CellsAt m p [S x.e, .int .i64 x.mrk, x.kept, .pointer o, .int .i64 ((xs.length : Int) + 1)] ∧ Chain m xs o
theorem Chain.mono {m m' : Mem} (hm : MLe m m') : ∀ {l : List VE} {a : Option Addr}, Chain m l a → Chain m' l a
  | [], _, h => h
  | _ :: _, _, ⟨p, o, h1, h2, h3⟩ => ⟨p, o, h1, h2.mono hm, h3.mono hm⟩
theorem Chain.nil_of {m : Mem} {l : List VE} {a : Option Addr} (h : Chain m l a) (ha : a.isNone = true) : a = none ∧ l = [] := by
  cases l with
  | nil => exact ⟨h, rfl⟩
  | cons x xs => obtain ⟨p, o, rfl, _⟩ := h; cases ha
theorem Chain.cons_of {m : Mem} {l : List VE} {a : Option Addr} (h : Chain m l a) (ha : a.isNone = false) :
    ∃ x xs p o, a = some p ∧ l = x :: xs ∧ CellsAt m p [S x.e, .int .i64 x.mrk, x.kept, .pointer o, .int .i64 ((xs.length : Int) + 1)] ∧ Chain m xs o := by
  cases l with
  | nil => rw [show a = none from h] at ha; cases ha
  | cons x xs => obtain ⟨p, o, h1, h2, h3⟩ := h; exact ⟨x, xs, p, o, h1, rfl, h2, h3⟩
def firstRes : Option Nat → Value
  | some n => .tuple #[.int .i64 (n : Int), .bool true]
  | none => .tuple #[.int .i64 0, .bool false]
theorem Chain.cases {m : Mem} {l : List VE} {a : Option Addr} (h : Chain m l a) : (l = [] ∧ a = none) ∨
    ∃ x xs p o, l = x :: xs ∧ a = some p ∧ CellsAt m p [S x.e, .int .i64 x.mrk, x.kept, .pointer o, .int .i64 ((xs.length : Int) + 1)] ∧ Chain m xs o := by
  cases l with
  | nil => exact .inl ⟨rfl, h⟩
  | cons x xs => obtain ⟨p, o, h1, h2, h3⟩ := h; exact .inr ⟨x, xs, p, o, rfl, h1, h2, h3⟩
set_option maxHeartbeats 400000 in
theorem len_c {w : World} {m : Mem} {l : List VE} {a : Option Addr} (hA : Agree w m) (h : Chain m l a) :
    FnV Try.prog 15 #[.agg #[.pointer a]] w m (fun _ _ v => v = .int .i64 l.length) := by
  refine fn_enter (vs := [.agg #[.pointer a]]) Try.func15 rfl rfl rfl fun a0 hfr0 => ?_
  have hst0 := st_enter hA (loc_nil [] _ w m)
  refine seq_any fun K1 hK1 => ?_
  refine region_plain (fun h => by cases h) hst0 hfr0 (by kernel_rfl) (by kernel_rfl) (.cons rfl (ob_box rfl rfl) <|
      .cons rfl (ob_assign rfl) <|
      .nil) ?_
  intro a1 w1 m1 hst1 hle1 hk1
  have hfr1 := hk1.fr (T' := [(0, _), (2, _)]) (.old rfl rfl <| .new rfl <| .nil)
  obtain ⟨g2, e2, hc1⟩ := hk1.ex 1 rfl
  replace hfr1 := hfr1.cons e2
  replace h := h.mono hle1
  clear hst0 hfr0 hk1
  refine hK1 _ _ ?_; try clear hK1 K1
  refine seq_any fun K3 hK3 => ?_
  refine seq_any fun K4 hK4 => ?_
  refine region_plain (fun h => by cases h) hst1 hfr1 (by kernel_rfl) (by kernel_rfl) (.cons rfl (ob_fieldAddr rfl Try.underlying26 rfl Try.sizeOf24 rfl) <|
      .cons rfl (ob_load1 rfl hc1 Try.isAgg24 rfl) <|
      .cons rfl (ob_pnil rfl Try.underlying24) <|
      .nil) ?_
  intro a2 w2 m2 hst2 hle2 hk2
  have hfr2 := hk2.fr (T' := [(0, _), (2, _), (1, _), (5, _)]) (.old rfl rfl <| .old rfl rfl <| .old rfl rfl <| .new rfl <| .nil)
  replace h := h.mono hle2
  replace hc1 := hc1.mono hle2
  clear hst1 hfr1 hk2
  refine hK4 _ _ ?_; try clear hK4 K4
  refine cond_any hfr2 rfl rfl (fun hb5 => ?_) (fun hb5 => ?_)
  · obtain ⟨rfl, rfl⟩ := h.nil_of hb5
    refine seq_any fun K5 hK5 => ?_
    refine region_plain (fun h => by cases h) hst2 hfr2 (by kernel_rfl) (by kernel_rfl) (.cons rfl (ob_assign rfl) <|
        .nil) ?_
    intro a3 w3 m3 hst3 hle3 hk3
    have hfr3 := hk3.fr (T' := [(0, _), (1, _), (2, _)]) (.old rfl rfl <| .old rfl rfl <| .new rfl <| .nil)
    replace h := h.mono hle3
    replace hc1 := hc1.mono hle3
    clear hst2 hfr2 hk3
    refine hK5 _ _ ?_; try clear hK5 K5
    refine wp_ret ?_
    repeat (with_reducible first | refine then_ret ?_ | refine block_ret ?_)
    exact fn_ret hst3 hfr3 rfl (.tmp rfl <| .nil) (rfl)
  · obtain ⟨x, xs, p, o, rfl, rfl, hp, ho⟩ := h.cons_of hb5
    refine wp_skip ?_
    refine hK3 _ _ ?_; try clear hK3 K3
    refine seq_any fun K7 hK7 => ?_
    refine region_plain (fun h => by cases h) hst2 hfr2 (by kernel_rfl) (by kernel_rfl) (.cons rfl (ob_fieldAddr rfl Try.underlying26 rfl Try.sizeOf24 rfl) <|
        .cons rfl (ob_load1 rfl hc1 Try.isAgg24 rfl) <|
        .cons rfl (ob_nilCheck rfl) <|
        .cons rfl (ob_fieldAddr rfl Try.underlying61 rfl Try.sizeOf3 rfl) <|
        .cons rfl (ob_load1 rfl hp Try.isAgg3 rfl) <|
        .cons rfl (ob_assign rfl) <|
        .nil) ?_
    intro a3 w3 m3 hst3 hle3 hk3
    have hfr3 := hk3.fr (T' := [(0, _), (1, _), (2, _)]) (.old rfl rfl <| .old rfl rfl <| .new rfl <| .nil)
    replace h := h.mono hle3
    replace hc1 := hc1.mono hle3
    replace hp := hp.mono hle3
    replace ho := ho.mono hle3
    clear hst2 hfr2 hk3
    refine hK7 _ _ ?_; try clear hK7 K7
    refine wp_ret ?_
    repeat (with_reducible first | refine then_ret ?_ | refine block_ret ?_)
    exact fn_ret hst3 hfr3 rfl (.tmp rfl <| .nil) (rfl)

set_option maxHeartbeats 400000 in
theorem push_c {w : World} {m : Mem} {l : List VE} {a : Option Addr} {e : Str} {n : Int} {k : Str} (hA : Agree w m) (h : Chain m l a) (hl : l.length < 1000000) :
    FnV Try.prog 10 #[.agg #[.pointer a], S e, .int .i64 n, S k] w m (fun _ m v => ∃ a, v = .agg #[.pointer a] ∧ Chain m (⟨e, n, S k⟩ :: l) a) := by
  refine fn_enter (vs := [.agg #[.pointer a], S e, .int .i64 n, S k]) Try.func10 rfl rfl rfl fun a0 hfr0 => ?_
  have hst0 := st_enter hA (loc_nil [] _ w m)
  refine seq_any fun K1 hK1 => ?_
  replace hst0 := hst0.more (r := .free) trivial List.nodup_nil (by simp [Res.blocks])
  refine region_any (tch := [(1, 0, (fun v => .blk v _))]) (fun h => by cases h) hst0 hfr0 (by kernel_rfl) (by kernel_rfl) (by kernel_rfl) (.cons rfl (ob_box rfl rfl) <|
      .consT rfl rfl (fun _ => rfl) rfl (ob_allocL Try.zeroValue26 rfl) <|
      .nil) ?_
  intro a1 w1 m1 hst1 hle1 hk1
  have hfr1 := hk1.fr (T' := [(0, _), (1, _), (2, _), (3, _)]) (.old rfl rfl <| .old rfl rfl <| .old rfl rfl <| .old rfl rfl <| .nil)
  obtain ⟨g2, e2, hc4⟩ := hk1.ex 4 rfl
  replace hfr1 := hfr1.cons e2
  obtain ⟨g3, e3, _⟩ := hk1.ex 8 rfl
  replace hfr1 := hfr1.cons e3
  replace hst1 := hst1.fin (L' := [_]) (.cons e3 <| .nil)
  replace h := h.mono hle1
  clear hst0 hfr0 hk1
  refine hK1 _ _ ?_; try clear hK1 K1
  refine seq_any fun K4 hK4 => ?_
  refine region_any (tch := [(11, 0, (fun _ => .blkx _ _ _))]) (fun _ => mixed) hst1 hfr1 (by kernel_rfl) (by kernel_rfl) (by kernel_rfl) (.cons rfl (ob_move rfl) <|
      .cons rfl (ob_move rfl) <|
      .cons rfl (ob_move rfl) <|
      .cons rfl (ob_fieldAddr rfl Try.underlying26 rfl Try.sizeOf24 rfl) <|
      .cons rfl (ob_load1 rfl hc4 Try.isAgg24 rfl) <|
      .cons rfl (ob_loadS' rfl hc4 Try.isAgg26 Try.sizeOf26 rfl rfl) <|
      .cons rfl (ob_callE rfl (.cons rfl <| .nil) Try.call15 (fun w m hK => by exact len_c (KC.agree hK) (h.mono (KC.le hK)))) <|
      .cons rfl (ob_add rfl rfl ⟨by omega, by omega⟩) <|
      .cons rfl (ob_buildS (.cons rfl <| .cons rfl <| .cons rfl <| .cons rfl <| .cons rfl <| .nil) Try.underlying61 Try.zeroValue61 (.cons Try.sizeOf9 <| .cons Try.sizeOf3 <| .cons Try.sizeOf9 <| .cons Try.sizeOf24 <| .cons Try.sizeOf3 <| .nil) rfl) <|
      .cons rfl (ob_box rfl rfl) <|
      .cons rfl (ob_imgV 18 rfl rfl rfl fun y18 => ob_buildS (.cons rfl <| .nil) Try.underlying26 Try.zeroValue26 (.cons Try.sizeOf24 <| .nil) rfl) <|
      .consT rfl rfl (fun _ => rfl) rfl (ob_imgTX 19 rfl rfl rfl fun y19 => ob_store' rfl rfl rfl Try.sizeOf26 rfl rfl rfl) <|
      .nil) ?_
  intro a2 w2 m2 hst2 hle2 hk2
  have hfr2 := hk2.fr (T' := [(0, _), (1, _), (2, _), (3, _), (4, _), (8, _)]) (.old rfl rfl <| .old rfl rfl <| .old rfl rfl <| .old rfl rfl <| .old rfl rfl <| .old rfl rfl <| .nil)
  replace hst2 := hst2.fin (L' := [_]) (.cons rfl <| .nil)
  obtain ⟨y, hy, hst2⟩ := hst2.unx (k := 0) rfl (fun _ => rfl)
  replace h := h.mono hle2
  replace hc4 := hc4.mono hle2
  clear hst1 hfr1 hk2
  refine hK4 _ _ ?_; try clear hK4 K4
  refine wp_ret ?_
  repeat (with_reducible first | refine then_ret ?_ | refine block_ret ?_)
  exact fn_ret hst2 hfr2 rfl (.cell rfl (load_blk (blk_heap (hst2.loc.at_ (k := 0) rfl)) Try.isAgg26 Try.sizeOf26) <| .nil) (⟨_, rfl, _, _, rfl, hy, h⟩)

set_option maxHeartbeats 400000 in
theorem findf_c {w : World} {m : Mem} {x : VE} {p : Addr} {o : Option Addr} {n : Int} {q : Addr} {e : Str} (hA : Agree w m) (h : CellsAt m p [S x.e, .int .i64 x.mrk, x.kept, .pointer o, .int .i64 n]) (hq : CellsAt m q [S e]) :
    FnV Try.prog 29 #[.pointer (some p), .pointer (some q)] w m (fun _ _ v => v = .bool (decide (x.e = e))) := by
  refine fn_enter (vs := [.pointer (some p), .pointer (some q)]) Try.func29 rfl rfl rfl fun a0 hfr0 => ?_
  have hst0 := st_enter hA (loc_nil [] _ w m)
  refine seq_any fun K1 hK1 => ?_
  refine region_plain (fun h => by cases h) hst0 hfr0 (by kernel_rfl) (by kernel_rfl) (.cons rfl (ob_assign rfl) <|
      .nil) ?_
  intro a1 w1 m1 hst1 hle1 hk1
  have hfr1 := hk1.fr (T' := [(0, _), (1, _), (3, _)]) (.old rfl rfl <| .old rfl rfl <| .new rfl <| .nil)
  replace h := h.mono hle1
  replace hq := hq.mono hle1
  clear hst0 hfr0 hk1
  refine hK1 _ _ ?_; try clear hK1 K1
  refine seq_any fun K2 hK2 => ?_
  refine region_plain (fun _ => mixed) hst1 hfr1 (by kernel_rfl) (by kernel_rfl) (.cons rfl (ob_move rfl) <|
      .cons rfl (ob_nilCheck rfl) <|
      .cons rfl (ob_fieldAddr rfl Try.underlying61 rfl Try.sizeOf9 rfl) <|
      .cons rfl (ob_load1 rfl h Try.isAgg9 rfl) <|
      .cons rfl (ob_load1' rfl hq Try.isAgg9 rfl) <|
      .cons rfl (ob_seql rfl rfl) <|
      .cons rfl (ob_assign rfl) <|
      .nil) ?_
  intro a2 w2 m2 hst2 hle2 hk2
  have hfr2 := hk2.fr (T' := [(0, _), (1, _), (3, _)]) (.old rfl rfl <| .old rfl rfl <| .new rfl <| .nil)
  replace h := h.mono hle2
  replace hq := hq.mono hle2
  clear hst1 hfr1 hk2
  refine hK2 _ _ ?_; try clear hK2 K2
  refine wp_ret ?_
  repeat (with_reducible first | refine then_ret ?_ | refine block_ret ?_)
  exact fn_ret hst2 hfr2 rfl (.tmp rfl <| .nil) (rfl)

set_option maxHeartbeats 400000 in
theorem atf_c {w : World} {m : Mem} {x : VE} {p : Addr} {o : Option Addr} {n : Int} {q : Addr} {k : Int} (hA : Agree w m) (h : CellsAt m p [S x.e, .int .i64 x.mrk, x.kept, .pointer o, .int .i64 n]) (hq : CellsAt m q [.int .i64 k]) :
    FnV Try.prog 32 #[.pointer (some p), .pointer (some q)] w m (fun _ _ v => v = .bool (decide (x.mrk = k))) := by
  refine fn_enter (vs := [.pointer (some p), .pointer (some q)]) Try.func32 rfl rfl rfl fun a0 hfr0 => ?_
  have hst0 := st_enter hA (loc_nil [] _ w m)
  refine seq_any fun K1 hK1 => ?_
  refine region_plain (fun h => by cases h) hst0 hfr0 (by kernel_rfl) (by kernel_rfl) (.cons rfl (ob_assign rfl) <|
      .nil) ?_
  intro a1 w1 m1 hst1 hle1 hk1
  have hfr1 := hk1.fr (T' := [(0, _), (1, _), (3, _)]) (.old rfl rfl <| .old rfl rfl <| .new rfl <| .nil)
  replace h := h.mono hle1
  replace hq := hq.mono hle1
  clear hst0 hfr0 hk1
  refine hK1 _ _ ?_; try clear hK1 K1
  refine seq_any fun K2 hK2 => ?_
  refine region_plain (fun _ => mixed) hst1 hfr1 (by kernel_rfl) (by kernel_rfl) (.cons rfl (ob_move rfl) <|
      .cons rfl (ob_nilCheck rfl) <|
      .cons rfl (ob_fieldAddr rfl Try.underlying61 rfl Try.sizeOf3 rfl) <|
      .cons rfl (ob_load1 rfl h Try.isAgg3 rfl) <|
      .cons rfl (ob_load1' rfl hq Try.isAgg3 rfl) <|
      .cons rfl (ob_eql rfl rfl) <|
      .cons rfl (ob_assign rfl) <|
      .nil) ?_
  intro a2 w2 m2 hst2 hle2 hk2
  have hfr2 := hk2.fr (T' := [(0, _), (1, _), (3, _)]) (.old rfl rfl <| .old rfl rfl <| .new rfl <| .nil)
  replace h := h.mono hle2
  replace hq := hq.mono hle2
  clear hst1 hfr1 hk2
  refine hK2 _ _ ?_; try clear hK2 K2
  refine wp_ret ?_
  repeat (with_reducible first | refine then_ret ?_ | refine block_ret ?_)
  exact fn_ret hst2 hfr2 rfl (.tmp rfl <| .nil) (rfl)

set_option maxHeartbeats 400000 in
theorem nothing_c {w : World} {m : Mem} (hA : Agree w m) :
    FnV Try.prog 30 #[] w m (fun _ _ v => v = S []) := by
  refine fn_enter (vs := []) Try.func30 rfl rfl rfl fun a0 hfr0 => ?_
  have hst0 := st_enter hA (loc_nil [] _ w m)
  refine seq_any fun K1 hK1 => ?_
  refine region_plain (fun h => by cases h) hst0 hfr0 (by kernel_rfl) (by kernel_rfl) (.cons rfl (ob_assign rfl) <|
      .nil) ?_
  intro a1 w1 m1 hst1 hle1 hk1
  have hfr1 := hk1.fr (T' := [(0, _)]) (.new rfl <| .nil)
  clear hst0 hfr0 hk1
  refine hK1 _ _ ?_; try clear hK1 K1
  refine seq_any fun K2 hK2 => ?_
  refine region_plain (fun h => by cases h) hst1 hfr1 (by kernel_rfl) (by kernel_rfl) (.cons rfl (ob_move rfl) <|
      .cons rfl (ob_assign rfl) <|
      .nil) ?_
  intro a2 w2 m2 hst2 hle2 hk2
  have hfr2 := hk2.fr (T' := [(0, _)]) (.new rfl <| .nil)
  clear hst1 hfr1 hk2
  refine hK2 _ _ ?_; try clear hK2 K2
  refine wp_ret ?_
  repeat (with_reducible first | refine then_ret ?_ | refine block_ret ?_)
  exact fn_ret hst2 hfr2 rfl (.tmp rfl <| .nil) (rfl)

set_option maxHeartbeats 400000 in
theorem the_c {w : World} {m : Mem} {l : List VE} {a : Option Addr} {φ : VE → Bool} {cid : Nat} {cap : List Value} {ls : List VE} (hA : Agree w m) (h : Chain m l a)
    (hd : l.dropWhile (fun x => !φ x) = ls) (hc : ∀ args w, (callFunc cid args).run Try.prog w = .ok (.enter cid args) w)
    (hφ : ∀ w m' (x : VE) p o (n : Int), MLe m m' → Agree w m' → CellsAt m' p [S x.e, .int .i64 x.mrk, x.kept, .pointer o, .int .i64 n] → FnV Try.prog cid ([Value.pointer (some p)] ++ cap).toArray w m' (fun _ _ v => v = .bool (φ x))) :
    FnV Try.prog 28 #[.agg #[.pointer a], .func (.func cid) #[] cap.toArray] w m (fun _ m v => ∃ b, v = .pointer b ∧ Chain m ls b) := by
  refine fn_enter (vs := [.agg #[.pointer a], .func (.func cid) #[] cap.toArray]) Try.func28 rfl rfl rfl fun a0 hfr0 => ?_
  have hst0 := st_enter hA (loc_nil [] _ w m)
  have hm0 : MLe m m := MLe.refl m
  refine seq_any fun K1 hK1 => ?_
  refine region_plain (fun h => by cases h) hst0 hfr0 (by kernel_rfl) (by kernel_rfl) (.cons rfl (ob_box rfl rfl) <|
      .cons rfl (ob_assign rfl) <|
      .nil) ?_
  intro a1 w1 m1 hst1 hle1 hk1
  have hfr1 := hk1.fr (T' := [(0, _), (1, _), (4, _)]) (.old rfl rfl <| .old rfl rfl <| .new rfl <| .nil)
  obtain ⟨g2, e2, hc2⟩ := hk1.ex 2 rfl
  replace hfr1 := hfr1.cons e2
  replace h := h.mono hle1
  clear hst0 hfr0 hk1
  have hm1 := hle1
  refine hK1 _ _ ?_; try clear hK1 K1
  refine seq_any fun K3 hK3 => ?_
  refine region_plain (fun h => by cases h) hst1 hfr1 (by kernel_rfl) (by kernel_rfl) (.cons rfl (ob_fieldAddr rfl Try.underlying26 rfl Try.sizeOf24 rfl) <|
      .cons rfl (ob_load1 rfl hc2 Try.isAgg24 rfl) <|
      .cons rfl (ob_assign rfl) <|
      .nil) ?_
  intro a2 w2 m2 hst2 hle2 hk2
  have hfr2 := hk2.fr (T' := [(0, _), (1, _), (4, _), (2, _), (5, _)]) (.old rfl rfl <| .old rfl rfl <| .old rfl rfl <| .old rfl rfl <| .new rfl <| .nil)
  replace h := h.mono hle2
  replace hc2 := hc2.mono hle2
  clear hst1 hfr1 hk2
  have hm2 := hm1.trans hle2
  refine hK3 _ _ ?_; try clear hK3 K3
  refine seq_any fun K4 hK4 => ?_
  refine wp_block ?_
  refine loop_any (T := [(0, _), (1, _), (4, _), (2, _)]) (fun (y : List VE × Option Addr) => ([(5, .pointer y.2)] : List (Nat × Value))) (fun _ => []) (fun (y : List VE × Option Addr) m => Chain m y.1 y.2 ∧ y.1.dropWhile (fun x => !φ x) = ls) (fun y => y.1.length) ((l, a)) ⟨hst2, MLe.refl _, hfr2.sub (.cons rfl <| .cons rfl <| .cons rfl <| .cons rfl <| .cons rfl <| .nil), ⟨h, hd⟩⟩ fun y a3 w3 m3 hh3 => ?_
  have hst3 := hh3.st; have hle3 := hh3.le; have hfr3 := hh3.fr; have hrel := hh3.rel; clear hh3
  replace h := h.mono hle3
  replace hc2 := hc2.mono hle3
  clear hst2 hfr2
  have hm3 := hm2.trans hle3
  obtain ⟨lx, b⟩ := y
  obtain ⟨hx, hdx⟩ := hrel
  dsimp only at hx hdx hfr3
  have hlh3 := hle3
  refine seq_any fun K6 hK6 => ?_
  refine seq_any fun K7 hK7 => ?_
  rcases hx.cases with ⟨rfl, rfl⟩ | ⟨x, xs, p, o, rfl, rfl, hp, ho⟩
  · skip
    refine region_plain (fun h => by cases h) hst3 hfr3 (by kernel_rfl) (by kernel_rfl) (.cons rfl (ob_move rfl) <|
        .cons rfl (ob_pnnil rfl Try.underlying24) <|
        .cons rfl (ob_move rfl) <|
        .cons rfl (ob_guard (κ := .eq (.bool false)) (b := true) 10 rfl rfl (fun h => by simp at h)) <|
        .cons rfl (ob_guard (κ := .eq (.bool false)) (b := true) 10 rfl rfl (fun h => by simp at h)) <|
        .cons rfl (ob_guard (κ := .eq (.bool false)) (b := true) 10 rfl rfl (fun h => by simp at h)) <|
        .cons rfl (ob_guard (κ := .eq (.bool false)) (b := true) 10 rfl rfl (fun h => by simp at h)) <|
        .cons rfl (ob_and rfl rfl rfl) <|
        .nil) ?_
    intro a4 w4 m4 hst4 hle4 hk4
    have hfr4 := hk4.fr (T' := [(5, _), (0, _), (1, _), (4, _), (2, _), (15, _)]) (.old rfl rfl <| .old rfl rfl <| .old rfl rfl <| .old rfl rfl <| .old rfl rfl <| .new rfl <| .nil)
    replace h := h.mono hle4
    replace hc2 := hc2.mono hle4
    replace hx := hx.mono hle4
    have hlh4 := hlh3.trans hle4
    clear hst3 hfr3 hk4
    refine hK7 _ _ ?_; try clear hK7 K7
    refine cond_any hfr4 rfl rfl (fun hb15 => ?_) (fun hb15 => ?_)
    · simp at hb15
    · have hres : Chain m4 ls none := by rw [← hdx]; exact rfl
      refine wp_exit ?_
      refine hK4 _ _ ?_; try clear hK4 K4
      refine seq_any fun K8 hK8 => ?_
      refine region_plain (fun h => by cases h) hst4 hfr4 (by kernel_rfl) (by kernel_rfl) (.cons rfl (ob_move rfl) <|
          .cons rfl (ob_assign rfl) <|
          .nil) ?_
      intro a5 w5 m5 hst5 hle5 hk5
      have hfr5 := hk5.fr (T' := [(5, _), (0, _), (1, _), (2, _), (4, _)]) (.old rfl rfl <| .old rfl rfl <| .old rfl rfl <| .old rfl rfl <| .new rfl <| .nil)
      replace h := h.mono hle5
      replace hc2 := hc2.mono hle5
      replace hx := hx.mono hle5
      replace hres := hres.mono hle5
      have hlh5 := hlh4.trans hle5
      clear hst4 hfr4 hk5
      refine hK8 _ _ ?_; try clear hK8 K8
      refine wp_ret ?_
      repeat (with_reducible first | refine then_ret ?_ | refine block_ret ?_)
      exact fn_ret hst5 hfr5 rfl (.tmp rfl <| .nil) (⟨_, rfl, hres⟩)
  · skip
    refine region_plain (fun h => by cases h) hst3 hfr3 (by kernel_rfl) (by kernel_rfl) (.cons rfl (ob_move rfl) <|
        .cons rfl (ob_pnnil rfl Try.underlying24) <|
        .cons rfl (ob_move rfl) <|
        .cons rfl (ob_move rfl) <|
        .cons rfl (ob_move rfl) <|
        .cons rfl (ob_callE rfl (.cons rfl <| .nil) hc (fun w m hK => by exact hφ w m x p o _ (hm3.trans (KC.le hK)) (KC.agree hK) (hp.mono (KC.le hK)))) <|
        .cons rfl (ob_not rfl) <|
        .cons rfl (ob_and rfl rfl rfl) <|
        .nil) ?_
    intro a4 w4 m4 hst4 hle4 hk4
    have hfr4 := hk4.fr (T' := [(5, _), (0, _), (1, _), (4, _), (2, _), (15, _)]) (.old rfl rfl <| .old rfl rfl <| .old rfl rfl <| .old rfl rfl <| .old rfl rfl <| .new rfl <| .nil)
    replace h := h.mono hle4
    replace hc2 := hc2.mono hle4
    replace hx := hx.mono hle4
    replace hp := hp.mono hle4
    replace ho := ho.mono hle4
    have hlh4 := hlh3.trans hle4
    clear hst3 hfr3 hk4
    refine hK7 _ _ ?_; try clear hK7 K7
    refine cond_any hfr4 rfl rfl (fun hb15 => ?_) (fun hb15 => ?_)
    · have hy : φ x = false := by simpa using hb15
      refine wp_skip ?_
      refine hK6 _ _ ?_; try clear hK6 K6
      refine wp_block ?_
      refine region_plain (fun h => by cases h) hst4 hfr4 (by kernel_rfl) (by kernel_rfl) (.cons rfl (ob_move rfl) <|
          .cons rfl (ob_nilCheck rfl) <|
          .cons rfl (ob_fieldAddr rfl Try.underlying61 rfl Try.sizeOf24 rfl) <|
          .cons rfl (ob_load1 rfl hp Try.isAgg24 rfl) <|
          .cons rfl (ob_assign rfl) <|
          .nil) ?_
      intro a5 w5 m5 hst5 hle5 hk5
      have hfr5 := hk5.fr (T' := [(0, _), (1, _), (4, _), (2, _), (5, _)]) (.old rfl rfl <| .old rfl rfl <| .old rfl rfl <| .old rfl rfl <| .new rfl <| .nil)
      replace h := h.mono hle5
      replace hc2 := hc2.mono hle5
      replace hx := hx.mono hle5
      replace hp := hp.mono hle5
      replace ho := ho.mono hle5
      have hlh5 := hlh4.trans hle5
      clear hst4 hfr4 hk5
      exact ⟨(xs, o), m5, Nat.lt_succ_self _, ⟨hst5, hlh5, hfr5.sub (.cons rfl <| .cons rfl <| .cons rfl <| .cons rfl <| .cons rfl <| .nil), ⟨ho, by rw [← hdx]; simp [List.dropWhile, hy]⟩⟩⟩
    · have hy : φ x = true := by simpa using hb15
      have hres : Chain m4 ls (some p) := by rw [← hdx]; simp only [List.dropWhile, hy]; exact hx
      refine wp_exit ?_
      refine hK4 _ _ ?_; try clear hK4 K4
      refine seq_any fun K10 hK10 => ?_
      refine region_plain (fun h => by cases h) hst4 hfr4 (by kernel_rfl) (by kernel_rfl) (.cons rfl (ob_move rfl) <|
          .cons rfl (ob_assign rfl) <|
          .nil) ?_
      intro a5 w5 m5 hst5 hle5 hk5
      have hfr5 := hk5.fr (T' := [(5, _), (0, _), (1, _), (2, _), (4, _)]) (.old rfl rfl <| .old rfl rfl <| .old rfl rfl <| .old rfl rfl <| .new rfl <| .nil)
      replace h := h.mono hle5
      replace hc2 := hc2.mono hle5
      replace hx := hx.mono hle5
      replace hp := hp.mono hle5
      replace ho := ho.mono hle5
      replace hres := hres.mono hle5
      have hlh5 := hlh4.trans hle5
      clear hst4 hfr4 hk5
      refine hK10 _ _ ?_; try clear hK10 K10
      refine wp_ret ?_
      repeat (with_reducible first | refine then_ret ?_ | refine block_ret ?_)
      exact fn_ret hst5 hfr5 rfl (.tmp rfl <| .nil) (⟨_, rfl, hres⟩)

set_option maxHeartbeats 400000 in
theorem find_none {w : World} {m : Mem} {l : List VE} {a : Option Addr} {e : Str} (hA : Agree w m) (h : Chain m l a) (hd : l.dropWhile (fun x : VE => !decide (x.e = e)) = []) :
    FnV Try.prog 11 #[.agg #[.pointer a], S e] w m (fun _ _ v => v = .tuple #[S [], .int .i64 0, .agg #[.pointer none], .bool false]) := by
  refine fn_enter (vs := [.agg #[.pointer a], S e]) Try.func11 rfl rfl rfl fun a0 hfr0 => ?_
  have hst0 := st_enter hA (loc_nil [] _ w m)
  refine seq_any fun K1 hK1 => ?_
  replace hst0 := hst0.more (r := .free) trivial List.nodup_nil (by simp [Res.blocks])
  refine region_any (tch := [(4, 0, (fun v => .blk v _))]) (fun h => by cases h) hst0 hfr0 (by kernel_rfl) (by kernel_rfl) (by kernel_rfl) (.cons rfl (ob_box rfl rfl) <|
      .cons rfl (ob_box rfl rfl) <|
      .cons rfl (ob_assign rfl) <|
      .cons rfl (ob_assign rfl) <|
      .consT rfl rfl (fun _ => rfl) rfl (ob_allocL Try.zeroValue26 rfl) <|
      .cons rfl (ob_assign rfl) <|
      .nil) ?_
  intro a1 w1 m1 hst1 hle1 hk1
  have hfr1 := hk1.fr (T' := [(0, _), (1, _), (4, _), (5, _), (7, _)]) (.old rfl rfl <| .old rfl rfl <| .new rfl <| .new rfl <| .new rfl <| .nil)
  obtain ⟨g2, e2, hc2⟩ := hk1.ex 2 rfl
  replace hfr1 := hfr1.cons e2
  obtain ⟨g3, e3, hc3⟩ := hk1.ex 3 rfl
  replace hfr1 := hfr1.cons e3
  obtain ⟨gr, e4, _⟩ := hk1.ex 6 rfl
  replace hfr1 := hfr1.cons e4
  replace hst1 := hst1.fin (L' := [_]) (.cons e4 <| .nil)
  replace h := h.mono hle1
  clear hst0 hfr0 hk1
  refine hK1 _ _ ?_; try clear hK1 K1
  refine seq_any fun K5 hK5 => ?_
  refine region_any (tch := []) (fun h => by cases h) hst1 hfr1 (by kernel_rfl) (by kernel_rfl) (by kernel_rfl) (.cons rfl (ob_loadS' rfl hc2 Try.isAgg26 Try.sizeOf26 rfl rfl) <|
      .cons rfl (ob_makeFunc (.cons rfl <| .nil)) <|
      .cons rfl (ob_call (φ := MP.mem (fun b => .pointer b) (fun b m => Chain m [] b) (fun hm h => h.mono hm)) rfl (.cons rfl <| .cons rfl <| .nil) Try.call28 (fun w m hK => by exact FnG.mono (the_c (φ := fun x => decide (x.e = e)) (cap := [_]) (KC.agree hK) (h.mono (KC.le hK)) hd Try.call29 (fun w m2 x p o n hm ha hc => findf_c ha hc (hc3.mono ((KC.le hK).trans hm)))) fun _ _ _ _ h => h)) <|
      .consA 11 rfl rfl <|
      .nil) ?_
  intro a2 w2 m2 hst2 hle2 hk2
  have hfr2 := hk2.fr (T' := [(0, _), (1, _), (4, _), (5, _), (7, _), (2, _), (3, _), (6, _)]) (.old rfl rfl <| .old rfl rfl <| .old rfl rfl <| .old rfl rfl <| .old rfl rfl <| .old rfl rfl <| .old rfl rfl <| .old rfl rfl <| .nil)
  obtain ⟨b, e6, hb⟩ := hk2.ex 11 rfl
  replace hfr2 := hfr2.cons e6
  replace hfr2 := hfr2.cons (hk2.same 8 rfl e6)
  replace h := h.mono hle2
  replace hc2 := hc2.mono hle2
  replace hc3 := hc3.mono hle2
  clear hst1 hfr1 hk2
  obtain rfl : b = none := hb
  refine hK5 _ _ ?_; try clear hK5 K5
  refine seq_any fun K7 hK7 => ?_
  refine seq_any fun K8 hK8 => ?_
  refine region_plain (fun h => by cases h) hst2 hfr2 (by kernel_rfl) (by kernel_rfl) (.cons rfl (ob_move rfl) <|
      .cons rfl (ob_pnil rfl Try.underlying24) <|
      .nil) ?_
  intro a3 w3 m3 hst3 hle3 hk3
  have hfr3 := hk3.fr (T' := [(0, _), (1, _), (4, _), (5, _), (7, _), (2, _), (3, _), (6, _), (8, _), (13, _)]) (.old rfl rfl <| .old rfl rfl <| .old rfl rfl <| .old rfl rfl <| .old rfl rfl <| .old rfl rfl <| .old rfl rfl <| .old rfl rfl <| .old rfl rfl <| .new rfl <| .nil)
  replace h := h.mono hle3
  replace hc2 := hc2.mono hle3
  replace hc3 := hc3.mono hle3
  clear hst2 hfr2 hk3
  refine hK8 _ _ ?_; try clear hK8 K8
  refine cond_any hfr3 rfl rfl (fun hb13 => ?_) (fun hb13 => ?_)
  · refine seq_any fun K9 hK9 => ?_
    refine region_any (tch := [(4, 0, (fun _ => .blk _ _))]) (fun h => by cases h) hst3 hfr3 (by kernel_rfl) (by kernel_rfl) (by kernel_rfl) (.cons rfl (ob_callE rfl (.nil) Try.call30 (fun w m hK => by exact nothing_c (KC.agree hK))) <|
        .cons rfl (ob_buildS (.nil) Try.underlying26 Try.zeroValue26 (.cons Try.sizeOf24 <| .nil) rfl) <|
        .cons rfl (ob_assign rfl) <|
        .cons rfl (ob_assign rfl) <|
        .consT rfl rfl (fun _ => rfl) rfl (ob_store' rfl rfl rfl Try.sizeOf26 rfl rfl rfl) <|
        .cons rfl (ob_assign rfl) <|
        .nil) ?_
    intro a4 w4 m4 hst4 hle4 hk4
    have hfr4 := hk4.fr (T' := [(0, _), (1, _), (2, _), (3, _), (6, _), (8, _), (4, _), (5, _), (7, _)]) (.old rfl rfl <| .old rfl rfl <| .old rfl rfl <| .old rfl rfl <| .old rfl rfl <| .old rfl rfl <| .new rfl <| .new rfl <| .new rfl <| .nil)
    replace hst4 := hst4.fin (L' := [_]) (.cons rfl <| .nil)
    replace h := h.mono hle4
    replace hc2 := hc2.mono hle4
    replace hc3 := hc3.mono hle4
    clear hst3 hfr3 hk4
    refine hK9 _ _ ?_; try clear hK9 K9
    refine wp_ret ?_
    repeat (with_reducible first | refine then_ret ?_ | refine block_ret ?_)
    exact fn_ret hst4 hfr4 rfl (.tmp rfl <| .tmp rfl <| .cell rfl (load_blk (blk_heap (hst4.loc.at_ (k := 0) rfl)) Try.isAgg26 Try.sizeOf26) <| .tmp rfl <| .nil) (rfl)
  · simp at hb13

set_option maxHeartbeats 400000 in
theorem find_some {w : World} {m : Mem} {l : List VE} {a : Option Addr} {e : Str} (hA : Agree w m) (h : Chain m l a) {x : VE} {xs : List VE} (hd : l.dropWhile (fun x : VE => !decide (x.e = e)) = x :: xs) :
    FnV Try.prog 11 #[.agg #[.pointer a], S e] w m (fun _ m v => ∃ o, v = .tuple #[x.kept, .int .i64 x.mrk, .agg #[.pointer o], .bool true] ∧ Chain m xs o) := by
  refine fn_enter (vs := [.agg #[.pointer a], S e]) Try.func11 rfl rfl rfl fun a0 hfr0 => ?_
  have hst0 := st_enter hA (loc_nil [] _ w m)
  refine seq_any fun K1 hK1 => ?_
  replace hst0 := hst0.more (r := .free) trivial List.nodup_nil (by simp [Res.blocks])
  refine region_any (tch := [(4, 0, (fun v => .blk v _))]) (fun h => by cases h) hst0 hfr0 (by kernel_rfl) (by kernel_rfl) (by kernel_rfl) (.cons rfl (ob_box rfl rfl) <|
      .cons rfl (ob_box rfl rfl) <|
      .cons rfl (ob_assign rfl) <|
      .cons rfl (ob_assign rfl) <|
      .consT rfl rfl (fun _ => rfl) rfl (ob_allocL Try.zeroValue26 rfl) <|
      .cons rfl (ob_assign rfl) <|
      .nil) ?_
  intro a1 w1 m1 hst1 hle1 hk1
  have hfr1 := hk1.fr (T' := [(0, _), (1, _), (4, _), (5, _), (7, _)]) (.old rfl rfl <| .old rfl rfl <| .new rfl <| .new rfl <| .new rfl <| .nil)
  obtain ⟨g2, e2, hc2⟩ := hk1.ex 2 rfl
  replace hfr1 := hfr1.cons e2
  obtain ⟨g3, e3, hc3⟩ := hk1.ex 3 rfl
  replace hfr1 := hfr1.cons e3
  obtain ⟨gr, e4, _⟩ := hk1.ex 6 rfl
  replace hfr1 := hfr1.cons e4
  replace hst1 := hst1.fin (L' := [_]) (.cons e4 <| .nil)
  replace h := h.mono hle1
  clear hst0 hfr0 hk1
  refine hK1 _ _ ?_; try clear hK1 K1
  refine seq_any fun K5 hK5 => ?_
  refine region_any (tch := []) (fun h => by cases h) hst1 hfr1 (by kernel_rfl) (by kernel_rfl) (by kernel_rfl) (.cons rfl (ob_loadS' rfl hc2 Try.isAgg26 Try.sizeOf26 rfl rfl) <|
      .cons rfl (ob_makeFunc (.cons rfl <| .nil)) <|
      .cons rfl (ob_call (φ := MP.mem (fun b => .pointer b) (fun b m => Chain m (x :: xs) b) (fun hm h => h.mono hm)) rfl (.cons rfl <| .cons rfl <| .nil) Try.call28 (fun w m hK => by exact FnG.mono (the_c (φ := fun x => decide (x.e = e)) (cap := [_]) (KC.agree hK) (h.mono (KC.le hK)) hd Try.call29 (fun w m2 x p o n hm ha hc => findf_c ha hc (hc3.mono ((KC.le hK).trans hm)))) fun _ _ _ _ h => h)) <|
      .consA 11 rfl rfl <|
      .nil) ?_
  intro a2 w2 m2 hst2 hle2 hk2
  have hfr2 := hk2.fr (T' := [(0, _), (1, _), (4, _), (5, _), (7, _), (2, _), (3, _), (6, _)]) (.old rfl rfl <| .old rfl rfl <| .old rfl rfl <| .old rfl rfl <| .old rfl rfl <| .old rfl rfl <| .old rfl rfl <| .old rfl rfl <| .nil)
  obtain ⟨b, e6, hb⟩ := hk2.ex 11 rfl
  replace hfr2 := hfr2.cons e6
  replace hfr2 := hfr2.cons (hk2.same 8 rfl e6)
  replace h := h.mono hle2
  replace hc2 := hc2.mono hle2
  replace hc3 := hc3.mono hle2
  clear hst1 hfr1 hk2
  obtain ⟨p, o, rfl, hp, ho⟩ := hb
  refine hK5 _ _ ?_; try clear hK5 K5
  refine seq_any fun K7 hK7 => ?_
  refine seq_any fun K8 hK8 => ?_
  refine region_plain (fun h => by cases h) hst2 hfr2 (by kernel_rfl) (by kernel_rfl) (.cons rfl (ob_move rfl) <|
      .cons rfl (ob_pnil rfl Try.underlying24) <|
      .nil) ?_
  intro a3 w3 m3 hst3 hle3 hk3
  have hfr3 := hk3.fr (T' := [(0, _), (1, _), (4, _), (5, _), (7, _), (2, _), (3, _), (6, _), (8, _), (13, _)]) (.old rfl rfl <| .old rfl rfl <| .old rfl rfl <| .old rfl rfl <| .old rfl rfl <| .old rfl rfl <| .old rfl rfl <| .old rfl rfl <| .old rfl rfl <| .new rfl <| .nil)
  replace h := h.mono hle3
  replace hc2 := hc2.mono hle3
  replace hc3 := hc3.mono hle3
  replace hp := hp.mono hle3
  replace ho := ho.mono hle3
  clear hst2 hfr2 hk3
  refine hK8 _ _ ?_; try clear hK8 K8
  refine cond_any hfr3 rfl rfl (fun hb13 => ?_) (fun hb13 => ?_)
  · simp at hb13
  · refine wp_skip ?_
    refine hK7 _ _ ?_; try clear hK7 K7
    refine seq_any fun K9 hK9 => ?_
    refine region_any (tch := [(15, 0, (fun _ => .blk _ _))]) (fun _ => mixed) hst3 hfr3 (by kernel_rfl) (by kernel_rfl) (by kernel_rfl) (.cons rfl (ob_move rfl) <|
        .cons rfl (ob_nilCheck rfl) <|
        .cons rfl (ob_fieldAddr rfl Try.underlying61 rfl Try.sizeOf9 rfl) <|
        .cons rfl (ob_load1 rfl hp Try.isAgg9 rfl) <|
        .cons rfl (ob_move rfl) <|
        .cons rfl (ob_nilCheck rfl) <|
        .cons rfl (ob_fieldAddr rfl Try.underlying61 rfl Try.sizeOf3 rfl) <|
        .cons rfl (ob_load1 rfl hp Try.isAgg3 rfl) <|
        .cons rfl (ob_move rfl) <|
        .cons rfl (ob_nilCheck rfl) <|
        .cons rfl (ob_fieldAddr rfl Try.underlying61 rfl Try.sizeOf24 rfl) <|
        .cons rfl (ob_load1 rfl hp Try.isAgg24 rfl) <|
        .cons rfl (ob_buildS (.cons rfl <| .nil) Try.underlying26 Try.zeroValue26 (.cons Try.sizeOf24 <| .nil) rfl) <|
        .cons rfl (ob_assign rfl) <|
        .cons rfl (ob_assign rfl) <|
        .consT rfl rfl (fun _ => rfl) rfl (ob_store' rfl rfl rfl Try.sizeOf26 rfl rfl rfl) <|
        .cons rfl (ob_assign rfl) <|
        .nil) ?_
    intro a4 w4 m4 hst4 hle4 hk4
    have hfr4 := hk4.fr (T' := [(0, _), (1, _), (2, _), (3, _), (6, _), (8, _), (4, _), (5, _), (7, _)]) (.old rfl rfl <| .old rfl rfl <| .old rfl rfl <| .old rfl rfl <| .old rfl rfl <| .old rfl rfl <| .new rfl <| .new rfl <| .new rfl <| .nil)
    replace hst4 := hst4.fin (L' := [_]) (.cons rfl <| .nil)
    replace h := h.mono hle4
    replace hc2 := hc2.mono hle4
    replace hc3 := hc3.mono hle4
    replace hp := hp.mono hle4
    replace ho := ho.mono hle4
    clear hst3 hfr3 hk4
    refine hK9 _ _ ?_; try clear hK9 K9
    refine wp_ret ?_
    repeat (with_reducible first | refine then_ret ?_ | refine block_ret ?_)
    exact fn_ret hst4 hfr4 rfl (.tmp rfl <| .tmp rfl <| .cell rfl (load_blk (blk_heap (hst4.loc.at_ (k := 0) rfl)) Try.isAgg26 Try.sizeOf26) <| .tmp rfl <| .nil) (⟨_, rfl, ho⟩)

set_option maxHeartbeats 400000 in
theorem at_none {w : World} {m : Mem} {l : List VE} {a : Option Addr} {k : Int} (hA : Agree w m) (h : Chain m l a) (hd : l.dropWhile (fun x : VE => !decide (x.mrk = k)) = []) :
    FnV Try.prog 19 #[.agg #[.pointer a], .int .i64 k] w m (fun _ _ v => v = .tuple #[S [], .agg #[.pointer none], .bool false]) := by
  refine fn_enter (vs := [.agg #[.pointer a], .int .i64 k]) Try.func19 rfl rfl rfl fun a0 hfr0 => ?_
  have hst0 := st_enter hA (loc_nil [] _ w m)
  refine seq_any fun K1 hK1 => ?_
  replace hst0 := hst0.more (r := .free) trivial List.nodup_nil (by simp [Res.blocks])
  refine region_any (tch := [(3, 0, (fun v => .blk v _))]) (fun h => by cases h) hst0 hfr0 (by kernel_rfl) (by kernel_rfl) (by kernel_rfl) (.cons rfl (ob_box rfl rfl) <|
      .cons rfl (ob_box rfl rfl) <|
      .cons rfl (ob_assign rfl) <|
      .consT rfl rfl (fun _ => rfl) rfl (ob_allocL Try.zeroValue26 rfl) <|
      .cons rfl (ob_assign rfl) <|
      .nil) ?_
  intro a1 w1 m1 hst1 hle1 hk1
  have hfr1 := hk1.fr (T' := [(0, _), (1, _), (4, _), (6, _)]) (.old rfl rfl <| .old rfl rfl <| .new rfl <| .new rfl <| .nil)
  obtain ⟨g2, e2, hc2⟩ := hk1.ex 2 rfl
  replace hfr1 := hfr1.cons e2
  obtain ⟨g3, e3, hc3⟩ := hk1.ex 3 rfl
  replace hfr1 := hfr1.cons e3
  obtain ⟨gr, e4, _⟩ := hk1.ex 5 rfl
  replace hfr1 := hfr1.cons e4
  replace hst1 := hst1.fin (L' := [_]) (.cons e4 <| .nil)
  replace h := h.mono hle1
  clear hst0 hfr0 hk1
  refine hK1 _ _ ?_; try clear hK1 K1
  refine seq_any fun K5 hK5 => ?_
  refine region_any (tch := []) (fun h => by cases h) hst1 hfr1 (by kernel_rfl) (by kernel_rfl) (by kernel_rfl) (.cons rfl (ob_loadS' rfl hc2 Try.isAgg26 Try.sizeOf26 rfl rfl) <|
      .cons rfl (ob_makeFunc (.cons rfl <| .nil)) <|
      .cons rfl (ob_call (φ := MP.mem (fun b => .pointer b) (fun b m => Chain m [] b) (fun hm h => h.mono hm)) rfl (.cons rfl <| .cons rfl <| .nil) Try.call28 (fun w m hK => by exact FnG.mono (the_c (φ := fun x => decide (x.mrk = k)) (cap := [_]) (KC.agree hK) (h.mono (KC.le hK)) hd Try.call32 (fun w m2 x p o n hm ha hc => atf_c ha hc (hc3.mono ((KC.le hK).trans hm)))) fun _ _ _ _ h => h)) <|
      .consA 10 rfl rfl <|
      .nil) ?_
  intro a2 w2 m2 hst2 hle2 hk2
  have hfr2 := hk2.fr (T' := [(0, _), (1, _), (4, _), (6, _), (2, _), (3, _), (5, _)]) (.old rfl rfl <| .old rfl rfl <| .old rfl rfl <| .old rfl rfl <| .old rfl rfl <| .old rfl rfl <| .old rfl rfl <| .nil)
  obtain ⟨b, e6, hb⟩ := hk2.ex 10 rfl
  replace hfr2 := hfr2.cons e6
  replace hfr2 := hfr2.cons (hk2.same 7 rfl e6)
  replace h := h.mono hle2
  replace hc2 := hc2.mono hle2
  replace hc3 := hc3.mono hle2
  clear hst1 hfr1 hk2
  obtain rfl : b = none := hb
  refine hK5 _ _ ?_; try clear hK5 K5
  refine seq_any fun K7 hK7 => ?_
  refine seq_any fun K8 hK8 => ?_
  refine region_plain (fun h => by cases h) hst2 hfr2 (by kernel_rfl) (by kernel_rfl) (.cons rfl (ob_move rfl) <|
      .cons rfl (ob_pnil rfl Try.underlying24) <|
      .nil) ?_
  intro a3 w3 m3 hst3 hle3 hk3
  have hfr3 := hk3.fr (T' := [(0, _), (1, _), (4, _), (6, _), (2, _), (3, _), (5, _), (7, _), (12, _)]) (.old rfl rfl <| .old rfl rfl <| .old rfl rfl <| .old rfl rfl <| .old rfl rfl <| .old rfl rfl <| .old rfl rfl <| .old rfl rfl <| .new rfl <| .nil)
  replace h := h.mono hle3
  replace hc2 := hc2.mono hle3
  replace hc3 := hc3.mono hle3
  clear hst2 hfr2 hk3
  refine hK8 _ _ ?_; try clear hK8 K8
  refine cond_any hfr3 rfl rfl (fun hb12 => ?_) (fun hb12 => ?_)
  · refine seq_any fun K9 hK9 => ?_
    refine region_any (tch := [(3, 0, (fun _ => .blk _ _))]) (fun h => by cases h) hst3 hfr3 (by kernel_rfl) (by kernel_rfl) (by kernel_rfl) (.cons rfl (ob_callE rfl (.nil) Try.call30 (fun w m hK => by exact nothing_c (KC.agree hK))) <|
        .cons rfl (ob_buildS (.nil) Try.underlying26 Try.zeroValue26 (.cons Try.sizeOf24 <| .nil) rfl) <|
        .cons rfl (ob_assign rfl) <|
        .consT rfl rfl (fun _ => rfl) rfl (ob_store' rfl rfl rfl Try.sizeOf26 rfl rfl rfl) <|
        .cons rfl (ob_assign rfl) <|
        .nil) ?_
    intro a4 w4 m4 hst4 hle4 hk4
    have hfr4 := hk4.fr (T' := [(0, _), (1, _), (2, _), (3, _), (5, _), (7, _), (4, _), (6, _)]) (.old rfl rfl <| .old rfl rfl <| .old rfl rfl <| .old rfl rfl <| .old rfl rfl <| .old rfl rfl <| .new rfl <| .new rfl <| .nil)
    replace hst4 := hst4.fin (L' := [_]) (.cons rfl <| .nil)
    replace h := h.mono hle4
    replace hc2 := hc2.mono hle4
    replace hc3 := hc3.mono hle4
    clear hst3 hfr3 hk4
    refine hK9 _ _ ?_; try clear hK9 K9
    refine wp_ret ?_
    repeat (with_reducible first | refine then_ret ?_ | refine block_ret ?_)
    exact fn_ret hst4 hfr4 rfl (.tmp rfl <| .cell rfl (load_blk (blk_heap (hst4.loc.at_ (k := 0) rfl)) Try.isAgg26 Try.sizeOf26) <| .tmp rfl <| .nil) (rfl)
  · simp at hb12

set_option maxHeartbeats 400000 in
theorem at_some {w : World} {m : Mem} {l : List VE} {a : Option Addr} {k : Int} (hA : Agree w m) (h : Chain m l a) {x : VE} {xs : List VE} (hd : l.dropWhile (fun x : VE => !decide (x.mrk = k)) = x :: xs) :
    FnV Try.prog 19 #[.agg #[.pointer a], .int .i64 k] w m (fun _ m v => ∃ o, v = .tuple #[x.kept, .agg #[.pointer o], .bool true] ∧ Chain m xs o) := by
  refine fn_enter (vs := [.agg #[.pointer a], .int .i64 k]) Try.func19 rfl rfl rfl fun a0 hfr0 => ?_
  have hst0 := st_enter hA (loc_nil [] _ w m)
  refine seq_any fun K1 hK1 => ?_
  replace hst0 := hst0.more (r := .free) trivial List.nodup_nil (by simp [Res.blocks])
  refine region_any (tch := [(3, 0, (fun v => .blk v _))]) (fun h => by cases h) hst0 hfr0 (by kernel_rfl) (by kernel_rfl) (by kernel_rfl) (.cons rfl (ob_box rfl rfl) <|
      .cons rfl (ob_box rfl rfl) <|
      .cons rfl (ob_assign rfl) <|
      .consT rfl rfl (fun _ => rfl) rfl (ob_allocL Try.zeroValue26 rfl) <|
      .cons rfl (ob_assign rfl) <|
      .nil) ?_
  intro a1 w1 m1 hst1 hle1 hk1
  have hfr1 := hk1.fr (T' := [(0, _), (1, _), (4, _), (6, _)]) (.old rfl rfl <| .old rfl rfl <| .new rfl <| .new rfl <| .nil)
  obtain ⟨g2, e2, hc2⟩ := hk1.ex 2 rfl
  replace hfr1 := hfr1.cons e2
  obtain ⟨g3, e3, hc3⟩ := hk1.ex 3 rfl
  replace hfr1 := hfr1.cons e3
  obtain ⟨gr, e4, _⟩ := hk1.ex 5 rfl
  replace hfr1 := hfr1.cons e4
  replace hst1 := hst1.fin (L' := [_]) (.cons e4 <| .nil)
  replace h := h.mono hle1
  clear hst0 hfr0 hk1
  refine hK1 _ _ ?_; try clear hK1 K1
  refine seq_any fun K5 hK5 => ?_
  refine region_any (tch := []) (fun h => by cases h) hst1 hfr1 (by kernel_rfl) (by kernel_rfl) (by kernel_rfl) (.cons rfl (ob_loadS' rfl hc2 Try.isAgg26 Try.sizeOf26 rfl rfl) <|
      .cons rfl (ob_makeFunc (.cons rfl <| .nil)) <|
      .cons rfl (ob_call (φ := MP.mem (fun b => .pointer b) (fun b m => Chain m (x :: xs) b) (fun hm h => h.mono hm)) rfl (.cons rfl <| .cons rfl <| .nil) Try.call28 (fun w m hK => by exact FnG.mono (the_c (φ := fun x => decide (x.mrk = k)) (cap := [_]) (KC.agree hK) (h.mono (KC.le hK)) hd Try.call32 (fun w m2 x p o n hm ha hc => atf_c ha hc (hc3.mono ((KC.le hK).trans hm)))) fun _ _ _ _ h => h)) <|
      .consA 10 rfl rfl <|
      .nil) ?_
  intro a2 w2 m2 hst2 hle2 hk2
  have hfr2 := hk2.fr (T' := [(0, _), (1, _), (4, _), (6, _), (2, _), (3, _), (5, _)]) (.old rfl rfl <| .old rfl rfl <| .old rfl rfl <| .old rfl rfl <| .old rfl rfl <| .old rfl rfl <| .old rfl rfl <| .nil)
  obtain ⟨b, e6, hb⟩ := hk2.ex 10 rfl
  replace hfr2 := hfr2.cons e6
  replace hfr2 := hfr2.cons (hk2.same 7 rfl e6)
  replace h := h.mono hle2
  replace hc2 := hc2.mono hle2
  replace hc3 := hc3.mono hle2
  clear hst1 hfr1 hk2
  obtain ⟨p, o, rfl, hp, ho⟩ := hb
  refine hK5 _ _ ?_; try clear hK5 K5
  refine seq_any fun K7 hK7 => ?_
  refine seq_any fun K8 hK8 => ?_
  refine region_plain (fun h => by cases h) hst2 hfr2 (by kernel_rfl) (by kernel_rfl) (.cons rfl (ob_move rfl) <|
      .cons rfl (ob_pnil rfl Try.underlying24) <|
      .nil) ?_
  intro a3 w3 m3 hst3 hle3 hk3
  have hfr3 := hk3.fr (T' := [(0, _), (1, _), (4, _), (6, _), (2, _), (3, _), (5, _), (7, _), (12, _)]) (.old rfl rfl <| .old rfl rfl <| .old rfl rfl <| .old rfl rfl <| .old rfl rfl <| .old rfl rfl <| .old rfl rfl <| .old rfl rfl <| .new rfl <| .nil)
  replace h := h.mono hle3
  replace hc2 := hc2.mono hle3
  replace hc3 := hc3.mono hle3
  replace hp := hp.mono hle3
  replace ho := ho.mono hle3
  clear hst2 hfr2 hk3
  refine hK8 _ _ ?_; try clear hK8 K8
  refine cond_any hfr3 rfl rfl (fun hb12 => ?_) (fun hb12 => ?_)
  · simp at hb12
  · refine wp_skip ?_
    refine hK7 _ _ ?_; try clear hK7 K7
    refine seq_any fun K9 hK9 => ?_
    refine region_any (tch := [(10, 0, (fun _ => .blk _ _))]) (fun _ => mixed) hst3 hfr3 (by kernel_rfl) (by kernel_rfl) (by kernel_rfl) (.cons rfl (ob_move rfl) <|
        .cons rfl (ob_nilCheck rfl) <|
        .cons rfl (ob_fieldAddr rfl Try.underlying61 rfl Try.sizeOf9 rfl) <|
        .cons rfl (ob_load1 rfl hp Try.isAgg9 rfl) <|
        .cons rfl (ob_move rfl) <|
        .cons rfl (ob_nilCheck rfl) <|
        .cons rfl (ob_fieldAddr rfl Try.underlying61 rfl Try.sizeOf24 rfl) <|
        .cons rfl (ob_load1 rfl hp Try.isAgg24 rfl) <|
        .cons rfl (ob_buildS (.cons rfl <| .nil) Try.underlying26 Try.zeroValue26 (.cons Try.sizeOf24 <| .nil) rfl) <|
        .cons rfl (ob_assign rfl) <|
        .consT rfl rfl (fun _ => rfl) rfl (ob_store' rfl rfl rfl Try.sizeOf26 rfl rfl rfl) <|
        .cons rfl (ob_assign rfl) <|
        .nil) ?_
    intro a4 w4 m4 hst4 hle4 hk4
    have hfr4 := hk4.fr (T' := [(0, _), (1, _), (2, _), (3, _), (5, _), (7, _), (4, _), (6, _)]) (.old rfl rfl <| .old rfl rfl <| .old rfl rfl <| .old rfl rfl <| .old rfl rfl <| .old rfl rfl <| .new rfl <| .new rfl <| .nil)
    replace hst4 := hst4.fin (L' := [_]) (.cons rfl <| .nil)
    replace h := h.mono hle4
    replace hc2 := hc2.mono hle4
    replace hc3 := hc3.mono hle4
    replace hp := hp.mono hle4
    replace ho := ho.mono hle4
    clear hst3 hfr3 hk4
    refine hK9 _ _ ?_; try clear hK9 K9
    refine wp_ret ?_
    repeat (with_reducible first | refine then_ret ?_ | refine block_ret ?_)
    exact fn_ret hst4 hfr4 rfl (.tmp rfl <| .cell rfl (load_blk (blk_heap (hst4.loc.at_ (k := 0) rfl)) Try.isAgg26 Try.sizeOf26) <| .tmp rfl <| .nil) (⟨_, rfl, ho⟩)

set_option maxHeartbeats 400000 in
theorem first_c {w : World} {m : Mem} {l : List VE} {a : Option Addr} {e : Str} (hA : Agree w m) (h : Chain m l a) (hl : l.length < 1000000000) :
    FnV Try.prog 12 #[.agg #[.pointer a], S e] w m (fun _ _ v => v = firstRes (l.findIdx? fun x => decide (x.e = e))) := by
  refine fn_enter (vs := [.agg #[.pointer a], S e]) Try.func12 rfl rfl rfl fun a0 hfr0 => ?_
  have hst0 := st_enter hA (loc_nil [] _ w m)
  refine seq_any fun K1 hK1 => ?_
  refine region_plain (fun h => by cases h) hst0 hfr0 (by kernel_rfl) (by kernel_rfl) (.cons rfl (ob_box rfl rfl) <|
      .cons rfl (ob_assign rfl) <|
      .cons rfl (ob_assign rfl) <|
      .nil) ?_
  intro a1 w1 m1 hst1 hle1 hk1
  have hfr1 := hk1.fr (T' := [(0, _), (1, _), (4, _), (5, _)]) (.old rfl rfl <| .old rfl rfl <| .new rfl <| .new rfl <| .nil)
  obtain ⟨g2, e2, hc2⟩ := hk1.ex 2 rfl
  replace hfr1 := hfr1.cons e2
  replace h := h.mono hle1
  clear hst0 hfr0 hk1
  refine hK1 _ _ ?_; try clear hK1 K1
  refine seq_any fun K3 hK3 => ?_
  refine region_plain (fun h => by cases h) hst1 hfr1 (by kernel_rfl) (by kernel_rfl) (.cons rfl (ob_assign rfl) <|
      .nil) ?_
  intro a2 w2 m2 hst2 hle2 hk2
  have hfr2 := hk2.fr (T' := [(0, _), (1, _), (4, _), (5, _), (2, _), (6, _)]) (.old rfl rfl <| .old rfl rfl <| .old rfl rfl <| .old rfl rfl <| .old rfl rfl <| .new rfl <| .nil)
  replace h := h.mono hle2
  replace hc2 := hc2.mono hle2
  clear hst1 hfr1 hk2
  refine hK3 _ _ ?_; try clear hK3 K3
  refine seq_any fun K4 hK4 => ?_
  refine seq_any fun K5 hK5 => ?_
  refine region_plain (fun h => by cases h) hst2 hfr2 (by kernel_rfl) (by kernel_rfl) (.cons rfl (ob_fieldAddr rfl Try.underlying26 rfl Try.sizeOf24 rfl) <|
      .cons rfl (ob_load1 rfl hc2 Try.isAgg24 rfl) <|
      .cons rfl (ob_assign rfl) <|
      .nil) ?_
  intro a3 w3 m3 hst3 hle3 hk3
  have hfr3 := hk3.fr (T' := [(0, _), (1, _), (4, _), (5, _), (2, _), (6, _), (7, _)]) (.old rfl rfl <| .old rfl rfl <| .old rfl rfl <| .old rfl rfl <| .old rfl rfl <| .old rfl rfl <| .new rfl <| .nil)
  replace h := h.mono hle3
  replace hc2 := hc2.mono hle3
  clear hst2 hfr2 hk3
  refine hK5 _ _ ?_; try clear hK5 K5
  refine wp_block ?_
  refine loop_any (T := [(0, _), (1, _), (4, _), (5, _), (2, _)]) (fun (y : List VE × Option Addr × Nat) => ([(6, .int .i64 (y.2.2 : Int)), (7, .pointer y.2.1)] : List (Nat × Value))) (fun _ => []) (fun (y : List VE × Option Addr × Nat) m => Chain m y.1 y.2.1 ∧ (l.findIdx? fun x => decide (x.e = e)) = (y.1.findIdx? fun x => decide (x.e = e)).map (· + y.2.2) ∧ y.1.length + y.2.2 = l.length) (fun y => y.1.length) ((l, a, 0)) ⟨hst3, MLe.refl _, hfr3.sub (.cons rfl <| .cons rfl <| .cons rfl <| .cons rfl <| .cons rfl <| .cons rfl <| .cons rfl <| .nil), ⟨h, by simp, rfl⟩⟩ fun y a4 w4 m4 hh4 => ?_
  have hst4 := hh4.st; have hle4 := hh4.le; have hfr4 := hh4.fr; have hrel := hh4.rel; clear hh4
  replace h := h.mono hle4
  replace hc2 := hc2.mono hle4
  clear hst3 hfr3
  obtain ⟨lx, b, k⟩ := y
  obtain ⟨hx, hdx, hkx⟩ := hrel
  dsimp only at hx hdx hkx hfr4
  have hlh4 := hle4
  refine seq_any fun K7 hK7 => ?_
  refine seq_any fun K8 hK8 => ?_
  refine region_plain (fun h => by cases h) hst4 hfr4 (by kernel_rfl) (by kernel_rfl) (.cons rfl (ob_move rfl) <|
      .cons rfl (ob_pnnil rfl Try.underlying24) <|
      .nil) ?_
  intro a5 w5 m5 hst5 hle5 hk5
  have hfr5 := hk5.fr (T' := [(6, _), (7, _), (0, _), (1, _), (4, _), (5, _), (2, _), (11, _)]) (.old rfl rfl <| .old rfl rfl <| .old rfl rfl <| .old rfl rfl <| .old rfl rfl <| .old rfl rfl <| .old rfl rfl <| .new rfl <| .nil)
  replace h := h.mono hle5
  replace hc2 := hc2.mono hle5
  replace hx := hx.mono hle5
  have hlh5 := hlh4.trans hle5
  clear hst4 hfr4 hk5
  refine hK8 _ _ ?_; try clear hK8 K8
  refine cond_any hfr5 rfl rfl (fun hb11 => ?_) (fun hb11 => ?_)
  · obtain ⟨x, xs, p, o, rfl, rfl, hp, ho⟩ := hx.cons_of (by simpa using hb11)
    refine wp_skip ?_
    refine hK7 _ _ ?_; try clear hK7 K7
    refine seq_any fun K9 hK9 => ?_
    refine wp_block ?_
    refine seq_any fun K10 hK10 => ?_
    refine seq_any fun K11 hK11 => ?_
    refine region_plain (fun h => by cases h) hst5 hfr5 (by kernel_rfl) (by kernel_rfl) (.cons rfl (ob_move rfl) <|
        .cons rfl (ob_nilCheck rfl) <|
        .cons rfl (ob_fieldAddr rfl Try.underlying61 rfl Try.sizeOf9 rfl) <|
        .cons rfl (ob_load1 rfl hp Try.isAgg9 rfl) <|
        .cons rfl (ob_move rfl) <|
        .cons rfl (ob_seql rfl rfl) <|
        .nil) ?_
    intro a6 w6 m6 hst6 hle6 hk6
    have hfr6 := hk6.fr (T' := [(6, _), (7, _), (0, _), (1, _), (4, _), (5, _), (2, _), (21, _)]) (.old rfl rfl <| .old rfl rfl <| .old rfl rfl <| .old rfl rfl <| .old rfl rfl <| .old rfl rfl <| .old rfl rfl <| .new rfl <| .nil)
    replace h := h.mono hle6
    replace hc2 := hc2.mono hle6
    replace hx := hx.mono hle6
    replace hp := hp.mono hle6
    replace ho := ho.mono hle6
    have hlh6 := hlh5.trans hle6
    clear hst5 hfr5 hk6
    refine hK11 _ _ ?_; try clear hK11 K11
    refine cond_any hfr6 rfl rfl (fun hb21 => ?_) (fun hb21 => ?_)
    · have hy : x.e = e := by simpa using hb21
      have hres : (l.findIdx? fun x => decide (x.e = e)) = some k := by rw [hdx]; simp [List.findIdx?_cons, hy]
      refine seq_any fun K12 hK12 => ?_
      refine region_plain (fun h => by cases h) hst6 hfr6 (by kernel_rfl) (by kernel_rfl) (.cons rfl (ob_move rfl) <|
          .cons rfl (ob_assign rfl) <|
          .cons rfl (ob_assign rfl) <|
          .nil) ?_
      intro a7 w7 m7 hst7 hle7 hk7
      have hfr7 := hk7.fr (T' := [(6, _), (7, _), (0, _), (1, _), (2, _), (4, _), (5, _)]) (.old rfl rfl <| .old rfl rfl <| .old rfl rfl <| .old rfl rfl <| .old rfl rfl <| .new rfl <| .new rfl <| .nil)
      replace h := h.mono hle7
      replace hc2 := hc2.mono hle7
      replace hx := hx.mono hle7
      replace hp := hp.mono hle7
      replace ho := ho.mono hle7
      have hlh7 := hlh6.trans hle7
      clear hst6 hfr6 hk7
      refine hK12 _ _ ?_; try clear hK12 K12
      refine wp_ret ?_
      repeat (with_reducible first | refine then_ret ?_ | refine block_ret ?_)
      exact fn_ret hst7 hfr7 rfl (.tmp rfl <| .tmp rfl <| .nil) (by rw [hres]; rfl)
    · have hy : ¬ x.e = e := by simpa using hb21
      refine wp_skip ?_
      refine hK10 _ _ ?_; try clear hK10 K10
      have hk9 : k < 1000000000 := by omega
      refine region_plain (fun h => by cases h) hst6 hfr6 (by kernel_rfl) (by kernel_rfl) (.cons rfl (ob_move rfl) <|
          .cons rfl (ob_add rfl rfl ⟨by omega, by omega⟩) <|
          .cons rfl (ob_assign rfl) <|
          .nil) ?_
      intro a7 w7 m7 hst7 hle7 hk7
      have hfr7 := hk7.fr (T' := [(7, _), (0, _), (1, _), (4, _), (5, _), (2, _), (6, _)]) (.old rfl rfl <| .old rfl rfl <| .old rfl rfl <| .old rfl rfl <| .old rfl rfl <| .old rfl rfl <| .new rfl <| .nil)
      replace h := h.mono hle7
      replace hc2 := hc2.mono hle7
      replace hx := hx.mono hle7
      replace hp := hp.mono hle7
      replace ho := ho.mono hle7
      have hlh7 := hlh6.trans hle7
      clear hst6 hfr6 hk7
      refine hK9 _ _ ?_; try clear hK9 K9
      refine region_plain (fun h => by cases h) hst7 hfr7 (by kernel_rfl) (by kernel_rfl) (.cons rfl (ob_move rfl) <|
          .cons rfl (ob_nilCheck rfl) <|
          .cons rfl (ob_fieldAddr rfl Try.underlying61 rfl Try.sizeOf24 rfl) <|
          .cons rfl (ob_load1 rfl hp Try.isAgg24 rfl) <|
          .cons rfl (ob_assign rfl) <|
          .nil) ?_
      intro a8 w8 m8 hst8 hle8 hk8
      have hfr8 := hk8.fr (T' := [(0, _), (1, _), (4, _), (5, _), (2, _), (6, _), (7, _)]) (.old rfl rfl <| .old rfl rfl <| .old rfl rfl <| .old rfl rfl <| .old rfl rfl <| .old rfl rfl <| .new rfl <| .nil)
      replace h := h.mono hle8
      replace hc2 := hc2.mono hle8
      replace hx := hx.mono hle8
      replace hp := hp.mono hle8
      replace ho := ho.mono hle8
      have hlh8 := hlh7.trans hle8
      clear hst7 hfr7 hk8
      exact ⟨(xs, o, k + 1), m8, Nat.lt_succ_self _, ⟨hst8, hlh8, hfr8.sub (.cons rfl <| .cons rfl <| .cons rfl <| .cons rfl <| .cons rfl <| .cons rfl <| .cons rfl <| .nil), ⟨ho, by rw [hdx]; simp [List.findIdx?_cons, hy, Function.comp_def, Nat.add_comm, Nat.add_left_comm], by simp at hkx ⊢; omega⟩⟩⟩
  · obtain ⟨rfl, rfl⟩ := hx.nil_of (by simpa using hb11)
    have hres : (l.findIdx? fun x => decide (x.e = e)) = none := by rw [hdx]; rfl
    refine wp_exit ?_
    refine hK4 _ _ ?_; try clear hK4 K4
    refine seq_any fun K14 hK14 => ?_
    refine region_plain (fun h => by cases h) hst5 hfr5 (by kernel_rfl) (by kernel_rfl) (.cons rfl (ob_assign rfl) <|
        .cons rfl (ob_assign rfl) <|
        .nil) ?_
    intro a6 w6 m6 hst6 hle6 hk6
    have hfr6 := hk6.fr (T' := [(6, _), (7, _), (0, _), (1, _), (2, _), (4, _), (5, _)]) (.old rfl rfl <| .old rfl rfl <| .old rfl rfl <| .old rfl rfl <| .old rfl rfl <| .new rfl <| .new rfl <| .nil)
    replace h := h.mono hle6
    replace hc2 := hc2.mono hle6
    replace hx := hx.mono hle6
    have hlh6 := hlh5.trans hle6
    clear hst5 hfr5 hk6
    refine hK14 _ _ ?_; try clear hK14 K14
    refine wp_ret ?_
    repeat (with_reducible first | refine then_ret ?_ | refine block_ret ?_)
    exact fn_ret hst6 hfr6 rfl (.tmp rfl <| .tmp rfl <| .nil) (by rw [hres]; rfl)

set_option maxHeartbeats 400000 in
theorem drop_c {w : World} {m : Mem} {l : List VE} {a : Option Addr} {n : Int} (hA : Agree w m) (h : Chain m l a) (hn : InI64 n) :
    FnV Try.prog 14 #[.agg #[.pointer a], .int .i64 n] w m (fun _ m v => ∃ o, v = .agg #[.pointer o] ∧ Chain m (l.drop n.toNat) o) := by
  refine fn_enter (vs := [.agg #[.pointer a], .int .i64 n]) Try.func14 rfl rfl rfl fun a0 hfr0 => ?_
  have hst0 := st_enter hA (loc_nil [] _ w m)
  obtain ⟨hn1, hn2⟩ := hn
  refine seq_any fun K1 hK1 => ?_
  replace hst0 := hst0.more (r := .free) trivial List.nodup_nil (by simp [Res.blocks])
  replace hst0 := hst0.more (r := .free) trivial List.nodup_nil (by simp [Res.blocks])
  refine region_any (tch := [(0, 0, (fun v => .blk v _)), (1, 1, (fun v => .blk v _))]) (fun h => by cases h) hst0 hfr0 (by kernel_rfl) (by kernel_rfl) (by kernel_rfl) (.consT rfl rfl (fun _ => rfl) rfl (ob_boxL rfl rfl) <|
      .consT rfl rfl (fun _ => rfl) rfl (ob_allocL Try.zeroValue26 rfl) <|
      .nil) ?_
  intro a1 w1 m1 hst1 hle1 hk1
  have hfr1 := hk1.fr (T' := [(0, _), (1, _)]) (.old rfl rfl <| .old rfl rfl <| .nil)
  obtain ⟨gv, e2, _⟩ := hk1.ex 2 rfl
  replace hfr1 := hfr1.cons e2
  obtain ⟨gr, e3, _⟩ := hk1.ex 4 rfl
  replace hfr1 := hfr1.cons e3
  replace hst1 := hst1.fin (L' := [_, _]) (.cons e2 <| .cons e3 <| .nil)
  replace h := h.mono hle1
  clear hst0 hfr0 hk1
  refine hK1 _ _ ?_; try clear hK1 K1
  refine seq_any fun K4 hK4 => ?_
  refine wp_block ?_
  refine loop_any (T := [(0, _), (2, _), (4, _)]) (fun (y : List VE × Option Addr × Int) => ([(1, .int .i64 y.2.2)] : List (Nat × Value))) (fun y => [.blk (.pointer (some ⟨gv, 0, none⟩)) (.cells #[.pointer y.2.1] 26), .blk (.pointer (some ⟨gr, 0, none⟩)) (.cells #[.pointer none] 26)]) (fun (y : List VE × Option Addr × Int) m => Chain m y.1 y.2.1 ∧ y.1.drop y.2.2.toNat = l.drop n.toNat ∧ InI64 y.2.2) (fun y => y.1.length) ((l, a, n)) ⟨hst1, MLe.refl _, hfr1.sub (.cons rfl <| .cons rfl <| .cons rfl <| .cons rfl <| .nil), ⟨h, rfl, hn1, hn2⟩⟩ fun y a2 w2 m2 hh2 => ?_
  have hst2 := hh2.st; have hle2 := hh2.le; have hfr2 := hh2.fr; have hrel := hh2.rel; clear hh2
  replace h := h.mono hle2
  clear hst1 hfr1
  obtain ⟨lx, b, k⟩ := y
  obtain ⟨hx, hdx, hk1, hk2⟩ := hrel
  dsimp only at hx hdx hk1 hk2 hfr2
  have hlh2 := hle2
  refine seq_any fun K6 hK6 => ?_
  refine seq_any fun K7 hK7 => ?_
  refine region_plain (fun h => by cases h) hst2 hfr2 (by kernel_rfl) (by kernel_rfl) (.cons rfl (ob_move rfl) <|
      .cons rfl (ob_gtr rfl rfl) <|
      .cons rfl (ob_move rfl) <|
      .cons rfl (ob_fieldAddr rfl Try.underlying26 rfl Try.sizeOf24 rfl) <|
      .cons rfl (ob_loadL (j := 0) rfl rfl Try.isAgg24 rfl) <|
      .cons rfl (ob_pnnil rfl Try.underlying24) <|
      .cons rfl (ob_and rfl rfl rfl) <|
      .nil) ?_
  intro a3 w3 m3 hst3 hle3 hk3
  have hfr3 := hk3.fr (T' := [(1, _), (0, _), (2, _), (4, _), (11, _)]) (.old rfl rfl <| .old rfl rfl <| .old rfl rfl <| .old rfl rfl <| .new rfl <| .nil)
  replace h := h.mono hle3
  replace hx := hx.mono hle3
  have hlh3 := hlh2.trans hle3
  clear hst2 hfr2 hk3
  refine hK7 _ _ ?_; try clear hK7 K7
  refine cond_any hfr3 rfl rfl (fun hb11 => ?_) (fun hb11 => ?_)
  · simp only [Bool.and_eq_true, decide_eq_true_eq] at hb11
    obtain ⟨hk, hb⟩ := hb11
    obtain ⟨x, xs, p, o, rfl, rfl, hp, ho⟩ := hx.cons_of (by simpa using hb)
    refine wp_skip ?_
    refine hK6 _ _ ?_; try clear hK6 K6
    refine seq_any fun K8 hK8 => ?_
    refine wp_block ?_
    refine region_any (tch := [(6, 0, (fun _ => .blk _ _))]) (fun h => by cases h) hst3 hfr3 (by kernel_rfl) (by kernel_rfl) (by kernel_rfl) (.cons rfl (ob_fieldAddr rfl Try.underlying26 rfl Try.sizeOf24 rfl) <|
        .cons rfl (ob_loadL (j := 0) rfl rfl Try.isAgg24 rfl) <|
        .cons rfl (ob_nilCheck rfl) <|
        .cons rfl (ob_fieldAddr rfl Try.underlying61 rfl Try.sizeOf24 rfl) <|
        .cons rfl (ob_load1 rfl hp Try.isAgg24 rfl) <|
        .cons rfl (ob_fieldAddr rfl Try.underlying26 rfl Try.sizeOf24 rfl) <|
        .consT rfl rfl (fun _ => rfl) rfl (ob_store rfl rfl rfl Try.sizeOf24 rfl rfl rfl) <|
        .nil) ?_
    intro a4 w4 m4 hst4 hle4 hk4
    have hfr4 := hk4.fr (T' := [(1, _), (0, _), (2, _), (4, _)]) (.old rfl rfl <| .old rfl rfl <| .old rfl rfl <| .old rfl rfl <| .nil)
    replace hst4 := hst4.fin (L' := [_, _]) (.cons rfl <| .nil)
    replace h := h.mono hle4
    replace hx := hx.mono hle4
    replace hp := hp.mono hle4
    replace ho := ho.mono hle4
    have hlh4 := hlh3.trans hle4
    clear hst3 hfr3 hk4
    refine hK8 _ _ ?_; try clear hK8 K8
    refine region_plain (fun h => by cases h) hst4 hfr4 (by kernel_rfl) (by kernel_rfl) (.cons rfl (ob_move rfl) <|
        .cons rfl (ob_sub rfl rfl ⟨by omega, by omega⟩) <|
        .cons rfl (ob_assign rfl) <|
        .nil) ?_
    intro a5 w5 m5 hst5 hle5 hk5
    have hfr5 := hk5.fr (T' := [(0, _), (2, _), (4, _), (1, _)]) (.old rfl rfl <| .old rfl rfl <| .old rfl rfl <| .new rfl <| .nil)
    replace h := h.mono hle5
    replace hx := hx.mono hle5
    replace hp := hp.mono hle5
    replace ho := ho.mono hle5
    have hlh5 := hlh4.trans hle5
    clear hst4 hfr4 hk5
    exact ⟨(xs, o, k - 1), m5, Nat.lt_succ_self _, ⟨hst5, hlh5, hfr5.sub (.cons rfl <| .cons rfl <| .cons rfl <| .cons rfl <| .nil), ⟨ho, by rw [← hdx, show k.toNat = (k - 1).toNat + 1 by omega]; rfl, by show (-9223372036854775808 : Int) ≤ k - 1; omega, by show k - 1 ≤ (9223372036854775807 : Int); omega⟩⟩⟩
  · have hres : lx.drop k.toNat = lx := by
      by_cases h0 : 0 < k
      · obtain ⟨_, rfl⟩ := hx.nil_of (by simpa [h0] using hb11)
        simp
      · rw [show k.toNat = 0 by omega]; rfl
    rw [hres] at hdx
    refine wp_exit ?_
    refine hK4 _ _ ?_; try clear hK4 K4
    refine seq_any fun K9 hK9 => ?_
    refine region_any (tch := [(1, 1, (fun _ => .blk _ _))]) (fun h => by cases h) hst3 hfr3 (by kernel_rfl) (by kernel_rfl) (by kernel_rfl) (.cons rfl (ob_loadLS' (j := 0) rfl rfl Try.isAgg26 Try.sizeOf26 rfl rfl) <|
        .consT rfl rfl (fun _ => rfl) rfl (ob_store' rfl rfl rfl Try.sizeOf26 rfl rfl rfl) <|
        .nil) ?_
    intro a4 w4 m4 hst4 hle4 hk4
    have hfr4 := hk4.fr (T' := [(1, _), (0, _), (2, _), (4, _)]) (.old rfl rfl <| .old rfl rfl <| .old rfl rfl <| .old rfl rfl <| .nil)
    replace hst4 := hst4.fin (L' := [_, _]) (.cons rfl <| .nil)
    replace h := h.mono hle4
    replace hx := hx.mono hle4
    have hlh4 := hlh3.trans hle4
    clear hst3 hfr3 hk4
    refine hK9 _ _ ?_; try clear hK9 K9
    refine wp_ret ?_
    repeat (with_reducible first | refine then_ret ?_ | refine block_ret ?_)
    exact fn_ret hst4 hfr4 rfl (.cell rfl (load_blk (blk_heap (hst4.loc.at_ (k := 1) rfl)) Try.isAgg26 Try.sizeOf26) <| .nil) (⟨_, rfl, by rw [← hdx]; exact hx⟩)

set_option maxHeartbeats 400000 in
theorem markers_c {w : World} {m : Mem} {l : List VE} {a : Option Addr} (hA : Agree w m) (h : Chain m l a) (hl : l.length < 1000000000) :
    FnV Try.prog 17 #[.agg #[.pointer a]] w m (fun _ m v => ∃ y : Option Addr × Nat, v = .slice y.1 l.length y.2 ∧ RowAt m y.1 (l.map fun x => .int .i64 x.mrk) ∧ l.length ≤ y.2) := by
  refine fn_enter (vs := [.agg #[.pointer a]]) Try.func17 rfl rfl rfl fun a0 hfr0 => ?_
  have hst0 := st_enter hA (loc_nil [] _ w m)
  refine seq_any fun K1 hK1 => ?_
  refine region_plain (fun h => by cases h) hst0 hfr0 (by kernel_rfl) (by kernel_rfl) (.cons rfl (ob_box rfl rfl) <|
      .cons rfl (ob_assign rfl) <|
      .nil) ?_
  intro a1 w1 m1 hst1 hle1 hk1
  have hfr1 := hk1.fr (T' := [(0, _), (2, _)]) (.old rfl rfl <| .new rfl <| .nil)
  obtain ⟨g2, e2, hc1⟩ := hk1.ex 1 rfl
  replace hfr1 := hfr1.cons e2
  replace h := h.mono hle1
  clear hst0 hfr0 hk1
  refine hK1 _ _ ?_; try clear hK1 K1
  refine seq_any fun K3 hK3 => ?_
  refine region_plain (fun h => by cases h) hst1 hfr1 (by kernel_rfl) (by kernel_rfl) (.cons rfl (ob_assign rfl) <|
      .nil) ?_
  intro a2 w2 m2 hst2 hle2 hk2
  have hfr2 := hk2.fr (T' := [(0, _), (2, _), (1, _), (3, _)]) (.old rfl rfl <| .old rfl rfl <| .old rfl rfl <| .new rfl <| .nil)
  replace h := h.mono hle2
  replace hc1 := hc1.mono hle2
  clear hst1 hfr1 hk2
  refine hK3 _ _ ?_; try clear hK3 K3
  refine seq_any fun K4 hK4 => ?_
  refine seq_any fun K5 hK5 => ?_
  refine region_plain (fun h => by cases h) hst2 hfr2 (by kernel_rfl) (by kernel_rfl) (.cons rfl (ob_fieldAddr rfl Try.underlying26 rfl Try.sizeOf24 rfl) <|
      .cons rfl (ob_load1 rfl hc1 Try.isAgg24 rfl) <|
      .cons rfl (ob_assign rfl) <|
      .nil) ?_
  intro a3 w3 m3 hst3 hle3 hk3
  have hfr3 := hk3.fr (T' := [(0, _), (2, _), (1, _), (3, _), (4, _)]) (.old rfl rfl <| .old rfl rfl <| .old rfl rfl <| .old rfl rfl <| .new rfl <| .nil)
  replace h := h.mono hle3
  replace hc1 := hc1.mono hle3
  clear hst2 hfr2 hk3
  refine hK5 _ _ ?_; try clear hK5 K5
  refine wp_block ?_
  have hst3 := hst3.more (r := .row (.slice none 0 0) 0 1 3 []) ⟨rfl, .inl ⟨rfl, rfl⟩⟩ List.nodup_nil (by simp [Res.blocks, rowBlock])
  refine loop_any (T := [(0, _), (2, _), (1, _)]) (fun (y : List VE × Option Addr × Nat × List Value × Option Addr × Nat) => ([(3, .slice y.2.2.2.2.1 y.2.2.1 y.2.2.2.2.2), (4, .pointer y.2.1)] : List (Nat × Value))) (fun y => [.row (.slice y.2.2.2.2.1 y.2.2.1 y.2.2.2.2.2) y.2.2.1 1 3 y.2.2.2.1]) (fun (y : List VE × Option Addr × Nat × List Value × Option Addr × Nat) m => Chain m y.1 y.2.1 ∧ y.2.2.2.1 ++ y.1.map (fun x => Value.int .i64 x.mrk) = l.map (fun x => .int .i64 x.mrk) ∧ RowAt m y.2.2.2.2.1 y.2.2.2.1 ∧ y.2.2.1 ≤ y.2.2.2.2.2 ∧ y.2.2.1 + y.1.length = l.length) (fun y => y.1.length) ((l, a, 0, [], none, 0)) ⟨hst3, MLe.refl _, hfr3.sub (.cons rfl <| .cons rfl <| .cons rfl <| .cons rfl <| .cons rfl <| .nil), ⟨h, rfl, .inl rfl, Nat.le_refl _, by simp⟩⟩ fun y a4 w4 m4 hh4 => ?_
  have hst4 := hh4.st; have hle4 := hh4.le; have hfr4 := hh4.fr; have hrel := hh4.rel; clear hh4
  replace h := h.mono hle4
  replace hc1 := hc1.mono hle4
  clear hst3 hfr3
  obtain ⟨lx, b, k, cs, so, cap⟩ := y
  obtain ⟨hx, hdx, hrow, hcap, hln⟩ := hrel
  dsimp only at hx hdx hrow hcap hln hfr4 hst4
  have hlh4 := hle4
  refine seq_any fun K7 hK7 => ?_
  refine seq_any fun K8 hK8 => ?_
  refine region_plain (fun h => by cases h) hst4 hfr4 (by kernel_rfl) (by kernel_rfl) (.cons rfl (ob_move rfl) <|
      .cons rfl (ob_pnnil rfl Try.underlying24) <|
      .nil) ?_
  intro a5 w5 m5 hst5 hle5 hk5
  have hfr5 := hk5.fr (T' := [(3, _), (4, _), (0, _), (2, _), (1, _), (8, _)]) (.old rfl rfl <| .old rfl rfl <| .old rfl rfl <| .old rfl rfl <| .old rfl rfl <| .new rfl <| .nil)
  replace h := h.mono hle5
  replace hc1 := hc1.mono hle5
  replace hx := hx.mono hle5
  replace hrow := hrow.mono hle5
  have hlh5 := hlh4.trans hle5
  clear hst4 hfr4 hk5
  refine hK8 _ _ ?_; try clear hK8 K8
  refine cond_any hfr5 rfl rfl (fun hb8 => ?_) (fun hb8 => ?_)
  · obtain ⟨x, xs, p, o, rfl, rfl, hp, ho⟩ := hx.cons_of (by simpa using hb8)
    simp only [List.length_cons] at hln
    refine wp_skip ?_
    refine hK7 _ _ ?_; try clear hK7 K7
    refine seq_any fun K9 hK9 => ?_
    refine wp_block ?_
    refine region_any (tch := [(6, 0, (fun v => .row v _ _ _ _))]) (fun h => by cases h) hst5 hfr5 (by kernel_rfl) (by kernel_rfl) (by kernel_rfl) (.cons rfl (ob_move rfl) <|
        .cons rfl (ob_move rfl) <|
        .cons rfl (ob_nilCheck rfl) <|
        .cons rfl (ob_fieldAddr rfl Try.underlying61 rfl Try.sizeOf3 rfl) <|
        .cons rfl (ob_load1 rfl hp Try.isAgg3 rfl) <|
        .cons rfl (ob_buildSlice (.cons rfl <| .nil) Try.underlying41 Try.sizeOf3 Try.zeroValue3 rfl rfl rfl rfl) <|
        .consT rfl rfl (fun _ => rfl) rfl (ob_imgT 18 rfl rfl rfl fun y18 => ob_append (size := 1) (bytes := 8) rfl rfl Try.underlying41 Try.type3 rfl rfl rfl rfl (fun w m hK => .inr ⟨_, rfl, hK.2⟩) rfl (by decide) rfl (by simp only [maxLen]; omega) (by omega)) <|
        .consA 19 rfl rfl <|
        .nil) ?_
    intro a6 w6 m6 hst6 hle6 hk6
    have hfr6 := hk6.fr (T' := [(4, _), (0, _), (2, _), (1, _)]) (.old rfl rfl <| .old rfl rfl <| .old rfl rfl <| .old rfl rfl <| .nil)
    obtain ⟨⟨so2, cap2⟩, e10, hrw, hcp2⟩ := hk6.ex 19 rfl
    replace hfr6 := hfr6.cons e10
    replace hfr6 := hfr6.cons (hk6.same 3 rfl e10)
    replace hst6 := hst6.fin (L' := [_]) (.cons e10 <| .nil)
    replace h := h.mono hle6
    replace hc1 := hc1.mono hle6
    replace hx := hx.mono hle6
    replace hrow := hrow.mono hle6
    replace hp := hp.mono hle6
    replace ho := ho.mono hle6
    have hlh6 := hlh5.trans hle6
    clear hst5 hfr5 hk6
    refine hK9 _ _ ?_; try clear hK9 K9
    refine region_plain (fun h => by cases h) hst6 hfr6 (by kernel_rfl) (by kernel_rfl) (.cons rfl (ob_move rfl) <|
        .cons rfl (ob_nilCheck rfl) <|
        .cons rfl (ob_fieldAddr rfl Try.underlying61 rfl Try.sizeOf24 rfl) <|
        .cons rfl (ob_load1 rfl hp Try.isAgg24 rfl) <|
        .cons rfl (ob_assign rfl) <|
        .nil) ?_
    intro a7 w7 m7 hst7 hle7 hk7
    have hfr7 := hk7.fr (T' := [(0, _), (2, _), (1, _), (3, _), (4, _)]) (.old rfl rfl <| .old rfl rfl <| .old rfl rfl <| .old rfl rfl <| .new rfl <| .nil)
    replace h := h.mono hle7
    replace hc1 := hc1.mono hle7
    replace hx := hx.mono hle7
    replace hrow := hrow.mono hle7
    replace hp := hp.mono hle7
    replace ho := ho.mono hle7
    replace hrw := hrw.mono hle7
    have hlh7 := hlh6.trans hle7
    clear hst6 hfr6 hk7
    exact ⟨(xs, o, k + 1, cs ++ [Value.int .i64 x.mrk], so2, cap2), m7, Nat.lt_succ_self _, ⟨hst7, hlh7, hfr7.sub (.cons rfl <| .cons rfl <| .cons rfl <| .cons rfl <| .cons rfl <| .nil), ⟨ho, by rw [← hdx]; simp, hrw, hcp2, by show k + 1 + xs.length = l.length; omega⟩⟩⟩
  · obtain ⟨rfl, rfl⟩ := hx.nil_of (by simpa using hb8)
    refine wp_exit ?_
    refine hK4 _ _ ?_; try clear hK4 K4
    refine seq_any fun K11 hK11 => ?_
    refine region_plain (fun h => by cases h) hst5 hfr5 (by kernel_rfl) (by kernel_rfl) (.cons rfl (ob_move rfl) <|
        .cons rfl (ob_assign rfl) <|
        .nil) ?_
    intro a6 w6 m6 hst6 hle6 hk6
    have hfr6 := hk6.fr (T' := [(3, _), (4, _), (0, _), (1, _), (2, _)]) (.old rfl rfl <| .old rfl rfl <| .old rfl rfl <| .old rfl rfl <| .new rfl <| .nil)
    replace h := h.mono hle6
    replace hc1 := hc1.mono hle6
    replace hx := hx.mono hle6
    replace hrow := hrow.mono hle6
    have hlh6 := hlh5.trans hle6
    clear hst5 hfr5 hk6
    refine hK11 _ _ ?_; try clear hK11 K11
    refine wp_ret ?_
    repeat (with_reducible first | refine then_ret ?_ | refine block_ret ?_)
    simp only [List.map_nil, List.append_nil, List.length_nil, Nat.add_zero] at hdx hln
    subst hdx; subst hln
    exact fn_ret hst6 hfr6 rfl (.tmp rfl <| .nil) (⟨(so, cap), rfl, hrow, hcap⟩)

end Go.Proofs.Ytibkcojlgbmlhaa
