/-
  Code: its parts, and how many pieces it has. Conditions: those of each theorem.
-/
import Derived.Test.YtlihpgjabohebaaDoorRows
import Derived.Test.YtlihpgjabohebaaDoorCdtree
import Derived.Test.YtlihpgjabohebaaDoorRange
import Derived.Test.YtlihpgjabohebaaDoorMapw
namespace Go.Proofs.YtlihpgjabohebaaDoor
set_option linter.all false
set_option maxRecDepth 4000
open Go.RowKit
theorem mixed : Tryd.prog.follows .mixedOrders = true := by kernel_rfl
/-- The pieces right within code. -/
def partsC (t : Cd) : List Cd := t.kids ++ t.arms.map Ca.body
theorem partsC_len (t : Cd) : (partsC t).length = t.kids.length + t.arms.length := by simp [partsC]
theorem partsC_kid {t : Cd} {i : Nat} {u : Cd} (h : t.kids[i]? = some u) : (partsC t)[i]? = some u := by
  unfold partsC; rw [List.getElem?_append_left (List.getElem?_eq_some_iff.1 h).1]; exact h
theorem partsC_arm {t : Cd} {i : Nat} {a : Ca} (h : t.arms[i]? = some a) : (partsC t)[t.kids.length + i]? = some a.body := by
  unfold partsC; rw [List.getElem?_append_right (by omega)]; simp [h]
theorem partsC_sub {t u : Cd} (h : u ∈ partsC t) : u ∈ t.kids ∨ ∃ a ∈ t.arms, a.body = u := by
  unfold partsC at h
  rcases List.mem_append.1 h with h | h
  · exact .inl h
  · obtain ⟨a, ha, e⟩ := List.mem_map.1 h; exact .inr ⟨a, ha, e⟩
def CPartY (t : Cd) (i : Nat) (m : Mem) (args : List Value) : Prop := ∃ (u : Cd) (vs : List Value), args = [.agg vs.toArray] ∧ CdR m u vs ∧ (partsC t)[i]? = some u
theorem at_of_drop {α : Type} {l r : List α} {k : Nat} {x : α} (h : l.drop k = x :: r) : l[k]? = some x := by
  have := congrArg (·[0]?) h
  simpa using this
mutual
/-- How many pieces. -/
def sizeC : Cd → Nat
  | ⟨_, _, _, _, ks, az⟩ => 1 + sizeKs ks + sizeAs az
def sizeKs : List Cd → Nat
  | [] => 0
  | t :: ts => sizeC t + sizeKs ts
def sizeAs : List Ca → Nat
  | [] => 0
  | ⟨_, _, _, b⟩ :: ts => sizeC b + sizeAs ts
end
theorem sizeC_eq (t : Cd) : sizeC t = 1 + sizeKs t.kids + sizeAs t.arms := by obtain ⟨k, s, p, n, ks, az⟩ := t; rw [sizeC]; rfl
theorem sizeAs_cons (a : Ca) (ts : List Ca) : sizeAs (a :: ts) = sizeC a.body + sizeAs ts := by obtain ⟨s, l, tl, b⟩ := a; rw [sizeAs]; rfl
theorem sizeKs_sum : ∀ l : List Cd, sizeKs l = (l.map sizeC).sum
  | [] => rfl
  | t :: ts => by rw [sizeKs, List.map_cons, List.sum_cons, sizeKs_sum ts]
theorem sizeAs_sum : ∀ l : List Ca, sizeAs l = ((l.map Ca.body).map sizeC).sum
  | [] => rfl
  | a :: ts => by rw [sizeAs_cons, List.map_cons, List.map_cons, List.sum_cons, sizeAs_sum ts]
theorem sizeC_parts (t : Cd) : sizeC t = 1 + ((partsC t).map sizeC).sum := by rw [sizeC_eq, sizeKs_sum, sizeAs_sum]; unfold partsC; rw [List.map_append, List.sum_append]; omega
theorem sum_take_le {α : Type} (f : α → Nat) : ∀ (l : List α) (i : Nat), ((l.take i).map f).sum ≤ (l.map f).sum
  | [], i => by simp
  | x :: l, 0 => by simp
  | x :: l, i + 1 => by simp only [List.take_succ_cons, List.map_cons, List.sum_cons]; have := sum_take_le f l i; omega
theorem sum_take_succ {α : Type} (f : α → Nat) {l : List α} {i : Nat} {x : α} (h : l[i]? = some x) : ((l.take (i + 1)).map f).sum = ((l.take i).map f).sum + f x := by
  rw [List.take_succ, h]; simp
theorem sizeC_part {t u : Cd} (h : u ∈ partsC t) : sizeC u + 1 ≤ sizeC t := by
  rw [sizeC_parts t]
  obtain ⟨i, hi⟩ := List.mem_iff_getElem?.1 h
  have h1 := sum_take_succ sizeC hi; have h2 := sum_take_le sizeC (partsC t) (i + 1)
  omega
def MP.partsW (t : Cd) : MP := MP.mem (fun y : Nat × List Value => .func (.func 43) #[] #[.pointer (some ⟨y.1, 0, none⟩)]) (fun y m => CellsAt m ⟨y.1, 0, none⟩ y.2 ∧ CdR m t y.2) fun hm h => ⟨h.1.mono hm, h.2.mono hm⟩
set_option maxHeartbeats 400000 in
theorem parts_c {w : World} {m : Mem} {t : Cd} {vs_t : List Value} (hA : Agree w m) (h_t : CdR m t vs_t) : FnV Tryd.prog 31 #[.agg vs_t.toArray] w m (fun _ m v => (MP.partsW t).p m v) := by
  obtain ⟨⟨oK_t, cK_t, oA_t, cA_t⟩, rfl, ⟨hik_t, hin_t⟩, hkk_t, haa_t⟩ := h_t.open_
  dsimp only at hkk_t haa_t
  have hbg_t := hkk_t.big; have hcp_t := hkk_t.cap; have hbh_t := haa_t.big; have hcq_t := haa_t.cap
  refine fn_enter (vs := [_]) Tryd.func31 rfl rfl rfl fun a0 hfr0 => ?_
  have hst0 := st_enter hA (loc_nil [] _ w m)
  have hM : MLe m m := MLe.refl m
  refine seq_any fun _ hK1 => ?_
  refine rp0 hst0 hfr0 (.cons rfl (ob_box rfl rfl) <| .cons rfl (ob_assign rfl) <| .nil) ?_
  intro a1 w1 m1 hst1 hle1 hk1
  have hfr1 := hk1.fr (T' := []) (.nil)
  obtain ⟨g9, e2, hg9⟩ := hk1.ex 1 rfl
  replace hfr1 := hfr1.cons e2
  replace h_t := h_t.mono hle1
  clear hst0 hfr0 hk1
  refine hK1 _ _ ?_; clear hK1
  refine seq_any fun _ hK3 => ?_
  refine rp0 hst1 hfr1 (.cons rfl (ob_makeFunc (.cons rfl <| .nil)) <| .cons rfl (ob_assign rfl) <| .nil) ?_
  intro a2 w2 m2 hst2 hle2 hk2
  have hfr2 := hk2.fr (T' := [(2, _)]) (.new rfl <| .nil)
  replace h_t := h_t.mono hle2
  replace hg9 := hg9.mono hle2
  clear hst1 hfr1 hk2
  refine hK3 _ _ ?_; clear hK3
  refine wp_ret ?_
  repeat (with_reducible first | refine then_ret ?_ | refine block_ret ?_)
  exact fn_ret hst2 hfr2 rfl (.tmp rfl <| .nil) (⟨(g9, _), rfl, hg9, h_t⟩)

set_option maxHeartbeats 800000 in
theorem parts1_c {w : World} {m : Mem} {l : Nat} {bs : List Nat} {Ψ : Nat → World → Mem → Prop} {Ψx : World → Mem → Prop} {mY : Mem} {q : Addr} {vs_t : List Value} {t : Cd} (hA : Agree w m) (hq : CellsAt m q vs_t) (h_t : CdR m t vs_t) (hmY : MLe mY m) (hbs : bs.Nodup) (hp : (Res.pack bs (Ψ 0)).holds w m) (hy : ∀ i, i < (partsC t).length → YieldW Tryd.prog l bs mY (CPartY t i) (Ψ i) (Ψ (i + 1)) Ψx) : FnG Tryd.prog 43 #[.func (.yield l) #[] #[], .pointer (some q)] bs w m (fun w m _ => (Res.pack bs fun w m => Ψ (partsC t).length w m ∨ Ψx w m).holds w m) := by
  obtain ⟨⟨oK_t, cK_t, oA_t, cA_t⟩, rfl, ⟨hik_t, hin_t⟩, hkk_t, haa_t⟩ := h_t.open_
  dsimp only at hkk_t haa_t
  have hbg_t := hkk_t.big; have hcp_t := hkk_t.cap; have hbh_t := haa_t.big; have hcq_t := haa_t.cap
  refine fn_enter (vs := [_, _]) Tryd.func43 rfl rfl rfl fun a0 hfr0 => ?_
  have hst0 := st_enter hA (loc_one hp hbs)
  have hM : MLe m m := MLe.refl m
  rw [partsC_len] at hy
  rw [partsC_len]
  refine seq_any fun _ hK1 => ?_
  refine seq_any fun _ hK2 => ?_
  refine rp0 hst0 hfr0 (.cons rfl (ob_fieldAddrO (off := 4) rfl Tryd.underlying25 rfl rfl Tryd.sizeOf22 rfl) <| .cons rfl (ob_load1 rfl hq Tryd.isAgg22 rfl) <| .cons rfl (ob_len rfl Tryd.underlying22) <| .cons rfl (ob_move rfl) <| .nil) ?_
  intro a1 w1 m1 hst1 hle1 hk1
  have hfr1 := hk1.fr (T' := [(0, _), (1, _), (8, _), (9, _), (10, _)]) (.old rfl rfl <| .old rfl rfl <| .new rfl <| .new rfl <| .new rfl <| .nil)
  replace hq := hq.mono hle1
  replace hkk_t := hkk_t.mono hle1
  replace haa_t := haa_t.mono hle1
  replace hM := hM.trans hle1
  clear hst0 hfr0 hk1
  refine hK2 _ _ ?_; clear hK2
  refine wp_block ?_
  refine loop_any (T := [(0, _), (1, _), (8, _), (9, _)]) (fun (y : Nat) => ([(10, .int .i64 (y : Int))] : List (Nat × Value))) (fun y => [.pack bs (Ψ y)]) (fun (y : Nat) m => (y ≤ t.kids.length)) (fun y => t.kids.length - y) (0) ⟨hst1, MLe.refl _, hfr1.sub (.cons rfl <| .cons rfl <| .cons rfl <| .cons rfl <| .cons rfl <| .nil), Nat.zero_le _⟩ fun y a2 w2 m2 hh2 => ?_
  have hst2 := hh2.st; have hle2 := hh2.le; have hfr2 := hh2.fr; have hrel := hh2.rel; clear hh2
  replace hq := hq.mono hle2
  replace hkk_t := hkk_t.mono hle2
  replace haa_t := haa_t.mono hle2
  clear hst1 hfr1
  replace hM := hM.trans hle2
  have hyn := hrel
  have hlh2 := hle2
  refine seq_any fun _ hK4 => ?_
  refine rp0 hst2 hfr2 (.cons rfl (ob_lss rfl rfl) <| .nil) ?_
  intro a3 w3 m3 hst3 hle3 hk3
  have hfr3 := hk3.fr (T' := [(10, _), (0, _), (1, _), (8, _), (9, _), (11, _)]) (.old rfl rfl <| .old rfl rfl <| .old rfl rfl <| .old rfl rfl <| .old rfl rfl <| .new rfl <| .nil)
  replace hq := hq.mono hle3
  replace hkk_t := hkk_t.mono hle3
  replace haa_t := haa_t.mono hle3
  have hlh3 := hlh2.trans hle3
  replace hM := hM.trans hle3
  clear hst2 hfr2 hk3
  refine hK4 _ _ ?_; clear hK4
  refine seq_any fun _ hK5 => ?_
  refine cond_any hfr3 rfl rfl (fun hb11 => ?_) (fun hb11 => ?_)
  · try simp only [nq1, nq2, nq3, nq4, nq5, nq6, nq7, nq8, nq9, u8_eq] at hb11
    refine wp_skip ?_
    refine hK5 _ _ ?_; clear hK5
    refine seq_any fun _ hK6 => ?_
    refine wp_block ?_
    refine seq_any fun _ hK7 => ?_
    obtain ⟨p8, vs8, x8, ho8, hd8, hm_x8, ht8, hcv8, hl8, hv8⟩ := hkk_t.nth (k := y) (by omega)
    cases ho8
    obtain ⟨⟨oK8, cK8, oA8, cA8⟩, rfl, ⟨hik8, hin8⟩, hkk8, haa8⟩ := hv8.open_
    dsimp only at hkk8 haa8
    have hbg8 := hkk8.big; have hcp8 := hkk8.cap; have hbh8 := haa8.big; have hcq8 := haa8.cap
    replace hst3 := hst3.more (r := .free) trivial List.nodup_nil (by simp [Res.blocks])
    refine ra0 (tch := [(2, 1, (fun v => .blk v _)), (3, 1, (fun v => .blk v _))]) hst3 hfr3 (.cons rfl (ob_indexAddr (k := y) rfl rfl Tryd.underlying22 Tryd.sizeOf25 rfl (by omega)) <| .cons rfl (ob_loadS' rfl hcv8 Tryd.isAgg25 Tryd.sizeOf25 rfl rfl) <| .consT rfl rfl (fun _ => rfl) rfl (ob_allocL Tryd.zeroValue25 rfl) <| .consT rfl rfl (fun _ => rfl) rfl (ob_imgT 4 rfl rfl rfl fun y4 => ob_storeF rfl rfl rfl rfl rfl Tryd.sizeOf25 rfl rfl hv8.one) <| .nil) ?_
    intro a4 w4 m4 hst4 hle4 hk4
    have hfr4 := hk4.fr (T' := [(10, _), (0, _), (1, _), (8, _), (9, _)]) (.old rfl rfl <| .old rfl rfl <| .old rfl rfl <| .old rfl rfl <| .old rfl rfl <| .nil)
    obtain ⟨g9, e9, _⟩ := hk4.ex 4 rfl
    replace hfr4 := hfr4.cons e9
    replace hst4 := hst4.fin (L' := [_, _]) (.cons e9 <| .cons e9 <| .nil)
    try simp only [List.take_succ_cons, List.take_zero, List.drop_succ_cons, List.drop_zero, List.cons_append, List.nil_append, List.append_nil, List.length_cons, List.length_nil, Nat.zero_add, Nat.reduceAdd] at hst4
    replace hv8 := hv8.mono hle4
    have hlh4 := hlh3.trans hle4
    replace hM := hM.trans hle4
    clear hst3 hfr3 hk4
    refine hK7 _ _ ?_; clear hK7
    refine seq_any fun _ hK10 => ?_
    refine ra0 (tch := [(2, 0, (fun v => .pack bs _))]) hst4 hfr4 (.cons rfl (ob_move rfl) <| .cons rfl (ob_loadLA (j := 1) rfl rfl Tryd.isAgg25 Tryd.sizeOf25 rfl) <| .consT rfl rfl (fun _ => rfl) rfl (ob_yield rfl (.cons rfl <| .nil) (hy (y) (by omega)) (hmY.trans hM) hbs (fun w m hK => ⟨x8, _, rfl, hv8.mono (KC.le hK), partsC_kid (at_of_drop hd8)⟩)) <| .consN 16 notV rfl rfl (makes_not rfl rfl) <| .nil) ?_
    intro a5 w5 m5 hst5 hle5 hk5
    have hfr5 := hk5.fr (T' := [(10, _), (0, _), (1, _), (8, _), (9, _)]) (.old rfl rfl <| .old rfl rfl <| .old rfl rfl <| .old rfl rfl <| .old rfl rfl <| .nil)
    obtain ⟨b16, e11, _⟩ := hk5.ex 16 rfl
    replace hfr5 := hfr5.cons (hk5.made 17 rfl e11)
    replace hst5 := hst5.fin (L' := [_, _]) (.cons e11 <| .nil)
    have hlh5 := hlh4.trans hle5
    clear hst4 hfr4 hk5
    refine hK10 _ _ ?_; clear hK10
    refine cond_any hfr5 rfl rfl (fun hb17 => ?_) (fun hb17 => ?_)
    · try simp only [nq1, nq2, nq3, nq4, nq5, nq6, nq7, nq8, nq9, u8_eq] at hb17
      have hst9 := hst5.weaken (k := 0) (r' := .pack bs (Ψx)) rfl rfl (fun h => pack_mono h fun w m h => h.elim (fun h => by have h1 : Value.bool b16 = Value.bool true := h.1; injection h1 with h1; rw [h1] at hb17; exact absurd hb17 (by decide)) (fun h => h.2))
      simp only [List.set_cons_zero] at hst9
      clear hst5; have hst5 := hst9; clear hst9
      refine wp_ret ?_
      repeat (with_reducible first | refine then_ret ?_ | refine block_ret ?_)
      exact fn_ret hst5 hfr5 rfl (.nil) (pack_mono (hst5.loc.at_ (k := 0) rfl) fun w m h => .inr h)
    · try simp only [nq1, nq2, nq3, nq4, nq5, nq6, nq7, nq8, nq9, u8_eq] at hb17
      have hst9 := hst5.weaken (k := 0) (r' := .pack bs (Ψ (y + 1))) rfl rfl (fun h => pack_mono h fun w m h => h.elim (fun h => h.2) (fun h => by have h1 : Value.bool b16 = Value.bool false := h.1; injection h1 with h1; rw [h1] at hb17; exact absurd hb17 (by decide)))
      simp only [List.set_cons_zero] at hst9
      clear hst5; have hst5 := hst9; clear hst9
      refine wp_skip ?_
      refine hK6 _ _ ?_; clear hK6
      refine rp0 hst5 hfr5 (.cons rfl (ob_add rfl rfl ⟨by omega, by omega⟩) <| .cons rfl (ob_move rfl) <| .nil) ?_
      intro a6 w6 m6 hst6 hle6 hk6
      have hfr6 := hk6.fr (T' := [(0, _), (1, _), (8, _), (9, _), (10, _)]) (.old rfl rfl <| .old rfl rfl <| .old rfl rfl <| .old rfl rfl <| .new rfl <| .nil)
      have hlh6 := hlh5.trans hle6
      clear hst5 hfr5 hk6
      have hst6 := hst6.take 1
      exact ⟨y + 1, m6, by show t.kids.length - (y + 1) < t.kids.length - y; omega, ⟨hst6, hlh6, hfr6.sub (.cons rfl <| .cons rfl <| .cons rfl <| .cons rfl <| .cons rfl <| .nil), by show y + 1 ≤ t.kids.length; omega⟩⟩
  · try simp only [nq1, nq2, nq3, nq4, nq5, nq6, nq7, nq8, nq9, u8_eq] at hb11
    have hge : y = t.kids.length := by omega
    subst hge
    refine wp_exit ?_
    refine hK1 _ _ ?_; clear hK1
    refine seq_any fun _ hK13 => ?_
    refine rp0 hst3 hfr3 (.cons rfl (ob_fieldAddrO (off := 5) rfl Tryd.underlying25 rfl rfl Tryd.sizeOf23 rfl) <| .cons rfl (ob_load1 rfl hq Tryd.isAgg23 rfl) <| .cons rfl (ob_len rfl Tryd.underlying23) <| .cons rfl (ob_move rfl) <| .nil) ?_
    intro a4 w4 m4 hst4 hle4 hk4
    have hfr4 := hk4.fr (T' := [(10, _), (0, _), (20, _), (21, _), (22, _)]) (.old rfl rfl <| .old rfl rfl <| .new rfl <| .new rfl <| .new rfl <| .nil)
    replace haa_t := haa_t.mono hle4
    have hlh4 := hlh3.trans hle4
    replace hM := hM.trans hle4
    clear hst3 hfr3 hk4
    refine hK13 _ _ ?_; clear hK13
    refine wp_block ?_
    have hlq14 := hlh4
    refine loop_any (T := [(10, _), (0, _), (20, _), (21, _)]) (fun (y : Nat) => ([(22, .int .i64 (y : Int))] : List (Nat × Value))) (fun y => [.pack bs (Ψ (t.kids.length + y))]) (fun (y : Nat) m => (y ≤ t.arms.length)) (fun y => t.arms.length - y) (0) ⟨hst4, MLe.refl _, hfr4.sub (.cons rfl <| .cons rfl <| .cons rfl <| .cons rfl <| .cons rfl <| .nil), Nat.zero_le _⟩ fun y a5 w5 m5 hh5 => ?_
    have hst5 := hh5.st; have hle5 := hh5.le; have hfr5 := hh5.fr; have hrel := hh5.rel; clear hh5
    replace haa_t := haa_t.mono hle5
    clear hst4 hfr4
    replace hM := hM.trans hle5
    have hyn := hrel
    have hlh5 := hle5
    refine seq_any fun _ hK15 => ?_
    refine rp0 hst5 hfr5 (.cons rfl (ob_lss rfl rfl) <| .nil) ?_
    intro a6 w6 m6 hst6 hle6 hk6
    have hfr6 := hk6.fr (T' := [(22, _), (10, _), (0, _), (20, _), (21, _), (23, _)]) (.old rfl rfl <| .old rfl rfl <| .old rfl rfl <| .old rfl rfl <| .old rfl rfl <| .new rfl <| .nil)
    replace haa_t := haa_t.mono hle6
    have hlh6 := hlh5.trans hle6
    replace hM := hM.trans hle6
    clear hst5 hfr5 hk6
    refine hK15 _ _ ?_; clear hK15
    refine seq_any fun _ hK16 => ?_
    refine cond_any hfr6 rfl rfl (fun hb23 => ?_) (fun hb23 => ?_)
    · try simp only [nq1, nq2, nq3, nq4, nq5, nq6, nq7, nq8, nq9, u8_eq] at hb23
      refine wp_skip ?_
      refine hK16 _ _ ?_; clear hK16
      refine seq_any fun _ hK17 => ?_
      refine wp_block ?_
      refine seq_any fun _ hK18 => ?_
      obtain ⟨p19, vs19, x19, ho19, hd19, hm_x19, ht19, hcv19, hl19, hv19⟩ := haa_t.nth (k := y) (by omega)
      cases ho19
      obtain ⟨oV19, cV19, bs19, rfl, hva19, hbd19⟩ := hv19.open_
      have hbv19 := hva19.big; have hcv19_ := hva19.cap
      obtain ⟨⟨oK19b, cK19b, oA19b, cA19b⟩, rfl, ⟨hik19b, hin19b⟩, hkk19b, haa19b⟩ := hbd19.open_
      dsimp only at hkk19b haa19b
      have hbg19b := hkk19b.big; have hcp19b := hkk19b.cap; have hbh19b := haa19b.big; have hcq19b := haa19b.cap
      replace hst6 := hst6.more (r := .free) trivial List.nodup_nil (by simp [Res.blocks])
      refine ra0 (tch := [(2, 1, (fun v => .blk v _)), (3, 1, (fun v => .blk v _))]) hst6 hfr6 (.cons rfl (ob_indexAddr (k := y) rfl rfl Tryd.underlying23 Tryd.sizeOf35 rfl (by omega)) <| .cons rfl (ob_loadS' rfl hcv19 Tryd.isAgg35 Tryd.sizeOf35 rfl rfl) <| .consT rfl rfl (fun _ => rfl) rfl (ob_allocL Tryd.zeroValue35 rfl) <| .consT rfl rfl (fun _ => rfl) rfl (ob_imgT 6 rfl rfl rfl fun y6 => ob_storeF rfl rfl rfl rfl rfl Tryd.sizeOf35 rfl rfl hv19.one) <| .nil) ?_
      intro a7 w7 m7 hst7 hle7 hk7
      have hfr7 := hk7.fr (T' := [(22, _), (10, _), (0, _), (20, _), (21, _)]) (.old rfl rfl <| .old rfl rfl <| .old rfl rfl <| .old rfl rfl <| .old rfl rfl <| .nil)
      obtain ⟨g20, e20, _⟩ := hk7.ex 6 rfl
      replace hfr7 := hfr7.cons e20
      replace hst7 := hst7.fin (L' := [_, _]) (.cons e20 <| .cons e20 <| .nil)
      try simp only [List.take_succ_cons, List.take_zero, List.drop_succ_cons, List.drop_zero, List.cons_append, List.nil_append, List.append_nil, List.length_cons, List.length_nil, Nat.zero_add, Nat.reduceAdd] at hst7
      replace hbd19 := hbd19.mono hle7
      have hlh7 := hlh6.trans hle7
      replace hM := hM.trans hle7
      clear hst6 hfr6 hk7
      refine hK18 _ _ ?_; clear hK18
      refine seq_any fun _ hK21 => ?_
      refine ra0 (tch := [(3, 0, (fun v => .pack bs _))]) hst7 hfr7 (.cons rfl (ob_move rfl) <| .cons rfl (ob_fieldAddrO (off := 3) rfl Tryd.underlying35 rfl rfl Tryd.sizeOf25 rfl) <| .cons rfl (ob_loadLS (j := 1) rfl rfl Tryd.isAgg25 Tryd.sizeOf25 rfl rfl) <| .consT rfl rfl (fun _ => rfl) rfl (ob_yield rfl (.cons rfl <| .nil) (hy (t.kids.length + y) (by omega)) (hmY.trans hM) hbs (fun w m hK => ⟨x19.body, _, rfl, hbd19.mono (KC.le hK), partsC_arm (at_of_drop hd19)⟩)) <| .consN 29 notV rfl rfl (makes_not rfl rfl) <| .nil) ?_
      intro a8 w8 m8 hst8 hle8 hk8
      have hfr8 := hk8.fr (T' := [(22, _), (10, _), (0, _), (20, _), (21, _)]) (.old rfl rfl <| .old rfl rfl <| .old rfl rfl <| .old rfl rfl <| .old rfl rfl <| .nil)
      obtain ⟨b29, e22, _⟩ := hk8.ex 29 rfl
      replace hfr8 := hfr8.cons (hk8.made 30 rfl e22)
      replace hst8 := hst8.fin (L' := [_, _]) (.cons e22 <| .nil)
      have hlh8 := hlh7.trans hle8
      clear hst7 hfr7 hk8
      refine hK21 _ _ ?_; clear hK21
      refine cond_any hfr8 rfl rfl (fun hb30 => ?_) (fun hb30 => ?_)
      · try simp only [nq1, nq2, nq3, nq4, nq5, nq6, nq7, nq8, nq9, u8_eq] at hb30
        have hst9 := hst8.weaken (k := 0) (r' := .pack bs (Ψx)) rfl rfl (fun h => pack_mono h fun w m h => h.elim (fun h => by have h1 : Value.bool b29 = Value.bool true := h.1; injection h1 with h1; rw [h1] at hb30; exact absurd hb30 (by decide)) (fun h => h.2))
        simp only [List.set_cons_zero] at hst9
        clear hst8; have hst8 := hst9; clear hst9
        refine wp_ret ?_
        repeat (with_reducible first | refine then_ret ?_ | refine block_ret ?_)
        exact fn_ret hst8 hfr8 rfl (.nil) (pack_mono (hst8.loc.at_ (k := 0) rfl) fun w m h => .inr h)
      · try simp only [nq1, nq2, nq3, nq4, nq5, nq6, nq7, nq8, nq9, u8_eq] at hb30
        have hst9 := hst8.weaken (k := 0) (r' := .pack bs (Ψ (t.kids.length + (y + 1)))) rfl rfl (fun h => pack_mono h fun w m h => h.elim (fun h => h.2) (fun h => by have h1 : Value.bool b29 = Value.bool false := h.1; injection h1 with h1; rw [h1] at hb30; exact absurd hb30 (by decide)))
        simp only [List.set_cons_zero] at hst9
        clear hst8; have hst8 := hst9; clear hst9
        refine wp_skip ?_
        refine hK17 _ _ ?_; clear hK17
        refine rp0 hst8 hfr8 (.cons rfl (ob_add rfl rfl ⟨by omega, by omega⟩) <| .cons rfl (ob_move rfl) <| .nil) ?_
        intro a9 w9 m9 hst9 hle9 hk9
        have hfr9 := hk9.fr (T' := [(10, _), (0, _), (20, _), (21, _), (22, _)]) (.old rfl rfl <| .old rfl rfl <| .old rfl rfl <| .old rfl rfl <| .new rfl <| .nil)
        have hlh9 := hlh8.trans hle9
        clear hst8 hfr8 hk9
        have hst9 := hst9.take 1
        exact ⟨y + 1, m9, by show t.arms.length - (y + 1) < t.arms.length - y; omega, ⟨hst9, hlh9, hfr9.sub (.cons rfl <| .cons rfl <| .cons rfl <| .cons rfl <| .cons rfl <| .nil), by show y + 1 ≤ t.arms.length; omega⟩⟩
    · try simp only [nq1, nq2, nq3, nq4, nq5, nq6, nq7, nq8, nq9, u8_eq] at hb23
      have hge : y = t.arms.length := by omega
      subst hge
      refine wp_exit ?_
      repeat (with_reducible first | refine then_exit ?_ | refine block_exit ?_ | refine block_normal ?_)
      exact fn_end hst6 hfr6 rfl (.nil) (pack_mono (hst6.loc.at_ (k := 0) rfl) fun w m h => .inl h)

theorem parts_iter {m : Mem} {q : Addr} {vs : List Value} {t : Cd} (hq : CellsAt m q vs) (h_t : CdR m t vs) : IterC Tryd.prog 43 [.pointer (some q)] (partsC t).length (CPartY t) m :=
  fun l bs Ψ Ψx w m' hA hm hbs hp hy => parts1_c hA (hq.mono hm) (h_t.mono hm) hm hbs hp hy

abbrev size_G (t : Cd) : Prop := ∀ {w : World} {m : Mem} {vs_t : List Value} (hA : Agree w m) (h_t : CdR m t vs_t) (hb : sizeC t ≤ 1000000000), FnV Tryd.prog 19 #[.agg vs_t.toArray] w m (fun _ _ v => v = .int .i64 (sizeC t : Int))
set_option maxHeartbeats 800000 in
theorem size_s {t : Cd} (ihk : ∀ u ∈ t.kids, size_G u) (iha : ∀ a ∈ t.arms, size_G a.body) {w : World} {m : Mem} {vs_t : List Value} (hA : Agree w m) (h_t : CdR m t vs_t) (hb : sizeC t ≤ 1000000000) : FnV Tryd.prog 19 #[.agg vs_t.toArray] w m (fun _ _ v => v = .int .i64 (sizeC t : Int)) := by
  obtain ⟨⟨oK_t, cK_t, oA_t, cA_t⟩, rfl, ⟨hik_t, hin_t⟩, hkk_t, haa_t⟩ := h_t.open_
  dsimp only at hkk_t haa_t
  have hbg_t := hkk_t.big; have hcp_t := hkk_t.cap; have hbh_t := haa_t.big; have hcq_t := haa_t.cap
  refine fn_enterM (vs := [_]) Tryd.func19 rfl rfl fun a0 hfr0 => ?_
  have hst0 := st_enter hA (loc_nil [] _ w m)
  have hM : MLe m m := MLe.refl m
  have hse := sizeC_parts t
  refine seq_any fun _ hK1 => ?_
  refine rp0 hst0 hfr0 (.cons rfl (ob_box rfl rfl) <| .cons rfl (ob_assign rfl) <| .nil) ?_
  intro a1 w1 m1 hst1 hle1 hk1
  have hfr1 := hk1.fr (T' := [(0, _), (2, _)]) (.old rfl rfl <| .new rfl <| .nil)
  obtain ⟨g2, e2, hc1⟩ := hk1.ex 1 rfl
  replace hfr1 := hfr1.cons e2
  replace h_t := h_t.mono hle1
  clear hst0 hfr0 hk1
  refine hK1 _ _ ?_; clear hK1
  refine seq_any fun _ hK3 => ?_
  replace hst1 := hst1.more (r := .free) trivial List.nodup_nil (by simp [Res.blocks])
  refine ra0 (tch := [(0, 0, (fun v => .blk v _)), (1, 0, (fun v => .blk v _))]) hst1 hfr1 (.consT rfl rfl (fun _ => rfl) rfl (ob_allocL Tryd.zeroValue3 rfl) <| .consT rfl rfl (fun _ => rfl) rfl (ob_imgT 3 rfl rfl rfl fun y3 => ob_storeF rfl rfl rfl rfl rfl Tryd.sizeOf3 rfl rfl rfl) <| .nil) ?_
  intro a2 w2 m2 hst2 hle2 hk2
  have hfr2 := hk2.fr (T' := [(0, _), (2, _), (1, _)]) (.old rfl rfl <| .old rfl rfl <| .old rfl rfl <| .nil)
  obtain ⟨g3, e4, _⟩ := hk2.ex 3 rfl
  replace hfr2 := hfr2.cons e4
  replace hst2 := hst2.fin (L' := [_]) (.cons e4 <| .cons e4 <| .nil)
  try simp only [List.take_succ_cons, List.take_zero, List.drop_succ_cons, List.drop_zero, List.cons_append, List.nil_append, List.append_nil, List.length_cons, List.length_nil, Nat.zero_add, Nat.reduceAdd] at hst2
  replace h_t := h_t.mono hle2
  replace hc1 := hc1.mono hle2
  clear hst1 hfr1 hk2
  refine hK3 _ _ ?_; clear hK3
  refine seq_any fun _ hK5 => ?_
  refine seq_any fun _ hK6 => ?_
  refine rp0 hst2 hfr2 (.cons rfl (ob_loadS' rfl hc1 Tryd.isAgg25 Tryd.sizeOf25 rfl rfl) <| .cons rfl (ob_call (φ := MP.partsW t) rfl (.cons rfl <| .nil) Tryd.call31 (fun w m hK => by have hle_ := KC.le hK; have hA := KC.agree hK; have h_t := h_t.mono hle_; exact FnG.mono (parts_c (t := t) hA h_t) fun _ _ _ _ h => h)) <| .nil) ?_
  intro a3 w3 m3 hst3 hle3 hk3
  have hfr3 := hk3.fr (T' := [(0, _), (2, _), (1, _), (3, _)]) (.old rfl rfl <| .old rfl rfl <| .old rfl rfl <| .old rfl rfl <| .nil)
  obtain ⟨⟨gq9, vq9⟩, e7, hq9, htq9⟩ := hk3.ex 6 rfl
  replace hfr3 := hfr3.cons e7
  clear hst2 hfr2 hk3
  refine hK6 _ _ ?_; clear hK6
  refine wp_block ?_
  refine rangeFunc_any (T := [(0, _), (2, _), (1, _), (3, _), (6, _)]) (fun (y : (Int)) => ([.blk (.pointer (some ⟨g3, 0, none⟩)) (.cells [.int .i64 y].toArray 3)] : List Res)) ((partsC t).length) (CPartY t) (fun i (y : (Int)) m => (fun (n9 : Int) => (n9 = 1 + ((((partsC t).take i).map sizeC).sum : Nat))) y) (fun (y : (Int)) m => (fun (n9 : Int) => (False)) y) (1) hst3 (hfr3.sub (.cons rfl <| .cons rfl <| .cons rfl <| .cons rfl <| .cons rfl <| .nil)) rfl Tryd.call43 ⟨by decide, by decide⟩ (fun _ _ _ _ _ h => h) (fun _ _ _ _ h => h) (by simp) (parts_iter hq9 htq9) (fun i hi y w4 m4 args l rc hle4 hY hrel _ => ?_) (fun y D l rc a4 w4 m4 hst4 hle4 hrel hfr4 => ?_) (fun y D l rc a4 w4 m4 hst4 hle4 hrel hfr4 => ?_)
  · obtain ⟨n9, rfl⟩ : ∃ z, z = y := ⟨_, rfl⟩
    have hn9 := hrel
    clear hst3 hfr3
    obtain ⟨u, vsu, rfl, hu, hat⟩ := hY
    have hpu : u ∈ partsC t := List.mem_of_getElem? hat
    have hcu := sizeC_part hpu
    have ihu : size_G u := by rcases partsC_sub hpu with h | ⟨a, ha, e⟩; exact ihk _ h; (have h9 : size_G a.body := iha _ ha; rw [e] at h9; exact @h9)
    obtain ⟨⟨oK_u, cK_u, oA_u, cA_u⟩, rfl, ⟨hik_u, hin_u⟩, hkk_u, haa_u⟩ := hu.open_
    dsimp only at hkk_u haa_u
    have hbg_u := hkk_u.big; have hcp_u := hkk_u.cap; have hbh_u := haa_u.big; have hcq_u := haa_u.cap
    have hsl9 := sum_take_le sizeC (partsC t) (i + 1)
    have hss9 := sum_take_succ sizeC hat
    refine ⟨rfl, fun G1 a4 hfr4 hst4 _ hKrf => ?_⟩
    replace hfr4 : Fr _ [(7, _), (0, _), (2, _), (1, _), (3, _), (6, _)] a4 := hfr4
    replace hst4 : St G1 w4 m4 [_, _] w4 m4 := hst4
    replace hst4 := hst4.more (r := .free) trivial List.nodup_nil (by simp [Res.blocks])
    refine ra0 (tch := [(0, 2, (fun v => .blk v _)), (1, 2, (fun v => .blk v _))]) hst4 hfr4 (.consT rfl rfl (fun _ => rfl) rfl (ob_allocL Tryd.zeroValue25 rfl) <| .consT rfl rfl (fun _ => rfl) rfl (ob_imgT 4 rfl rfl rfl fun y4 => ob_storeF rfl rfl rfl rfl rfl Tryd.sizeOf25 rfl rfl hu.one) <| .nil) ?_
    intro a5 w5 m5 hst5 hle5 hk5
    have hfr5 := hk5.fr (T' := [(7, _), (0, _), (2, _), (1, _), (3, _), (6, _)]) (.old rfl rfl <| .old rfl rfl <| .old rfl rfl <| .old rfl rfl <| .old rfl rfl <| .old rfl rfl <| .nil)
    obtain ⟨g8, e8, _⟩ := hk5.ex 4 rfl
    replace hfr5 := hfr5.cons e8
    replace hst5 := hst5.fin (L' := [_, _, _]) (.cons e8 <| .cons e8 <| .nil)
    try simp only [List.take_succ_cons, List.take_zero, List.drop_succ_cons, List.drop_zero, List.cons_append, List.nil_append, List.append_nil, List.length_cons, List.length_nil, Nat.zero_add, Nat.reduceAdd] at hst5
    replace hu := hu.mono hle5
    clear hst4 hfr4 hk5
    refine hKrf _ _ _ [_, _, _] 1 hst5 rfl fun w6 hst6 => ?_; clear hKrf
    simp only [List.set_cons_succ, List.set_cons_zero] at hst6
    have hfr6 := hfr5; obtain ⟨a6, rfl⟩ : ∃ a, a = a5 := ⟨_, rfl⟩; obtain ⟨m6, rfl⟩ : ∃ m, m = m5 := ⟨_, rfl⟩; clear hst5 hfr5
    refine wp_block ?_
    refine region_any (tch := [(4, 0, (fun _ => .blk _ _))]) (fun _ => mixed) hst6 hfr6 (by kernel_rfl) (by kernel_rfl) (by kernel_rfl) (.cons rfl (ob_loadL' (j := 0) rfl rfl Tryd.isAgg3 rfl) <| .cons rfl (ob_loadLA (j := 2) rfl rfl Tryd.isAgg25 Tryd.sizeOf25 rfl) <| .cons rfl (ob_callE rfl (.cons rfl <| .nil) Tryd.call19 (fun w m hK => by have hle_ := KC.le hK; have hA := KC.agree hK; have hu := hu.mono hle_; exact ihu hA hu (by omega))) <| .cons rfl (ob_add rfl rfl ⟨by omega, by omega⟩) <| .consT rfl rfl (fun _ => rfl) rfl (ob_store' rfl rfl rfl Tryd.sizeOf3 rfl rfl rfl) <| .nil) ?_
    intro a7 w7 m7 hst7 hle7 hk7
    have hfr7 := hk7.fr (T' := [(7, _), (0, _), (2, _), (1, _), (3, _), (6, _), (4, _)]) (.old rfl rfl <| .old rfl rfl <| .old rfl rfl <| .old rfl rfl <| .old rfl rfl <| .old rfl rfl <| .old rfl rfl <| .nil)
    replace hst7 := hst7.fin (L' := [_, _, _]) (.cons rfl <| .nil)
    try simp only [List.take_succ_cons, List.take_zero, List.drop_succ_cons, List.drop_zero, List.cons_append, List.nil_append, List.append_nil, List.length_cons, List.length_nil, Nat.zero_add, Nat.reduceAdd] at hst7
    clear hst6 hfr6 hk7
    repeat (with_reducible first | refine then_exit ?_ | refine block_exit ?_ | refine block_normal ?_)
    exact RoundQ.next ((n9 + (sizeC u : Int))) (n0 := 1) (k := 1) hst7 rfl rfl rfl (by show n9 + (sizeC u : Int) = _; omega)
  · obtain ⟨n9, rfl⟩ : ∃ z, z = y := ⟨_, rfl⟩
    have hn9 := hrel
    clear hst3 hfr3
    replace hst4 : St _ _ _ [_, recR l rc, dblk D] w4 m4 := hst4
    rw [List.take_of_length_le (Nat.le_refl _)] at hn9
    refine hK5 _ _ ?_; clear hK5
    refine seq_any fun _ hK9 => ?_
    refine rp0 hst4 hfr4 (.cons rfl (ob_loadL' (j := 0) rfl rfl Tryd.isAgg3 rfl) <| .cons rfl (ob_assign rfl) <| .nil) ?_
    intro a5 w5 m5 hst5 hle5 hk5
    have hfr5 := hk5.fr (T' := [(0, _), (1, _), (3, _), (6, _), (2, _)]) (.old rfl rfl <| .old rfl rfl <| .old rfl rfl <| .old rfl rfl <| .new rfl <| .nil)
    clear hst4 hfr4 hk5
    refine hK9 _ _ ?_; clear hK9
    refine wp_ret ?_
    repeat (with_reducible first | refine then_ret ?_ | refine block_ret ?_)
    exact fn_retM hst5 (k := 2) rfl hfr5 rfl (fun w hstE => .tmp rfl <| .nil) (fun w => by refine congrArg (Value.int _) ?_; omega)
  · exact hrel.elim
theorem size_c (t : Cd) : size_G t := Cd.rec_ (p := size_G) (fun t ihk iha => size_s ihk iha) t

end Go.Proofs.YtlihpgjabohebaaDoor
