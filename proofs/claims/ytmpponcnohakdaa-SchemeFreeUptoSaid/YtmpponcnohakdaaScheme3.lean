/-
  Package scheme: the matcher goes through types. Conditions: those of each theorem.
-/
import Derived.Test.YtmpponcnohakdaaScheme2
namespace Go.Proofs.Ytmpponcnohakdaa
set_option linter.all false
set_option maxRecDepth 4000
open Go.RowKit
abbrev MB (g : Nat) (s : Sch) (yy : YY × YY) (q : QQ) : Res := .blk (.pointer (some ⟨g, 0, none⟩)) (.cells (schV s yy ++ subV q).toArray 67)
def eqM (ts rs : List Int) (l k : List Ty) (u : Sub) : Sub × Bool := if l.length = k.length then matTs ts rs l k u else (u, false)
abbrev MPost (g : Nat) (s : Sch) (yy : YY × YY) (n : Nat) (r : Sub × Bool) (w' : World) (m' : Mem) (v : Value) : Prop := ∃ q', Loc [g] n [MB g s yy q'] w' m' ∧ SubR m' r.1 (subV q') ∧ v = .bool r.2
theorem matTs_w {B : Nat} {ts rs : List Int} : ∀ (l k : List Ty) (u : Sub), SubW B u → (∀ z ∈ k, wdT z ≤ B) → SubW B (matTs ts rs l k u).1
  | [], k, u, hu, _ => by rw [matTs]; exact hu
  | x :: l, [], u, hu, _ => by rw [matTs]; exact hu
  | x :: l, z :: k, u, hu, hk => by
    have h1 := matT_w (ts := ts) (rs := rs) x z u hu (hk z (.head _))
    rw [matTs]
    split
    · exact matTs_w l k _ h1 fun v hv => hk v (.tail _ hv)
    · exact h1
theorem eqM_w {B : Nat} {ts rs : List Int} {l k : List Ty} {u : Sub} (hu : SubW B u) (hk : ∀ z ∈ k, wdT z ≤ B) : SubW B (eqM ts rs l k u).1 := by
  unfold eqM; split
  · exact matTs_w l k u hu hk
  · exact hu
theorem matT_eqM {ts rs : List Int} {a b : Ty} {u : Sub} (hc : ¬ (a.kind = 7 ∧ a.var ∈ ts)) (hq : a.kind = b.kind ∧ a.name = b.name ∧ a.var = b.var) : matT ts rs a b u =
    if (eqM ts rs a.args b.args u).2 = true then (if a.kind = 5 then matR rs ⟨sortS a.labels, a.rv⟩ ⟨b.labels, b.rv⟩ (eqM ts rs a.args b.args u).1 else ((eqM ts rs a.args b.args u).1, true)) else ((eqM ts rs a.args b.args u).1, false) := by
  rw [matT_eq, if_neg hc]; unfold eqM
  by_cases hl : a.args.length = b.args.length
  · rw [if_pos ⟨hq.1, hq.2.1, hq.2.2, hl⟩, if_pos hl]
  · rw [if_neg (fun h => hl h.2.2.2), if_neg hl]; rfl
theorem matT_ne {ts rs : List Int} {a b : Ty} {u : Sub} (hc : ¬ (a.kind = 7 ∧ a.var ∈ ts)) (hq : ¬ (a.kind = b.kind ∧ a.name = b.name ∧ a.var = b.var)) : matT ts rs a b u = (u, false) := by
  rw [matT_eq, if_neg hc, if_neg (fun h => hq ⟨h.1, h.2.1, h.2.2.1⟩)]
/-- The matcher's block, of which no more is known than what it has found. -/
def MK (g : Nat) (s : Sch) (yy : YY × YY) (u : Sub) : Res := .pack [g] fun w m => ∃ q : QQ, [MB g s yy q].flatMap Res.blocks = [g] ∧ (∀ r ∈ [MB g s yy q], r.holds w m) ∧ SubR m u (subV q)
theorem mt_R {f : Nat} {args : Array Value} {g : Nat} {s : Sch} {yy : YY × YY} {q : QQ} {w : World} {m : Mem} {r : Sub × Bool} (h : FnG Try.prog f args [g] w m (MPost g s yy w.heap.size r)) :
    FnR Try.prog f args [MB g s yy q] w m fun rs' m' v => ∃ q', rs' = [MB g s yy q'] ∧ SubR m' r.1 (subV q') ∧ v = .bool r.2 :=
  FnG.mono h fun _ _ _ _ ⟨q', hL, hU, hv⟩ => ⟨_, hL, q', rfl, hU, hv⟩
theorem mt_T {f : Nat} {args : Array Value} {g : Nat} {s : Sch} {yy : YY × YY} {q : QQ} {w : World} {m : Mem} {r : Sub × Bool} (h : FnG Try.prog f args [g] w m (MPost g s yy w.heap.size r)) :
    Calls Try.prog f args w fun e w' => ∃ v m', e = .returned v ∧ Touch (MB g s yy q) (MK g s yy r.1) w m w' m' ∧ (Kn.eq (.bool r.2)).holds m' v :=
  Calls.mono h fun e w' ⟨v, m', e1, hE, q', hL, hU, hv⟩ => ⟨v, m', e1, ⟨hE, pack_of (Ly := fun q => [MB g s yy q]) (J := fun q m => SubR m r.1 (subV q)) (fun q m m' hm h => h.mono hm) rfl hL.all hU, by simp [MK, Res.blocks], fun b hb => hL.own b (by simp only [MK, Res.blocks, List.mem_singleton] at hb; subst hb; simp [Res.blocks, ptrBlock])⟩, hv⟩
theorem mt_open {G0 : List Nat} {W : World} {mE : Mem} {L : List Res} {k g : Nat} {s : Sch} {yy : YY × YY} {u : Sub} {w : World} {m : Mem} (h : St G0 W mE L w m) (hk : L[k]? = some (MK g s yy u)) : ∃ q, St G0 W mE (L.set k (MB g s yy q)) w m ∧ SubR m u (subV q) := by
  obtain ⟨q, _, hh, hU⟩ := pack_at (h.loc.at_ hk) h.agree
  exact ⟨q, h.weaken hk rfl fun _ => hh _ (.head _), hU⟩

set_option maxHeartbeats 1600000 in
theorem equalM_g {w : World} {m : Mem} {o_l : Option Addr} {c_l : Nat} {l : List Ty} {o_k : Option Addr} {c_k : Nat} {k : List Ty} {g : Nat} {s : Sch} {yy : YY × YY} {q : QQ} {u : Sub} (hA : Agree w m) (h_l : Tys m o_l l.length c_l l) (h_k : Tys m o_k k.length c_k k) (hr : (MB g s yy q).holds w m) (hS : SchR m s (schV s yy)) (hU : SubR m u (subV q)) (hw : SubW 400000000 u) (hb : ∀ z ∈ k, wdT z ≤ 400000000) (hφ : ∀ (x z : Ty) (vs zs : List Value) (w : World) (m : Mem) (q : QQ) (u : Sub), x ∈ l → Agree w m → (MB g s yy q).holds w m → SchR m s (schV s yy) → SubR m u (subV q) → TyR m x vs → TyR m z zs → SubW 400000000 u → wdT z ≤ 400000000 → FnG Try.prog 32 #[.pointer (some ⟨g, 0, none⟩), .agg vs.toArray, .agg zs.toArray] [g] w m (MPost g s yy w.heap.size (matT s.ts s.rs x z u))) : FnG Try.prog 46 #[.slice o_l l.length c_l, .slice o_k k.length c_k, .func (.func 32) #[.pointer (some ⟨g, 0, none⟩)] #[]] [g] w m (MPost g s yy w.heap.size (eqM s.ts s.rs l k u)) := by
  have hb_l := h_l.big; have hc_l := h_l.cap
  have hb_k := h_k.big; have hc_k := h_k.cap
  refine fn_enter (vs := [_, _, _]) Try.func46 rfl rfl rfl fun a0 hfr0 => ?_
  have hst0 := st_enter hA (loc_one hr (by simp [Res.blocks, ptrBlock]))
  have hM : MLe m m := MLe.refl m
  refine seq_any fun _ hK1 => ?_
  refine rp0 hst0 hfr0 (.cons rfl (ob_assign rfl) <| .nil) ?_
  intro a1 w1 m1 hst1 hle1 hk1
  have hfr1 := hk1.fr (T' := [(0, _), (1, _), (2, _)]) (.old rfl rfl <| .old rfl rfl <| .old rfl rfl <| .nil)
  replace h_l := h_l.mono hle1
  replace h_k := h_k.mono hle1
  replace hS := hS.mono hle1
  replace hU := hU.mono hle1
  clear hst0 hfr0 hk1
  refine hK1 _ _ ?_; clear hK1
  refine seq_any fun _ hK2 => ?_
  refine seq_any fun _ hK3 => ?_
  refine rp0 hst1 hfr1 (.cons rfl (ob_move rfl) <| .cons rfl (ob_len rfl Try.underlying22) <| .cons rfl (ob_move rfl) <| .cons rfl (ob_len rfl Try.underlying22) <| .cons rfl (ob_neq rfl rfl) <| .nil) ?_
  intro a2 w2 m2 hst2 hle2 hk2
  have hfr2 := hk2.fr (T' := [(0, _), (1, _), (2, _), (14, _)]) (.old rfl rfl <| .old rfl rfl <| .old rfl rfl <| .new rfl <| .nil)
  replace h_l := h_l.mono hle2
  replace h_k := h_k.mono hle2
  replace hS := hS.mono hle2
  replace hU := hU.mono hle2
  clear hst1 hfr1 hk2
  refine hK3 _ _ ?_; clear hK3
  refine cond_any hfr2 rfl rfl (fun hb14 => ?_) (fun hb14 => ?_)
  · try simp only [nq1, nq2, nq3, nq4, nq5, nq6, nq7, nq8, nq9, u8_eq] at hb14
    have hr9 : eqM s.ts s.rs l k u = (u, false) := if_neg (by omega)
    refine seq_any fun _ hK4 => ?_
    refine rp0 hst2 hfr2 (.cons rfl (ob_assign rfl) <| .nil) ?_
    intro a3 w3 m3 hst3 hle3 hk3
    have hfr3 := hk3.fr (T' := [(6, _)]) (.new rfl <| .nil)
    replace hU := hU.mono hle3
    clear hst2 hfr2 hk3
    refine hK4 _ _ ?_; clear hK4
    refine wp_ret ?_
    repeat (with_reducible first | refine then_ret ?_ | refine block_ret ?_)
    exact fn_ret hst3 hfr3 rfl (.tmp rfl <| .nil) (⟨q, (hst3.take 1).loc, by rw [hr9]; exact hU, by rw [hr9]; rfl⟩)
  · try simp only [nq1, nq2, nq3, nq4, nq5, nq6, nq7, nq8, nq9, u8_eq] at hb14
    have hln : l.length = k.length := by omega
    refine wp_skip ?_
    refine hK2 _ _ ?_; clear hK2
    refine seq_any fun _ hK6 => ?_
    refine seq_any fun _ hK7 => ?_
    refine rp0 hst2 hfr2 (.cons rfl (ob_move rfl) <| .cons rfl (ob_len rfl Try.underlying22) <| .cons rfl (ob_move rfl) <| .nil) ?_
    intro a3 w3 m3 hst3 hle3 hk3
    have hfr3 := hk3.fr (T' := [(1, _), (2, _), (15, _), (16, _), (17, _)]) (.old rfl rfl <| .old rfl rfl <| .new rfl <| .new rfl <| .new rfl <| .nil)
    replace h_l := h_l.mono hle3
    replace h_k := h_k.mono hle3
    replace hS := hS.mono hle3
    replace hU := hU.mono hle3
    clear hst2 hfr2 hk3
    refine hK7 _ _ ?_; clear hK7
    refine wp_block ?_
    refine loop_any (T := [(1, _), (2, _), (15, _), (16, _)]) (fun (y : Nat × Sub × QQ) => ([(17, .int .i64 (y.1 : Int))] : List (Nat × Value))) (fun y => [MB g s yy y.2.2]) (fun (y : Nat × Sub × QQ) m => (fun (y : Nat) (u2 : Sub) (q2 : QQ) => (y ≤ l.length) ∧ (SubR m u2 (subV q2)) ∧ (matTs s.ts s.rs l k u = matTs s.ts s.rs (l.drop y) (k.drop y) u2) ∧ (SubW 400000000 u2)) y.1 y.2.1 y.2.2) (fun y => l.length - y.1) ((0, u, q)) ⟨hst3, MLe.refl _, hfr3.sub (.cons rfl <| .cons rfl <| .cons rfl <| .cons rfl <| .cons rfl <| .nil), ⟨Nat.zero_le _, hU, rfl, hw⟩⟩ fun y a4 w4 m4 hh4 => ?_
    have hst4 := hh4.st; have hle4 := hh4.le; have hfr4 := hh4.fr; have hrel := hh4.rel; clear hh4
    replace h_l := h_l.mono hle4
    replace h_k := h_k.mono hle4
    replace hS := hS.mono hle4
    clear hst3 hfr3
    obtain ⟨y, u2, q2⟩ := y
    dsimp only at hrel hfr4 hst4
    obtain ⟨hyn, hJu, hJm, hJw⟩ := hrel
    have hlh4 := hle4
    refine seq_any fun _ hK9 => ?_
    refine rp0 hst4 hfr4 (.cons rfl (ob_lss rfl rfl) <| .nil) ?_
    intro a5 w5 m5 hst5 hle5 hk5
    have hfr5 := hk5.fr (T' := [(17, _), (1, _), (2, _), (15, _), (16, _), (18, _)]) (.old rfl rfl <| .old rfl rfl <| .old rfl rfl <| .old rfl rfl <| .old rfl rfl <| .new rfl <| .nil)
    replace h_l := h_l.mono hle5
    replace h_k := h_k.mono hle5
    replace hS := hS.mono hle5
    replace hJu := hJu.mono hle5
    have hlh5 := hlh4.trans hle5
    clear hst4 hfr4 hk5
    refine hK9 _ _ ?_; clear hK9
    refine seq_any fun _ hK10 => ?_
    refine cond_any hfr5 rfl rfl (fun hb18 => ?_) (fun hb18 => ?_)
    · try simp only [nq1, nq2, nq3, nq4, nq5, nq6, nq7, nq8, nq9, u8_eq] at hb18
      refine wp_skip ?_
      refine hK10 _ _ ?_; clear hK10
      refine seq_any fun _ hK11 => ?_
      refine wp_block ?_
      refine seq_any fun _ hK12 => ?_
      obtain ⟨p13, vs13, x13, ho13, hd13, hm_x13, ht13, hcv13, hl13, hv13⟩ := h_l.nth (k := y) (by omega)
      cases ho13
      obtain ⟨o13, c13, oL13, cL13, rfl, hkd13, hs13, hi13, hj13, hr13⟩ := hv13.open_
      have hbg13 := hkd13.big; have hcp13 := hkd13.cap; have hbs13 := hs13.big; have hcs13 := hs13.cap
      have hrw13 : RwR _ ⟨x13.labels, x13.rv⟩ _ := ⟨_, _, rfl, hs13, hr13⟩
      replace hst5 := hst5.more (r := .free) trivial List.nodup_nil (by simp [Res.blocks])
      refine ra0 (tch := [(3, 1, (fun v => .blk v _)), (5, 1, (fun v => .blk v _))]) hst5 hfr5 (.cons rfl (ob_move rfl) <| .cons rfl (ob_indexAddr (k := y) rfl rfl Try.underlying22 Try.sizeOf27 rfl (by omega)) <| .cons rfl (ob_loadS' rfl hcv13 Try.isAgg27 Try.sizeOf27 rfl rfl) <| .consT rfl rfl (fun _ => rfl) rfl (ob_allocL Try.zeroValue27 rfl) <| .cons rfl (ob_assign rfl) <| .consT rfl rfl (fun _ => rfl) rfl (ob_imgT 8 rfl rfl rfl fun y8 => ob_storeF rfl rfl rfl rfl rfl Try.sizeOf27 rfl rfl rfl) <| .nil) ?_
      intro a6 w6 m6 hst6 hle6 hk6
      have hfr6 := hk6.fr (T' := [(17, _), (1, _), (2, _), (15, _), (16, _), (7, _)]) (.old rfl rfl <| .old rfl rfl <| .old rfl rfl <| .old rfl rfl <| .old rfl rfl <| .new rfl <| .nil)
      obtain ⟨g14, e14, _⟩ := hk6.ex 8 rfl
      replace hfr6 := hfr6.cons e14
      replace hst6 := hst6.fin (L' := [_, _]) (.cons e14 <| .cons e14 <| .nil)
      try simp only [List.take_succ_cons, List.take_zero, List.drop_succ_cons, List.drop_zero, List.cons_append, List.nil_append, List.append_nil, List.length_cons, List.length_nil, Nat.zero_add, Nat.reduceAdd] at hst6
      replace h_k := h_k.mono hle6
      replace hS := hS.mono hle6
      replace hJu := hJu.mono hle6
      replace hv13 := hv13.mono hle6
      have hlh6 := hlh5.trans hle6
      clear hst5 hfr5 hk6
      refine hK12 _ _ ?_; clear hK12
      refine seq_any fun _ hK15 => ?_
      obtain ⟨p16, vs16, x16, ho16, hd16, hm_x16, ht16, hcv16, hl16, hv16⟩ := h_k.nth (k := y) (by omega)
      cases ho16
      obtain ⟨o16, c16, oL16, cL16, rfl, hkd16, hs16, hi16, hj16, hr16⟩ := hv16.open_
      have hbg16 := hkd16.big; have hcp16 := hkd16.cap; have hbs16 := hs16.big; have hcs16 := hs16.cap
      have hrw16 : RwR _ ⟨x16.labels, x16.rv⟩ _ := ⟨_, _, rfl, hs16, hr16⟩
      replace hst6 := hst6.more (r := .free) trivial List.nodup_nil (by simp [Res.blocks])
      refine ra0 (tch := [(4, 2, (fun v => .blk v _)), (5, 2, (fun v => .blk v _))]) hst6 hfr6 (.cons rfl (ob_move rfl) <| .cons rfl (ob_move rfl) <| .cons rfl (ob_indexAddr (k := y) rfl rfl Try.underlying22 Try.sizeOf27 rfl (by omega)) <| .cons rfl (ob_loadS' rfl hcv16 Try.isAgg27 Try.sizeOf27 rfl rfl) <| .consT rfl rfl (fun _ => rfl) rfl (ob_allocL Try.zeroValue27 rfl) <| .consT rfl rfl (fun _ => rfl) rfl (ob_imgT 9 rfl rfl rfl fun y9 => ob_storeF rfl rfl rfl rfl rfl Try.sizeOf27 rfl rfl rfl) <| .nil) ?_
      intro a7 w7 m7 hst7 hle7 hk7
      have hfr7 := hk7.fr (T' := [(17, _), (1, _), (2, _), (15, _), (16, _), (8, _)]) (.old rfl rfl <| .old rfl rfl <| .old rfl rfl <| .old rfl rfl <| .old rfl rfl <| .old rfl rfl <| .nil)
      obtain ⟨g17, e17, _⟩ := hk7.ex 9 rfl
      replace hfr7 := hfr7.cons e17
      replace hst7 := hst7.fin (L' := [_, _, _]) (.cons e17 <| .cons e17 <| .nil)
      try simp only [List.take_succ_cons, List.take_zero, List.drop_succ_cons, List.drop_zero, List.cons_append, List.nil_append, List.append_nil, List.length_cons, List.length_nil, Nat.zero_add, Nat.reduceAdd] at hst7
      replace hS := hS.mono hle7
      replace hJu := hJu.mono hle7
      replace hv13 := hv13.mono hle7
      replace hv16 := hv16.mono hle7
      have hlh7 := hlh6.trans hle7
      clear hst6 hfr6 hk7
      have hbz := hb x16 hm_x16
      have hw3 := matT_w (ts := s.ts) (rs := s.rs) x13 x16 u2 hJw hbz
      refine hK15 _ _ ?_; clear hK15
      refine seq_any fun _ hK18 => ?_
      refine region_cut 4 (by kernel_rfl) ?_
      refine ops_cut 3 (by kernel_rfl) ?_
      refine ops_seq (tch := []) hst7 hfr7 (by kernel_rfl) (by kernel_rfl) (by kernel_rfl) (.cons rfl (ob_move rfl) <| .cons rfl (ob_loadLA (j := 1) rfl rfl Try.isAgg27 Try.sizeOf27 rfl) <| .cons rfl (ob_loadLA (j := 2) rfl rfl Try.isAgg27 Try.sizeOf27 rfl) <| .nil) ?_
      intro a8 w8 m8 hst8 hle8 hk8
      have hfr8 := hk8.fr (T' := [(17, _), (1, _), (2, _), (15, _), (16, _), (8, _), (9, _), (26, _), (27, _), (28, _)]) (.old rfl rfl <| .old rfl rfl <| .old rfl rfl <| .old rfl rfl <| .old rfl rfl <| .old rfl rfl <| .old rfl rfl <| .new rfl <| .new rfl <| .new rfl <| .nil)
      replace hS := hS.mono hle8
      replace hJu := hJu.mono hle8
      replace hv13 := hv13.mono hle8
      replace hv16 := hv16.mono hle8
      have hlh8 := hlh7.trans hle8
      clear hst7 hfr7 hk8
      refine call_resF [] [_, _] [_] hst8 hfr8 rfl (.cons rfl <| .cons rfl <| .nil) Try.call32 (mt_R (hφ x13 x16 _ _ _ _ q2 u2 hm_x13 hst8.agree (hst8.loc.at_ (k := 0) rfl) hS hJu hv13 hv16 hJw hbz)) ?_
      intro vr9 w9 m9 rs9 hst9 hle9 hp9
      obtain ⟨q3, rfl, hU3, hvq9⟩ := hp9
      simp only [List.nil_append, List.cons_append] at hst9
      have hfr9 := (hfr8.sub (T' := [(17, _), (1, _), (2, _), (15, _), (16, _), (8, _), (9, _), (26, _), (27, _), (28, _)]) (.cons rfl <| .cons rfl <| .cons rfl <| .cons rfl <| .cons rfl <| .cons rfl <| .cons rfl <| .cons rfl <| .cons rfl <| .cons rfl <| .nil)).put (d := 29) (v := vr9) (by kernel_rfl) rfl
      have hlh9 := hlh8.trans hle9
      clear hst8 hfr8
      subst hvq9
      refine ops_seq (tch := []) hst9 hfr9 (by kernel_rfl) (by kernel_rfl) (by kernel_rfl) (.cons rfl (ob_not rfl) <| .nil) ?_
      intro a10 w10 m10 hst10 hle10 hk10
      have hfr10 := hk10.fr (T' := [(29, _), (17, _), (1, _), (2, _), (15, _), (16, _), (8, _), (9, _), (26, _), (27, _), (28, _), (30, _)]) (.old rfl rfl <| .old rfl rfl <| .old rfl rfl <| .old rfl rfl <| .old rfl rfl <| .old rfl rfl <| .old rfl rfl <| .old rfl rfl <| .old rfl rfl <| .old rfl rfl <| .old rfl rfl <| .new rfl <| .nil)
      replace hU3 := hU3.mono hle10
      have hlh10 := hlh9.trans hle10
      clear hst9 hfr9 hk10
      refine hK18 _ _ ?_; clear hK18
      refine cond_any hfr10 rfl rfl (fun hb30 => ?_) (fun hb30 => ?_)
      · try simp only [nq1, nq2, nq3, nq4, nq5, nq6, nq7, nq8, nq9, u8_eq] at hb30
        have hr9 : eqM s.ts s.rs l k u = ((matT s.ts s.rs x13 x16 u2).1, false) := (if_pos hln).trans (by rw [hJm, hd13, hd16, matTs, if_neg (by simp [hb30])])
        refine seq_any fun _ hK19 => ?_
        refine rp0 hst10 hfr10 (.cons rfl (ob_assign rfl) <| .nil) ?_
        intro a11 w11 m11 hst11 hle11 hk11
        have hfr11 := hk11.fr (T' := [(17, _), (6, _)]) (.old rfl rfl <| .new rfl <| .nil)
        replace hU3 := hU3.mono hle11
        have hlh11 := hlh10.trans hle11
        clear hst10 hfr10 hk11
        refine hK19 _ _ ?_; clear hK19
        refine wp_ret ?_
        repeat (with_reducible first | refine then_ret ?_ | refine block_ret ?_)
        exact fn_ret hst11 hfr11 rfl (.tmp rfl <| .nil) (⟨q3, (hst11.take 1).loc, by rw [hr9]; exact hU3, by rw [hr9]; rfl⟩)
      · try simp only [nq1, nq2, nq3, nq4, nq5, nq6, nq7, nq8, nq9, u8_eq] at hb30
        refine wp_skip ?_
        refine hK11 _ _ ?_; clear hK11
        refine rp0 hst10 hfr10 (.cons rfl (ob_add rfl rfl ⟨by omega, by omega⟩) <| .cons rfl (ob_move rfl) <| .nil) ?_
        intro a11 w11 m11 hst11 hle11 hk11
        have hfr11 := hk11.fr (T' := [(1, _), (2, _), (15, _), (16, _), (17, _)]) (.old rfl rfl <| .old rfl rfl <| .old rfl rfl <| .old rfl rfl <| .new rfl <| .nil)
        replace hU3 := hU3.mono hle11
        have hlh11 := hlh10.trans hle11
        clear hst10 hfr10 hk11
        have hst11 := hst11.take 1
        exact ⟨(y + 1, (matT s.ts s.rs x13 x16 u2).1, q3), m11, by show l.length - (y + 1) < l.length - y; omega, ⟨hst11, hlh11, hfr11.sub (.cons rfl <| .cons rfl <| .cons rfl <| .cons rfl <| .cons rfl <| .nil), ⟨by show y + 1 ≤ l.length; omega, hU3, by rw [hJm, hd13, hd16, matTs, if_pos hb30], hw3⟩⟩⟩
    · try simp only [nq1, nq2, nq3, nq4, nq5, nq6, nq7, nq8, nq9, u8_eq] at hb18
      have hge : y = l.length := by omega
      rw [List.drop_of_length_le (by omega), matTs] at hJm
      have hr9 : eqM s.ts s.rs l k u = (u2, true) := (if_pos hln).trans hJm
      refine wp_exit ?_
      refine hK6 _ _ ?_; clear hK6
      refine seq_any fun _ hK21 => ?_
      refine rp0 hst5 hfr5 (.cons rfl (ob_assign rfl) <| .nil) ?_
      intro a6 w6 m6 hst6 hle6 hk6
      have hfr6 := hk6.fr (T' := [(17, _), (6, _)]) (.old rfl rfl <| .new rfl <| .nil)
      replace hJu := hJu.mono hle6
      have hlh6 := hlh5.trans hle6
      clear hst5 hfr5 hk6
      refine hK21 _ _ ?_; clear hK21
      refine wp_ret ?_
      repeat (with_reducible first | refine then_ret ?_ | refine block_ret ?_)
      exact fn_ret hst6 hfr6 rfl (.tmp rfl <| .nil) (⟨q2, (hst6.take 1).loc, by rw [hr9]; exact hJu, by rw [hr9]; rfl⟩)

theorem mrows_p {w : World} {m : Mem} {g : Nat} {s : Sch} {yy : YY × YY} {q : QQ} {u : Sub} {a b : Rw} {va vb : List Value} (hA : Agree w m) (hr : (MB g s yy q).holds w m) (hS : SchR m s (schV s yy)) (hU : SubR m u (subV q)) (ha : RwR m a va) (hbR : RwR m b vb) (hw : SubW 400000000 u) (hb : b.labels.length ≤ 400000000) : FnG Try.prog 47 #[.pointer (some ⟨g, 0, none⟩), .agg va.toArray, .agg vb.toArray] [g] w m (MPost g s yy w.heap.size (matR s.rs a b u)) := mrows_g hA hr hS hU ha hbR hw hb

abbrev mtypes_G (a : Ty) : Prop := ∀ {w : World} {m : Mem} {g : Nat} {s : Sch} {yy : YY × YY} {q : QQ} {u : Sub} {vs_a : List Value} {b : Ty} {vs_b : List Value} (hA : Agree w m) (hr : (MB g s yy q).holds w m) (hS : SchR m s (schV s yy)) (hU : SubR m u (subV q)) (h_a : TyR m a vs_a) (h_b : TyR m b vs_b) (hw : SubW 400000000 u) (hb : wdT b ≤ 400000000) (hwa : wdT a ≤ 400000000), FnG Try.prog 32 #[.pointer (some ⟨g, 0, none⟩), .agg vs_a.toArray, .agg vs_b.toArray] [g] w m (MPost g s yy w.heap.size (matT s.ts s.rs a b u))
set_option maxHeartbeats 3200000 in
theorem mtypes_s {a : Ty} (ih : ∀ x ∈ a.args, mtypes_G x) {w : World} {m : Mem} {g : Nat} {s : Sch} {yy : YY × YY} {q : QQ} {u : Sub} {vs_a : List Value} {b : Ty} {vs_b : List Value} (hA : Agree w m) (hr : (MB g s yy q).holds w m) (hS : SchR m s (schV s yy)) (hU : SubR m u (subV q)) (h_a : TyR m a vs_a) (h_b : TyR m b vs_b) (hw : SubW 400000000 u) (hb : wdT b ≤ 400000000) (hwa : wdT a ≤ 400000000) : FnG Try.prog 32 #[.pointer (some ⟨g, 0, none⟩), .agg vs_a.toArray, .agg vs_b.toArray] [g] w m (MPost g s yy w.heap.size (matT s.ts s.rs a b u)) := by
  obtain ⟨o_a, c_a, oL_a, cL_a, rfl, hk_a, hs_a, hi_a, hj_a, hr_a⟩ := h_a.open_
  have hbg_a := hk_a.big; have hcp_a := hk_a.cap; have hbs_a := hs_a.big; have hcs_a := hs_a.cap
  have hrw_a : RwR _ ⟨a.labels, a.rv⟩ _ := ⟨_, _, rfl, hs_a, hr_a⟩
  obtain ⟨o_b, c_b, oL_b, cL_b, rfl, hk_b, hs_b, hi_b, hj_b, hr_b⟩ := h_b.open_
  have hbg_b := hk_b.big; have hcp_b := hk_b.cap; have hbs_b := hs_b.big; have hcs_b := hs_b.cap
  have hrw_b : RwR _ ⟨b.labels, b.rv⟩ _ := ⟨_, _, rfl, hs_b, hr_b⟩
  refine fn_enter (vs := [_, _, _]) Try.func32 rfl rfl rfl fun a0 hfr0 => ?_
  have hst0 := st_enter hA (loc_one hr (by simp [Res.blocks, ptrBlock]))
  have hM : MLe m m := MLe.refl m
  obtain ⟨hsts, hsrs, -⟩ := schV_open hS
  have hxw := hw.look a.var
  have hme := matT_eq s.ts s.rs a b u
  have hwe := wdT_eq b
  have hwf := wdT_eq a
  refine seq_any fun _ hK1 => ?_
  refine rp0 hst0 hfr0 (.cons rfl (ob_box rfl rfl) <| .cons rfl (ob_box rfl rfl) <| .cons rfl (ob_assign rfl) <| .nil) ?_
  intro a1 w1 m1 hst1 hle1 hk1
  have hfr1 := hk1.fr (T' := [(0, _)]) (.old rfl rfl <| .nil)
  obtain ⟨g2, e2, hc4⟩ := hk1.ex 4 rfl
  replace hfr1 := hfr1.cons e2
  obtain ⟨g3, e3, hc5⟩ := hk1.ex 5 rfl
  replace hfr1 := hfr1.cons e3
  replace h_a := h_a.mono hle1
  replace hk_a := hk_a.mono hle1
  replace hs_a := hs_a.mono hle1
  replace hrw_a := hrw_a.mono hle1
  replace h_b := h_b.mono hle1
  replace hk_b := hk_b.mono hle1
  replace hs_b := hs_b.mono hle1
  replace hrw_b := hrw_b.mono hle1
  replace hsts := hsts.mono hle1
  replace hsrs := hsrs.mono hle1
  replace hS := hS.mono hle1
  replace hU := hU.mono hle1
  replace hM := hM.trans hle1
  clear hst0 hfr0 hk1
  refine hK1 _ _ ?_; clear hK1
  refine seq_any fun _ hK4 => ?_
  refine seq_any fun _ hK5 => ?_
  refine region_plain (fun _ => mixed) hst1 hfr1 (by kernel_rfl) (by kernel_rfl) (.cons rfl (ob_fieldAddrO (off := 0) rfl Try.underlying27 rfl rfl Try.sizeOf3 rfl) <| .cons rfl (ob_load1 rfl hc4 Try.isAgg3 rfl) <| .cons rfl (ob_eql rfl rfl) <| .cons rfl (ob_move rfl) <| .cons rfl (ob_move rfl) <| .cons rfl (ob_nilCheck rfl) <| .cons rfl (ob_fieldAddrO (off := 0) rfl Try.underlying67 rfl rfl Try.sizeOf35 rfl) <| .cons rfl (ob_fieldAddrO (off := 0) rfl Try.underlying35 rfl rfl Try.sizeOf33 rfl) <| .cons rfl (ob_loadL (k := 0) (j := 0) rfl rfl Try.isAgg33 rfl) <| .cons rfl (ob_fieldAddrO (off := 2) rfl Try.underlying27 rfl rfl Try.sizeOf3 rfl) <| .cons rfl (ob_load1 rfl hc4 Try.isAgg3 rfl) <| .cons rfl (ob_callE rfl (.cons rfl <| .cons rfl <| .nil) Try.call40 (fun w m hK => by have hle_ := KC.le hK; have hA := KC.agree hK; have h_a := h_a.mono hle_; have hk_a := hk_a.mono hle_; have hs_a := hs_a.mono hle_; have hrw_a := hrw_a.mono hle_; have h_b := h_b.mono hle_; have hk_b := hk_b.mono hle_; have hs_b := hs_b.mono hle_; have hrw_b := hrw_b.mono hle_; have hsts := hsts.mono hle_; have hsrs := hsrs.mono hle_; have hS := hS.mono hle_; have hU := hU.mono hle_; have hc4 := hc4.mono hle_; have hc5 := hc5.mono hle_; exact containsI_c hA (by first | assumption | omega | simp_all))) <| .cons rfl (ob_and rfl rfl rfl) <| .nil) ?_
  intro a2 w2 m2 hst2 hle2 hk2
  have hfr2 := hk2.fr (T' := [(0, _), (4, _), (5, _), (21, _)]) (.old rfl rfl <| .old rfl rfl <| .old rfl rfl <| .new rfl <| .nil)
  replace h_a := h_a.mono hle2
  replace hk_a := hk_a.mono hle2
  replace hs_a := hs_a.mono hle2
  replace hrw_a := hrw_a.mono hle2
  replace h_b := h_b.mono hle2
  replace hk_b := hk_b.mono hle2
  replace hs_b := hs_b.mono hle2
  replace hrw_b := hrw_b.mono hle2
  replace hsts := hsts.mono hle2
  replace hsrs := hsrs.mono hle2
  replace hS := hS.mono hle2
  replace hU := hU.mono hle2
  replace hc4 := hc4.mono hle2
  replace hc5 := hc5.mono hle2
  replace hM := hM.trans hle2
  clear hst1 hfr1 hk2
  refine hK5 _ _ ?_; clear hK5
  refine cond_any hfr2 rfl rfl (fun hb21 => ?_) (fun hb21 => ?_)
  · try simp only [nq1, nq2, nq3, nq4, nq5, nq6, nq7, nq8, nq9, u8_eq] at hb21
    have hc1 : a.kind = 7 ∧ a.var ∈ s.ts := by simpa using hb21
    rw [if_pos hc1] at hme
    refine seq_any fun _ hK6 => ?_
    replace hst2 := hst2.more (r := .free) trivial List.nodup_nil (by simp [Res.blocks])
    refine region_any (tch := [(10, 1, (fun v => .blk v _)), (11, 1, (fun v => .blkx v _ _))]) (fun _ => mixed) hst2 hfr2 (by kernel_rfl) (by kernel_rfl) (by kernel_rfl) (.cons rfl (ob_move rfl) <| .cons rfl (ob_nilCheck rfl) <| .cons rfl (ob_fieldAddrO (off := 8) rfl Try.underlying67 rfl rfl Try.sizeOf43 rfl) <| .cons rfl (ob_loadLS (j := 0) rfl rfl Try.isAgg43 Try.sizeOf43 rfl rfl) <| .cons rfl (ob_fieldAddrO (off := 2) rfl Try.underlying27 rfl rfl Try.sizeOf3 rfl) <| .cons rfl (ob_load1 rfl hc4 Try.isAgg3 rfl) <| .cons rfl (ob_call (φ := MP.tyb ((alook a.var u.ts).getD zeroTy) (alook a.var u.ts).isSome) rfl (.cons rfl <| .cons rfl <| .nil) Try.call44 (fun w m hK => by have hle_ := KC.le hK; have hA := KC.agree hK; have hU := hU.mono hle_; exact FnG.mono (type_c (s := u) (n := a.var) hA hU (fun t ht9 => Nat.le_trans (hw.1 _ _ ht9) (by omega))) fun _ _ _ _ h => h)) <| .cons rfl (ob_imgV 29 rfl rfl rfl fun y29 => ob_move rfl) <| .cons rfl (ob_imgV 22 rfl rfl rfl fun y22 => ob_extract rfl rfl) <| .cons rfl (ob_imgV 22 rfl rfl rfl fun y22 => ob_extract rfl rfl) <| .consT rfl rfl (fun _ => rfl) rfl (ob_allocL Try.zeroValue27 rfl) <| .consT rfl rfl (fun _ => rfl) rfl (ob_imgT 7 rfl rfl rfl fun y7 => ob_imgTX 30 rfl rfl rfl fun y30 => ob_storeF rfl rfl rfl rfl rfl Try.sizeOf27 rfl rfl rfl) <| .consA 31 rfl rfl <| .nil) ?_
    intro a3 w3 m3 hst3 hle3 hk3
    have hfr3 := hk3.fr (T' := [(0, _), (4, _), (5, _)]) (.old rfl rfl <| .old rfl rfl <| .old rfl rfl <| .nil)
    obtain ⟨y7, e7, hy7⟩ := hk3.ex 31 rfl
    obtain ⟨g8, e8, _⟩ := hk3.ex 7 rfl
    replace hfr3 := hfr3.cons e8
    replace hfr3 := hfr3.cons (hk3.same 8 rfl e7)
    replace hst3 := hst3.fin (L' := [_, _]) (.cons e8 <| .cons e8 <| .nil)
    try simp only [List.take_succ_cons, List.take_zero, List.drop_succ_cons, List.drop_zero, List.cons_append, List.nil_append, List.append_nil, List.length_cons, List.length_nil, Nat.zero_add, Nat.reduceAdd] at hst3
    obtain ⟨⟨⟨oF, cF⟩, oG, cG⟩, hF, hst3⟩ := hst3.unx (k := 1) rfl (fun _ => rfl)
    replace h_b := h_b.mono hle3
    replace hU := hU.mono hle3
    replace hc4 := hc4.mono hle3
    replace hc5 := hc5.mono hle3
    clear hst2 hfr2 hk3
    refine hK6 _ _ ?_; clear hK6
    refine seq_any fun _ hK10 => ?_
    refine seq_any fun _ hK11 => ?_
    refine rp0 hst3 hfr3 (.cons rfl (ob_move rfl) <| .cons rfl (ob_not rfl) <| .nil) ?_
    intro a4 w4 m4 hst4 hle4 hk4
    have hfr4 := hk4.fr (T' := [(0, _), (4, _), (5, _), (7, _), (8, _), (33, _)]) (.old rfl rfl <| .old rfl rfl <| .old rfl rfl <| .old rfl rfl <| .old rfl rfl <| .new rfl <| .nil)
    replace h_b := h_b.mono hle4
    replace hU := hU.mono hle4
    replace hc4 := hc4.mono hle4
    replace hc5 := hc5.mono hle4
    replace hF := hF.mono hle4
    clear hst3 hfr3 hk4
    refine hK11 _ _ ?_; clear hK11
    refine cond_any hfr4 rfl rfl (fun hb33 => ?_) (fun hb33 => ?_)
    · try simp only [nq1, nq2, nq3, nq4, nq5, nq6, nq7, nq8, nq9, u8_eq] at hb33
      have hmr : matT s.ts s.rs a b u = (⟨aset a.var b u.ts, u.rs⟩, true) := by
        rw [hme]
        cases hq : alook a.var u.ts with
        | none => rfl
        | some z => rw [hq] at hb33; cases hb33
      refine region_any (tch := [(11, 0, (fun _ => .blkx _ _ _))]) (fun _ => mixed) hst4 hfr4 (by kernel_rfl) (by kernel_rfl) (by kernel_rfl) (.cons rfl (ob_move rfl) <| .cons rfl (ob_move rfl) <| .cons rfl (ob_nilCheck rfl) <| .cons rfl (ob_fieldAddrO (off := 8) rfl Try.underlying67 rfl rfl Try.sizeOf43 rfl) <| .cons rfl (ob_loadLS (j := 0) rfl rfl Try.isAgg43 Try.sizeOf43 rfl rfl) <| .cons rfl (ob_fieldAddrO (off := 2) rfl Try.underlying27 rfl rfl Try.sizeOf3 rfl) <| .cons rfl (ob_load1 rfl hc4 Try.isAgg3 rfl) <| .cons rfl (ob_loadS' rfl hc5 Try.isAgg27 Try.sizeOf27 rfl rfl) <| .cons rfl (ob_call (φ := MP.sub ⟨aset a.var b u.ts, u.rs⟩) rfl (.cons rfl <| .cons rfl <| .cons rfl <| .nil) Try.call13 (fun w m hK => by have hle_ := KC.le hK; have hA := KC.agree hK; have h_b := h_b.mono hle_; have hU := hU.mono hle_; exact FnG.mono (setType_c (s := u) (n := a.var) (t := b) hA hU h_b (by omega)) fun _ _ _ _ h => h)) <| .cons rfl (ob_nilCheck rfl) <| .cons rfl (ob_fieldAddrO (off := 8) rfl Try.underlying67 rfl rfl Try.sizeOf43 rfl) <| .consT rfl rfl (fun _ => rfl) rfl (ob_imgTX 42 rfl rfl rfl fun y42 => ob_store rfl rfl rfl Try.sizeOf43 rfl rfl rfl) <| .nil) ?_
      intro a5 w5 m5 hst5 hle5 hk5
      have hfr5 := hk5.fr (T' := [(5, _), (7, _), (8, _)]) (.old rfl rfl <| .old rfl rfl <| .old rfl rfl <| .nil)
      replace hst5 := hst5.fin (L' := [_, _]) (.cons rfl <| .nil)
      try simp only [List.take_succ_cons, List.take_zero, List.drop_succ_cons, List.drop_zero, List.cons_append, List.nil_append, List.append_nil, List.length_cons, List.length_nil, Nat.zero_add, Nat.reduceAdd] at hst5
      obtain ⟨⟨q1, q2⟩, hU2, hst5⟩ := hst5.unx (k := 0) rfl (fun _ => rfl)
      replace h_b := h_b.mono hle5
      replace hc5 := hc5.mono hle5
      replace hF := hF.mono hle5
      clear hst4 hfr4 hk5
      refine hK10 _ _ ?_; clear hK10
      refine seq_any fun _ hK13 => ?_
      refine rp0 hst5 hfr5 (.cons rfl (ob_move rfl) <| .cons rfl (ob_not rfl) <| .cons rfl (ob_move rfl) <| .cons rfl (ob_loadLA (j := 1) rfl rfl Try.isAgg27 Try.sizeOf27 rfl) <| .cons rfl (ob_loadS' rfl hc5 Try.isAgg27 Try.sizeOf27 rfl rfl) <| .cons rfl (ob_callE rfl (.cons rfl <| .cons rfl <| .nil) Try.call45 (fun w m hK => by have hle_ := KC.le hK; have hA := KC.agree hK; have h_b := h_b.mono hle_; have hF := hF.mono hle_; exact same_c ((alook a.var u.ts).getD zeroTy) (u := b) hA hF h_b)) <| .cons rfl (ob_or rfl rfl rfl) <| .cons rfl (ob_assign rfl) <| .nil) ?_
      intro a6 w6 m6 hst6 hle6 hk6
      have hfr6 := hk6.fr (T' := [(6, _)]) (.new rfl <| .nil)
      replace hU2 := hU2.mono hle6
      clear hst5 hfr5 hk6
      refine hK13 _ _ ?_; clear hK13
      refine wp_ret ?_
      repeat (with_reducible first | refine then_ret ?_ | refine block_ret ?_)
      exact fn_ret hst6 hfr6 rfl (.tmp rfl <| .nil) (⟨(q1, q2), (hst6.take 1).loc, by rw [hmr]; exact hU2, by rw [hmr]; refine congrArg Value.bool ?_; simp [hb33]⟩)
    · try simp only [nq1, nq2, nq3, nq4, nq5, nq6, nq7, nq8, nq9, u8_eq] at hb33
      have hmr : matT s.ts s.rs a b u = (u, sameT ((alook a.var u.ts).getD zeroTy) b) := by
        rw [hme]
        cases hq : alook a.var u.ts with
        | none => rw [hq] at hb33; cases hb33
        | some z => rfl
      refine wp_skip ?_
      refine hK10 _ _ ?_; clear hK10
      refine seq_any fun _ hK15 => ?_
      refine rp0 hst4 hfr4 (.cons rfl (ob_move rfl) <| .cons rfl (ob_not rfl) <| .cons rfl (ob_move rfl) <| .cons rfl (ob_loadLA (j := 1) rfl rfl Try.isAgg27 Try.sizeOf27 rfl) <| .cons rfl (ob_loadS' rfl hc5 Try.isAgg27 Try.sizeOf27 rfl rfl) <| .cons rfl (ob_callE rfl (.cons rfl <| .cons rfl <| .nil) Try.call45 (fun w m hK => by have hle_ := KC.le hK; have hA := KC.agree hK; have h_b := h_b.mono hle_; have hF := hF.mono hle_; exact same_c ((alook a.var u.ts).getD zeroTy) (u := b) hA hF h_b)) <| .cons rfl (ob_or rfl rfl rfl) <| .cons rfl (ob_assign rfl) <| .nil) ?_
      intro a5 w5 m5 hst5 hle5 hk5
      have hfr5 := hk5.fr (T' := [(6, _)]) (.new rfl <| .nil)
      replace hU := hU.mono hle5
      clear hst4 hfr4 hk5
      refine hK15 _ _ ?_; clear hK15
      refine wp_ret ?_
      repeat (with_reducible first | refine then_ret ?_ | refine block_ret ?_)
      exact fn_ret hst5 hfr5 rfl (.tmp rfl <| .nil) (⟨q, (hst5.take 1).loc, by rw [hmr]; exact hU, by rw [hmr]; refine congrArg Value.bool ?_; simp [hb33]⟩)
  · try simp only [nq1, nq2, nq3, nq4, nq5, nq6, nq7, nq8, nq9, u8_eq] at hb21
    have hc1 : ¬ (a.kind = 7 ∧ a.var ∈ s.ts) := fun e => by rcases hb21 with h | h; (exact h e.1); (simp [e.2] at h)
    rw [if_neg hc1] at hme
    refine wp_skip ?_
    refine hK4 _ _ ?_; clear hK4
    refine seq_any fun _ hK17 => ?_
    refine seq_any fun _ hK18 => ?_
    rcases Classical.em (a.kind = b.kind ∧ a.name = b.name ∧ a.var = b.var) with hq9 | hq9
    · skip
      refine ra0 (tch := [(26, 0, (fun _ => MK g s yy (eqM s.ts s.rs a.args b.args u).1))]) hst2 hfr2 (.cons rfl (ob_fieldAddrO (off := 0) rfl Try.underlying27 rfl rfl Try.sizeOf3 rfl) <| .cons rfl (ob_load1 rfl hc4 Try.isAgg3 rfl) <| .cons rfl (ob_fieldAddrO (off := 0) rfl Try.underlying27 rfl rfl Try.sizeOf3 rfl) <| .cons rfl (ob_load1 rfl hc5 Try.isAgg3 rfl) <| .cons rfl (ob_neq rfl rfl) <| .cons rfl (ob_move rfl) <| .cons rfl (ob_fieldAddrO (off := 1) rfl Try.underlying27 rfl rfl Try.sizeOf9 rfl) <| .cons rfl (ob_load1 rfl hc4 Try.isAgg9 rfl) <| .cons rfl (ob_fieldAddrO (off := 1) rfl Try.underlying27 rfl rfl Try.sizeOf9 rfl) <| .cons rfl (ob_load1 rfl hc5 Try.isAgg9 rfl) <| .cons rfl (ob_sneq rfl rfl) <| .cons rfl (ob_or rfl rfl rfl) <| .cons rfl (ob_move rfl) <| .cons rfl (ob_fieldAddrO (off := 2) rfl Try.underlying27 rfl rfl Try.sizeOf3 rfl) <| .cons rfl (ob_load1 rfl hc4 Try.isAgg3 rfl) <| .cons rfl (ob_fieldAddrO (off := 2) rfl Try.underlying27 rfl rfl Try.sizeOf3 rfl) <| .cons rfl (ob_load1 rfl hc5 Try.isAgg3 rfl) <| .cons rfl (ob_neq rfl rfl) <| .cons rfl (ob_or rfl rfl rfl) <| .cons rfl (ob_move rfl) <| .cons rfl (ob_fieldAddrO (off := 3) rfl Try.underlying27 rfl rfl Try.sizeOf22 rfl) <| .cons rfl (ob_load1 rfl hc4 Try.isAgg22 rfl) <| .cons rfl (ob_fieldAddrO (off := 3) rfl Try.underlying27 rfl rfl Try.sizeOf22 rfl) <| .cons rfl (ob_load1 rfl hc5 Try.isAgg22 rfl) <| .cons rfl (ob_move rfl) <| .cons rfl (ob_makeFuncF (.cons rfl <| .nil) (.nil)) <| .consTG rfl rfl (fun _ => rfl) (.inr ⟨_, _, _, rfl, rfl, (by simp [hq9.1, hq9.2.1, hq9.2.2])⟩) (ob_callT rfl (.cons rfl <| .cons rfl <| .cons rfl <| .nil) Try.call46 (κ := .eq (.bool (eqM s.ts s.rs a.args b.args u).2)) (fun σ w m hK hr hkn => by have hle_ := KC.le hK; have hA := KC.agree hK; have hM := hM.trans hle_; have h_a := h_a.mono hle_; have hk_a := hk_a.mono hle_; have hs_a := hs_a.mono hle_; have hrw_a := hrw_a.mono hle_; have h_b := h_b.mono hle_; have hk_b := hk_b.mono hle_; have hs_b := hs_b.mono hle_; have hrw_b := hrw_b.mono hle_; have hsts := hsts.mono hle_; have hsrs := hsrs.mono hle_; have hS := hS.mono hle_; have hU := hU.mono hle_; have hc4 := hc4.mono hle_; have hc5 := hc5.mono hle_; exact mt_T (equalM_g hA hk_a hk_b hr hS hU hw (fun z hz => Nat.le_trans (wdT_arg hz) hb) (fun x z vs zs w m q u hx hA hr hS hU h1 h2 hw hb => ih x hx hA hr hS hU h1 h2 hw hb (Nat.le_trans (wdT_arg hx) hwa))))) <| .cons rfl (ob_not rfl) <| .cons rfl (ob_or rfl rfl rfl) <| .nil) ?_
      intro a3 w3 m3 hst3 hle3 hk3
      have hfr3 := hk3.fr (T' := [(0, _), (4, _), (5, _), (80, _)]) (.old rfl rfl <| .old rfl rfl <| .old rfl rfl <| .new rfl <| .nil)
      replace hst3 := hst3.fin (L' := [_]) (.cons rfl <| .nil)
      replace h_a := h_a.mono hle3
      replace hk_a := hk_a.mono hle3
      replace hs_a := hs_a.mono hle3
      replace hrw_a := hrw_a.mono hle3
      replace h_b := h_b.mono hle3
      replace hk_b := hk_b.mono hle3
      replace hs_b := hs_b.mono hle3
      replace hrw_b := hrw_b.mono hle3
      replace hsts := hsts.mono hle3
      replace hsrs := hsrs.mono hle3
      replace hS := hS.mono hle3
      replace hU := hU.mono hle3
      replace hc4 := hc4.mono hle3
      replace hc5 := hc5.mono hle3
      replace hM := hM.trans hle3
      clear hst2 hfr2 hk3
      obtain ⟨q3, hst3, hU3⟩ := mt_open (k := 0) hst3 rfl
      simp only [List.set_cons_zero] at hst3
      have hw2 := eqM_w (ts := s.ts) (rs := s.rs) (l := a.args) hw (fun z hz => Nat.le_trans (wdT_arg hz) hb)
      have hme2 := matT_eqM (rs := s.rs) (u := u) hc1 hq9
      refine hK18 _ _ ?_; clear hK18
      refine cond_any hfr3 rfl rfl (fun hb80 => ?_) (fun hb80 => ?_)
      · try simp only [nq1, nq2, nq3, nq4, nq5, nq6, nq7, nq8, nq9, u8_eq] at hb80
        have hf9 : (eqM s.ts s.rs a.args b.args u).2 = false := by simp_all
        have hmr : matT s.ts s.rs a b u = ((eqM s.ts s.rs a.args b.args u).1, false) := by rw [hme2, hf9]; rfl
        refine seq_any fun _ hK19 => ?_
        refine rp0 hst3 hfr3 (.cons rfl (ob_assign rfl) <| .nil) ?_
        intro a4 w4 m4 hst4 hle4 hk4
        have hfr4 := hk4.fr (T' := [(6, _)]) (.new rfl <| .nil)
        replace hU3 := hU3.mono hle4
        clear hst3 hfr3 hk4
        refine hK19 _ _ ?_; clear hK19
        refine wp_ret ?_
        repeat (with_reducible first | refine then_ret ?_ | refine block_ret ?_)
        exact fn_ret hst4 hfr4 rfl (.tmp rfl <| .nil) (⟨q3, (hst4.take 1).loc, by rw [hmr]; exact hU3, by rw [hmr]; rfl⟩)
      · try simp only [nq1, nq2, nq3, nq4, nq5, nq6, nq7, nq8, nq9, u8_eq] at hb80
        have hf9 : (eqM s.ts s.rs a.args b.args u).2 = true := by simp_all
        rw [if_pos hf9] at hme2
        refine wp_skip ?_
        refine hK17 _ _ ?_; clear hK17
        refine seq_any fun _ hK21 => ?_
        rcases Classical.em (a.kind = 5) with hk5 | hk5
        · skip
          refine region_any (tch := [(10, 0, (fun _ => MK g s yy (matR s.rs ⟨sortS a.labels, a.rv⟩ ⟨b.labels, b.rv⟩ (eqM s.ts s.rs a.args b.args u).1).1))]) (fun _ => mixed) hst3 hfr3 (by kernel_rfl) (by kernel_rfl) (by kernel_rfl) (.cons rfl (ob_fieldAddrO (off := 0) rfl Try.underlying27 rfl rfl Try.sizeOf3 rfl) <| .cons rfl (ob_load1 rfl hc4 Try.isAgg3 rfl) <| .cons rfl (ob_neq rfl rfl) <| .cons rfl (ob_move rfl) <| .cons rfl (ob_move rfl) <| .cons rfl (ob_fieldAddrO (off := 4) rfl Try.underlying27 rfl rfl Try.sizeOf25 rfl) <| .cons rfl (ob_loadS rfl hc4 Try.isAgg25 Try.sizeOf25 rfl rfl) <| .cons rfl (ob_call (φ := MP.rw ⟨sortS a.labels, a.rv⟩) rfl (.cons rfl <| .nil) Try.call48 (fun w m hK => by have hle_ := KC.le hK; have hA := KC.agree hK; have hrw_a := hrw_a.mono hle_; exact FnG.mono (sorted_c (r := ⟨a.labels, a.rv⟩) hA hrw_a (by show a.labels.length ≤ _; omega)) fun _ _ _ _ h => h)) <| .cons rfl (ob_fieldAddrO (off := 4) rfl Try.underlying27 rfl rfl Try.sizeOf25 rfl) <| .cons rfl (ob_loadS rfl hc5 Try.isAgg25 Try.sizeOf25 rfl rfl) <| .consTG rfl rfl (fun _ => rfl) (.inr ⟨_, _, _, rfl, rfl, (by simp [hk5])⟩) (ob_imgT 88 rfl rfl rfl fun y88 => ob_callT rfl (.cons rfl <| .cons rfl <| .cons rfl <| .nil) Try.call47 (κ := .eq (.bool (matR s.rs ⟨sortS a.labels, a.rv⟩ ⟨b.labels, b.rv⟩ (eqM s.ts s.rs a.args b.args u).1).2)) (fun σ w m hK hr hkn => by have hle_ := KC.le hK; have hA := KC.agree hK; have hM := hM.trans hle_; have hr0_ := hK.2; have h_a := h_a.mono hle_; have hk_a := hk_a.mono hle_; have hs_a := hs_a.mono hle_; have hrw_a := hrw_a.mono hle_; have h_b := h_b.mono hle_; have hk_b := hk_b.mono hle_; have hs_b := hs_b.mono hle_; have hrw_b := hrw_b.mono hle_; have hsts := hsts.mono hle_; have hsrs := hsrs.mono hle_; have hS := hS.mono hle_; have hU := hU.mono hle_; have hc4 := hc4.mono hle_; have hc5 := hc5.mono hle_; have hU3 := hU3.mono hle_; exact mt_T (mrows_p hA hr hS hU3 hr0_ hrw_b hw2 (by show b.labels.length ≤ _; omega)))) <| .cons rfl (ob_or rfl rfl rfl) <| .cons rfl (ob_assign rfl) <| .nil) ?_
          intro a4 w4 m4 hst4 hle4 hk4
          have hfr4 := hk4.fr (T' := [(6, _)]) (.new rfl <| .nil)
          replace hst4 := hst4.fin (L' := [_]) (.cons rfl <| .nil)
          clear hst3 hfr3 hk4
          obtain ⟨q4, hst4, hU4⟩ := mt_open (k := 0) hst4 rfl
          simp only [List.set_cons_zero] at hst4
          have hmr : matT s.ts s.rs a b u = (matR s.rs ⟨sortS a.labels, a.rv⟩ ⟨b.labels, b.rv⟩ (eqM s.ts s.rs a.args b.args u).1) := by rw [hme2, if_pos hk5]
          refine hK21 _ _ ?_; clear hK21
          refine wp_ret ?_
          repeat (with_reducible first | refine then_ret ?_ | refine block_ret ?_)
          exact fn_ret hst4 hfr4 rfl (.tmp rfl <| .nil) (⟨q4, (hst4.take 1).loc, by rw [hmr]; exact hU4, by rw [hmr]; refine congrArg Value.bool ?_; simp [hk5]⟩)
        · skip
          refine region_plain (fun _ => mixed) hst3 hfr3 (by kernel_rfl) (by kernel_rfl) (.cons rfl (ob_fieldAddrO (off := 0) rfl Try.underlying27 rfl rfl Try.sizeOf3 rfl) <| .cons rfl (ob_load1 rfl hc4 Try.isAgg3 rfl) <| .cons rfl (ob_neq rfl rfl) <| .cons rfl (ob_move rfl) <| .cons rfl (ob_move rfl) <| .cons rfl (ob_fieldAddrO (off := 4) rfl Try.underlying27 rfl rfl Try.sizeOf25 rfl) <| .cons rfl (ob_loadS rfl hc4 Try.isAgg25 Try.sizeOf25 rfl rfl) <| .cons rfl (ob_guard (κ := .eq (.bool false)) (b := false) 84 rfl rfl (fun h => (by simp [hk5] at h))) <| .cons rfl (ob_fieldAddrO (off := 4) rfl Try.underlying27 rfl rfl Try.sizeOf25 rfl) <| .cons rfl (ob_loadS rfl hc5 Try.isAgg25 Try.sizeOf25 rfl rfl) <| .cons rfl (ob_guard (κ := .eq (.bool false)) (b := false) 84 rfl rfl (fun h => (by simp [hk5] at h))) <| .cons rfl (ob_or rfl rfl rfl) <| .cons rfl (ob_assign rfl) <| .nil) ?_
          intro a4 w4 m4 hst4 hle4 hk4
          have hfr4 := hk4.fr (T' := [(6, _)]) (.new rfl <| .nil)
          replace hU3 := hU3.mono hle4
          clear hst3 hfr3 hk4
          have hmr : matT s.ts s.rs a b u = ((eqM s.ts s.rs a.args b.args u).1, true) := by rw [hme2, if_neg hk5]
          refine hK21 _ _ ?_; clear hK21
          refine wp_ret ?_
          repeat (with_reducible first | refine then_ret ?_ | refine block_ret ?_)
          exact fn_ret hst4 hfr4 rfl (.tmp rfl <| .nil) (⟨q3, (hst4.take 1).loc, by rw [hmr]; exact hU3, by rw [hmr]; refine congrArg Value.bool ?_; simp [hk5]⟩)
    · skip
      refine rp0 hst2 hfr2 (.cons rfl (ob_fieldAddrO (off := 0) rfl Try.underlying27 rfl rfl Try.sizeOf3 rfl) <| .cons rfl (ob_load1 rfl hc4 Try.isAgg3 rfl) <| .cons rfl (ob_fieldAddrO (off := 0) rfl Try.underlying27 rfl rfl Try.sizeOf3 rfl) <| .cons rfl (ob_load1 rfl hc5 Try.isAgg3 rfl) <| .cons rfl (ob_neq rfl rfl) <| .cons rfl (ob_move rfl) <| .cons rfl (ob_fieldAddrO (off := 1) rfl Try.underlying27 rfl rfl Try.sizeOf9 rfl) <| .cons rfl (ob_load1 rfl hc4 Try.isAgg9 rfl) <| .cons rfl (ob_fieldAddrO (off := 1) rfl Try.underlying27 rfl rfl Try.sizeOf9 rfl) <| .cons rfl (ob_load1 rfl hc5 Try.isAgg9 rfl) <| .cons rfl (ob_sneq rfl rfl) <| .cons rfl (ob_or rfl rfl rfl) <| .cons rfl (ob_move rfl) <| .cons rfl (ob_fieldAddrO (off := 2) rfl Try.underlying27 rfl rfl Try.sizeOf3 rfl) <| .cons rfl (ob_load1 rfl hc4 Try.isAgg3 rfl) <| .cons rfl (ob_fieldAddrO (off := 2) rfl Try.underlying27 rfl rfl Try.sizeOf3 rfl) <| .cons rfl (ob_load1 rfl hc5 Try.isAgg3 rfl) <| .cons rfl (ob_neq rfl rfl) <| .cons rfl (ob_or rfl rfl rfl) <| .cons rfl (ob_move rfl) <| .cons rfl (ob_fieldAddrO (off := 3) rfl Try.underlying27 rfl rfl Try.sizeOf22 rfl) <| .cons rfl (ob_load1 rfl hc4 Try.isAgg22 rfl) <| .cons rfl (ob_fieldAddrO (off := 3) rfl Try.underlying27 rfl rfl Try.sizeOf22 rfl) <| .cons rfl (ob_load1 rfl hc5 Try.isAgg22 rfl) <| .cons rfl (ob_move rfl) <| .cons rfl (ob_makeFuncF (.cons rfl <| .nil) (.nil)) <| .cons rfl (ob_guard (κ := .eq (.bool false)) (b := false) 71 rfl rfl (fun h => (by exfalso; simp at h; exact hq9 ⟨h.1.1, h.1.2, h.2⟩))) <| .cons rfl (ob_not rfl) <| .cons rfl (ob_or rfl rfl rfl) <| .nil) ?_
      intro a3 w3 m3 hst3 hle3 hk3
      have hfr3 := hk3.fr (T' := [(0, _), (4, _), (5, _), (80, _)]) (.old rfl rfl <| .old rfl rfl <| .old rfl rfl <| .new rfl <| .nil)
      replace hU := hU.mono hle3
      clear hst2 hfr2 hk3
      have hmr : matT s.ts s.rs a b u = (u, false) := matT_ne hc1 hq9
      refine hK18 _ _ ?_; clear hK18
      refine cond_any hfr3 rfl rfl (fun hb80 => ?_) (fun hb80 => ?_)
      · try simp only [nq1, nq2, nq3, nq4, nq5, nq6, nq7, nq8, nq9, u8_eq] at hb80
        refine seq_any fun _ hK24 => ?_
        refine rp0 hst3 hfr3 (.cons rfl (ob_assign rfl) <| .nil) ?_
        intro a4 w4 m4 hst4 hle4 hk4
        have hfr4 := hk4.fr (T' := [(6, _)]) (.new rfl <| .nil)
        replace hU := hU.mono hle4
        clear hst3 hfr3 hk4
        refine hK24 _ _ ?_; clear hK24
        refine wp_ret ?_
        repeat (with_reducible first | refine then_ret ?_ | refine block_ret ?_)
        exact fn_ret hst4 hfr4 rfl (.tmp rfl <| .nil) (⟨q, (hst4.take 1).loc, by rw [hmr]; exact hU, by rw [hmr]; rfl⟩)
      · exact absurd hb80 (by first | (simp; done) | (simp; intro h1 h2 h3; exact absurd ⟨h1, h2, h3⟩ hq9))
theorem mtypes_c (a : Ty) : mtypes_G a := Ty.rec_ (p := mtypes_G) (fun t ih => mtypes_s ih) a

/-- Is a type one of a scheme's? -/
def instM (s : Sch) (t : Ty) : Bool := (matT s.ts s.rs s.ty t noneS).2

set_option maxHeartbeats 1600000 in
theorem instance_c {w : World} {m : Mem} {s : Sch} {vs_s : List Value} {t : Ty} {vs_t : List Value} (hA : Agree w m) (h_s : SchR m s vs_s) (h_t : TyR m t vs_t) (hw : wdT s.ty ≤ 400000000) (hb : wdT t ≤ 400000000) : FnV Try.prog 16 #[.agg vs_s.toArray, .agg vs_t.toArray] w m (fun _ _ v => v = .bool (instM s t)) := by
  obtain ⟨⟨⟨⟨oa_s, ca_s⟩, ob_s, cb_s⟩, ⟨oc_s, cc_s⟩, od_s, cd_s⟩, rfl, hts_s, hrs_s, hty_s⟩ := id h_s
  have hb1_s := hts_s.big; have hb2_s := hrs_s.big
  obtain ⟨o_t, c_t, oL_t, cL_t, rfl, hk_t, hs_t, hi_t, hj_t, hr_t⟩ := h_t.open_
  have hbg_t := hk_t.big; have hcp_t := hk_t.cap; have hbs_t := hs_t.big; have hcs_t := hs_t.cap
  have hrw_t : RwR _ ⟨t.labels, t.rv⟩ _ := ⟨_, _, rfl, hs_t, hr_t⟩
  refine fn_enter (vs := [_, _]) Try.func16 rfl rfl rfl fun a0 hfr0 => ?_
  have hst0 := st_enter hA (loc_nil [] _ w m)
  have hM : MLe m m := MLe.refl m
  refine seq_any fun _ hK1 => ?_
  refine rp0 hst0 hfr0 (.cons rfl (ob_box rfl rfl) <| .cons rfl (ob_box rfl rfl) <| .cons rfl (ob_assign rfl) <| .nil) ?_
  intro a1 w1 m1 hst1 hle1 hk1
  have hfr1 := hk1.fr (T' := []) (.nil)
  obtain ⟨g2, e2, hc2⟩ := hk1.ex 2 rfl
  replace hfr1 := hfr1.cons e2
  obtain ⟨g3, e3, hc3⟩ := hk1.ex 3 rfl
  replace hfr1 := hfr1.cons e3
  replace h_s := h_s.mono hle1
  replace hts_s := hts_s.mono hle1
  replace hrs_s := hrs_s.mono hle1
  replace hty_s := hty_s.mono hle1
  replace h_t := h_t.mono hle1
  replace hk_t := hk_t.mono hle1
  replace hs_t := hs_t.mono hle1
  replace hrw_t := hrw_t.mono hle1
  replace hM := hM.trans hle1
  clear hst0 hfr0 hk1
  refine hK1 _ _ ?_; clear hK1
  refine seq_any fun _ hK4 => ?_
  replace hst1 := hst1.more (r := .free) trivial List.nodup_nil (by simp [Res.blocks])
  refine region_any (tch := [(3, 0, (fun v => .blkx v _ _))]) (fun _ => mixed) hst1 hfr1 (by kernel_rfl) (by kernel_rfl) (by kernel_rfl) (.cons rfl (ob_loadS' rfl hc2 Try.isAgg35 Try.sizeOf35 rfl rfl) <| .cons rfl (ob_call (φ := MP.sub noneS) rfl (.nil) Try.call12 (fun w m hK => by have hle_ := KC.le hK; have hA := KC.agree hK; exact FnG.mono (none_c hA) fun _ _ _ _ h => h)) <| .cons rfl (ob_imgV 7 rfl rfl rfl fun y7 => ob_buildS (.cons rfl <| .cons rfl <| .nil) Try.underlying67 Try.zeroValue67 (.cons Try.sizeOf35 <| .cons Try.sizeOf43 <| .nil) rfl) <| .consT rfl rfl (fun _ => rfl) rfl (ob_imgTX 8 rfl rfl rfl fun y8 => ob_boxL rfl rfl) <| .consA 9 rfl rfl <| .nil) ?_
  intro a2 w2 m2 hst2 hle2 hk2
  have hfr2 := hk2.fr (T' := [(2, _), (3, _)]) (.old rfl rfl <| .old rfl rfl <| .nil)
  obtain ⟨gM, e5, _⟩ := hk2.ex 9 rfl
  replace hfr2 := hfr2.cons (hk2.same 5 rfl e5)
  replace hst2 := hst2.fin (L' := [_]) (.cons e5 <| .nil)
  obtain ⟨⟨q1, q2⟩, hU0, hst2⟩ := hst2.unx (k := 0) rfl (fun _ => rfl)
  replace h_s := h_s.mono hle2
  replace hts_s := hts_s.mono hle2
  replace hrs_s := hrs_s.mono hle2
  replace hty_s := hty_s.mono hle2
  replace h_t := h_t.mono hle2
  replace hk_t := hk_t.mono hle2
  replace hs_t := hs_t.mono hle2
  replace hrw_t := hrw_t.mono hle2
  replace hc2 := hc2.mono hle2
  replace hc3 := hc3.mono hle2
  replace hM := hM.trans hle2
  clear hst1 hfr1 hk2
  refine hK4 _ _ ?_; clear hK4
  refine seq_any fun _ hK7 => ?_
  refine ra0 (tch := [(4, 0, (fun _ => MK gM s _ (matT s.ts s.rs s.ty t noneS).1))]) hst2 hfr2 (.cons rfl (ob_move rfl) <| .cons rfl (ob_fieldAddrO (off := 2) rfl Try.underlying35 rfl rfl Try.sizeOf27 rfl) <| .cons rfl (ob_loadS rfl hc2 Try.isAgg27 Try.sizeOf27 rfl rfl) <| .cons rfl (ob_loadS' rfl hc3 Try.isAgg27 Try.sizeOf27 rfl rfl) <| .consT rfl rfl (fun _ => rfl) rfl (ob_callT rfl (.cons rfl <| .cons rfl <| .cons rfl <| .nil) Try.call32 (κ := .eq (.bool (matT s.ts s.rs s.ty t noneS).2)) (fun σ w m hK hr hkn => by have hle_ := KC.le hK; have hA := KC.agree hK; have hM := hM.trans hle_; have h_s := h_s.mono hle_; have hts_s := hts_s.mono hle_; have hrs_s := hrs_s.mono hle_; have hty_s := hty_s.mono hle_; have h_t := h_t.mono hle_; have hk_t := hk_t.mono hle_; have hs_t := hs_t.mono hle_; have hrw_t := hrw_t.mono hle_; have hc2 := hc2.mono hle_; have hc3 := hc3.mono hle_; have hU0 := hU0.mono hle_; exact mt_T (mtypes_c s.ty hA hr h_s hU0 hty_s h_t noneS_w hb hw))) <| .cons rfl (ob_assign rfl) <| .nil) ?_
  intro a3 w3 m3 hst3 hle3 hk3
  have hfr3 := hk3.fr (T' := [(4, _)]) (.new rfl <| .nil)
  replace hst3 := hst3.fin (L' := [_]) (.cons rfl <| .nil)
  clear hst2 hfr2 hk3
  refine hK7 _ _ ?_; clear hK7
  refine wp_ret ?_
  repeat (with_reducible first | refine then_ret ?_ | refine block_ret ?_)
  exact fn_ret hst3 hfr3 rfl (.tmp rfl <| .nil) (rfl)

end Go.Proofs.Ytmpponcnohakdaa
