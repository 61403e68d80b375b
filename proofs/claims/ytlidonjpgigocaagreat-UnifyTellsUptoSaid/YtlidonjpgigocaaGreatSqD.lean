/-
  Texts that the law rests on: Rows7, Types7, Unify7, Less7, Shown7, RefS7. Conditions: those of each theorem.
-/
import Derived.Test.YtlidonjpgigocaaGreatSqC
namespace Go.Proofs.YtlidonjpgigocaaGreat
open Go.Proofs.Tryz
set_option linter.all false
set_option maxRecDepth 4000
open Go.RowKit
set_option maxHeartbeats 6400000 in
theorem rows_g {w : World} {m : Mem} {g : Nat} {q : QQ} {U : USt} {a : Rw} {vs_a : List Value} {b : Rw} {vs_b : List Value} (hA : Agree w m) (hr : (UB g q U.nx).holds w m) (hU : SubQ m U.s (zAJ q)) (h_a : RwR m a vs_a) (h_b : RwR m b vs_b) (hok : OkS U) (ha : a.labels.length ≤ 50000000) (hb : b.labels.length ≤ 50000000) : FnG Tryz.prog 50 #[.pointer (some ⟨g, 0, none⟩), .agg vs_a.toArray, .agg vs_b.toArray] [g] w m (zDN g w.heap.size (zAc a b U)) := by
 obtain ⟨o_a, c_a, rfl, hs_a, hr_a⟩ := h_a.open_
 have hbs_a := hs_a.big; have hcs_a := hs_a.cap
 obtain ⟨o_b, c_b, rfl, hs_b, hr_b⟩ := h_b.open_
 have hbs_b := hs_b.big; have hcs_b := hs_b.cap
 refine zY (vs := [_, _, _]) func50 rfl rfl rfl fun a0 hfr0 => ?_
 have hst0 := zX hA (zBC hr (by simp [Res.blocks, ZB]))
 have hM : MLe m m := MLe.refl m
 have hww := hok.w
 have hnx := hok.nx
 have hla := zAr hww a
 have hlb := zAr hww b
 obtain ⟨pa, hpa⟩ : ∃ x, x = zQ U.s a := ⟨_, rfl⟩
 obtain ⟨pb, hpb⟩ : ∃ x, x = zQ U.s b := ⟨_, rfl⟩
 rw [← hpa] at hla
 rw [← hpb] at hlb
 have hml := zAz pa.labels pb.labels
 have hml2 := zAz pb.labels pa.labels
 have hrv : zAc a b U = zCi pa pb (ZR pa.labels pb.labels) (ZR pb.labels pa.labels) U := by unfold zAc; rw [← hpa, ← hpb]
 obtain ⟨p, hp9⟩ : ∃ x, x = (ZR pa.labels pb.labels) := ⟨_, rfl⟩
 obtain ⟨k, hk9⟩ : ∃ x, x = (ZR pb.labels pa.labels) := ⟨_, rfl⟩
 rw [← hp9] at hml hrv
 rw [← hk9] at hml2 hrv
 have hp0 : ∀ {l : List Str}, (((l.length : Int) = 0) ↔ l = []) := fun {l} => ⟨fun h => List.eq_nil_of_length_eq_zero (by omega), fun h => by rw [h]; rfl⟩
 refine zE fun _ hK1 => ?_
 replace hst0 := hst0.more (r := .free) trivial List.nodup_nil (by simp [Res.blocks])
 replace hst0 := hst0.more (r := .free) trivial List.nodup_nil (by simp [Res.blocks])
 refine ra0 (tch := [(0, 1, (fun v => .blk v _)), (1, 2, (fun v => .blk v _))]) hst0 hfr0 (.consT rfl rfl (fun _ => rfl) rfl (zAR rfl rfl) <| .consT rfl rfl (fun _ => rfl) rfl (zAR rfl rfl) <| .cons rfl (zH rfl) <| .nil) fun a1 w1 m1 hst1 hle1 hk1 => ?_
 have hfr1 := hk1.fr (.o 0 <| .nil)
 obtain ⟨gA, e2, _⟩ := hk1.ex 4 rfl
 replace hfr1 := hfr1.cons e2
 obtain ⟨gB, e3, _⟩ := hk1.ex 5 rfl
 replace hfr1 := hfr1.cons e3
 replace hst1 := hst1.fin (L' := [_, _, _]) (.cons e2 <| .cons e3 <| .nil)
 replace h_a := h_a.mono hle1
 replace h_b := h_b.mono hle1
 replace hU := hU.mono hle1
 clear hst0 hfr0 hk1
 refine hK1 _ _ ?_
 refine zE fun _ hK4 => ?_
 refine zn (tch := [(12, 1, (fun _ => .blkx _ _ _)), (13, 2, (fun _ => .blkx _ _ _))]) (fun _ => mixed) hst1 hfr1 (by kernel_rfl) (by kernel_rfl) (by kernel_rfl) (.cons rfl (zG rfl) <| .cons rfl (zg rfl) <| .cons rfl (zF (off := 0) rfl underlying74 rfl rfl sizeOf29 rfl) <| .cons rfl (Za (j := 0) rfl rfl isAgg29 sizeOf29 rfl rfl) <| .cons rfl (zh (j := 1) rfl rfl isAgg43 sizeOf43 rfl) <| .cons rfl (zZ (φ := MP.rw pa) rfl (.cons rfl <| .cons rfl <| .nil) call21 (fun w m hK => by have hle_ := KC.le hK; have hA := KC.agree hK; have h_a := h_a.mono hle_; have hU := hU.mono hle_; exact FnG.mono ((by rw [hpa]; exact zDx (r := a) hA hU h_a (hww.up (by omega)) (by omega))) fun _ _ _ _ h => h)) <| .cons rfl (zG rfl) <| .cons rfl (zg rfl) <| .cons rfl (zF (off := 0) rfl underlying74 rfl rfl sizeOf29 rfl) <| .cons rfl (Za (j := 0) rfl rfl isAgg29 sizeOf29 rfl rfl) <| .cons rfl (zh (j := 2) rfl rfl isAgg43 sizeOf43 rfl) <| .cons rfl (zZ (φ := MP.rw pb) rfl (.cons rfl <| .cons rfl <| .nil) call21 (fun w m hK => by have hle_ := KC.le hK; have hA := KC.agree hK; have h_b := h_b.mono hle_; have hU := hU.mono hle_; exact FnG.mono ((by rw [hpb]; exact zDx (r := b) hA hU h_b (hww.up (by omega)) (by omega))) fun _ _ _ _ h => h)) <| .consT rfl rfl (fun _ => rfl) rfl (ZL 17 rfl rfl rfl fun y17 => zm rfl rfl rfl sizeOf43 rfl rfl rfl) <| .consT rfl rfl (fun _ => rfl) rfl (ZL 23 rfl rfl rfl fun y23 => zm rfl rfl rfl sizeOf43 rfl rfl rfl) <| .nil) fun a2 w2 m2 hst2 hle2 hk2 => ?_
 have hfr2 := hk2.fr (.o 0 <| .o 4 <| .o 5 <| .nil)
 replace hst2 := hst2.fin (L' := [_, _, _]) (.cons rfl <| .cons rfl <| .nil)
 try simp only [List.take_succ_cons, List.take_zero, List.drop_succ_cons, List.drop_zero, List.cons_append, List.nil_append, List.append_nil, List.length_cons, List.length_nil, Nat.zero_add, Nat.reduceAdd] at hst2
 obtain ⟨⟨oA, cA⟩, hRa, hst2⟩ := hst2.unx (k := 1) rfl (fun _ => rfl)
 obtain ⟨⟨oB, cB⟩, hRb, hst2⟩ := hst2.unx (k := 2) rfl (fun _ => rfl)
 replace hU := hU.mono hle2
 clear hst1 hfr1 hk2
 have hSa := (zAF hRa).1
 have hSb := (zAF hRb).1
 have hIa : Zg pa.var := (zAF hRa).2
 have hIb : Zg pb.var := (zAF hRb).2
 refine hK4 _ _ ?_
 refine zE fun _ hK7 => ?_
 refine zn (tch := []) (fun _ => mixed) hst2 hfr2 (by kernel_rfl) (by kernel_rfl) (by kernel_rfl) (.cons rfl (zF (off := 0) rfl underlying43 rfl rfl sizeOf41 rfl) <| .cons rfl (zW (j := 1) rfl rfl isAgg41 rfl) <| .cons rfl (zF (off := 0) rfl underlying43 rfl rfl sizeOf41 rfl) <| .cons rfl (zW (j := 2) rfl rfl isAgg41 rfl) <| .cons rfl (zZ (φ := MP.strs p) rfl (.cons rfl <| .cons rfl <| .nil) call73 (fun w m hK => by have hle_ := KC.le hK; have hA := KC.agree hK; have hSa := hSa.mono hle_; have hSb := hSb.mono hle_; exact FnG.mono ((by rw [hp9]; exact without_c hA hSa hSb (by omega) (by omega))) fun _ _ _ _ h => h)) <| .cons rfl (zF (off := 0) rfl underlying43 rfl rfl sizeOf41 rfl) <| .cons rfl (zW (j := 2) rfl rfl isAgg41 rfl) <| .cons rfl (zF (off := 0) rfl underlying43 rfl rfl sizeOf41 rfl) <| .cons rfl (zW (j := 1) rfl rfl isAgg41 rfl) <| .cons rfl (zZ (φ := MP.strs k) rfl (.cons rfl <| .cons rfl <| .nil) call73 (fun w m hK => by have hle_ := KC.le hK; have hA := KC.agree hK; have hSa := hSa.mono hle_; have hSb := hSb.mono hle_; exact FnG.mono ((by rw [hk9]; exact without_c hA hSb hSa (by omega) (by omega))) fun _ _ _ _ h => h)) <| .consA 28 rfl rfl <| .consA 33 rfl rfl <| .nil) fun a3 w3 m3 hst3 hle3 hk3 => ?_
 have hfr3 := hk3.fr (.o 0 <| .o 4 <| .o 5 <| .nil)
 obtain ⟨⟨oP, cP⟩, e8, hP⟩ := hk3.ex 28 rfl
 obtain ⟨⟨oK, cK⟩, e9, hK⟩ := hk3.ex 33 rfl
 replace hfr3 := hfr3.cons (hk3.same 7 rfl e8)
 replace hfr3 := hfr3.cons (hk3.same 8 rfl e9)
 replace hU := hU.mono hle3
 clear hst2 hfr2 hk3
 refine hK7 _ _ ?_
 refine zE fun _ hK10 => ?_
 refine Zf (fun _ => mixed) hst3 hfr3 (by kernel_rfl) (by kernel_rfl) (.cons rfl (zF (off := 1) rfl underlying43 rfl rfl sizeOf3 rfl) <| .cons rfl (zW (j := 1) rfl rfl isAgg3 rfl) <| .cons rfl (zF (off := 1) rfl underlying43 rfl rfl sizeOf3 rfl) <| .cons rfl (zW (j := 2) rfl rfl isAgg3 rfl) <| .cons rfl (zH rfl) <| .cons rfl (zH rfl) <| .nil) fun a4 w4 m4 hst4 hle4 hk4 => ?_
 have hfr4 := hk4.fr (.o 0 <| .o 7 <| .o 8 <| .n 9 <| .n 10 <| .nil)
 replace hU := hU.mono hle4
 replace hP := hP.mono hle4
 replace hK := hK.mono hle4
 clear hst3 hfr3 hk4
 refine hK10 _ _ ?_
 refine zE fun _ hK11 => ?_
 refine zT ?_
 refine zE fun _ hK12 => ?_
 refine rp0 hst4 hfr4 (.cons rfl (zG rfl) <| .cons rfl (zt rfl underlying41) <| .cons rfl (zq rfl rfl) <| .cons rfl (zG rfl) <| .cons rfl (zG rfl) <| .cons rfl (zt rfl underlying41) <| .cons rfl (zq rfl rfl) <| .cons rfl (z8 rfl rfl rfl) <| .cons rfl (zH rfl) <| .nil) fun a5 w5 m5 hst5 hle5 hk5 => ?_
 have hfr5 := hk5.fr (.o 0 <| .o 7 <| .o 8 <| .o 9 <| .o 10 <| .n 59 <| .nil)
 replace hU := hU.mono hle5
 replace hP := hP.mono hle5
 replace hK := hK.mono hle5
 clear hst4 hfr4 hk5
 refine hK12 _ _ ?_
 refine zJ hfr5 rfl rfl (fun hb59 => ?_) (fun hb59 => ?_)
 ·try simp only [nqs] at hb59
  have hc1 : p = [] ∧ k = [] := ⟨hp0.1 hb59.1, hp0.1 hb59.2⟩
  rw [zCi, if_pos hc1] at hrv
  refine zT ?_
  refine zE fun _ hK13 => ?_
  refine rp0 hst5 hfr5 (.cons rfl (zG rfl) <| .cons rfl (zG rfl) <| .cons rfl (zq rfl rfl) <| .cons rfl (zH rfl) <| .nil) fun a6 w6 m6 hst6 hle6 hk6 => ?_
  have hfr6 := hk6.fr (.o 0 <| .o 9 <| .o 10 <| .n 72 <| .nil)
  clear hst5 hfr5 hk6
  refine hK13 _ _ ?_
  refine zJ hfr6 rfl rfl (fun hb72 => ?_) (fun hb72 => ?_)
  ·try simp only [nqs] at hb72
   rw [if_pos hb72] at hrv
   refine zR ?_
   refine hK11 _ _ ?_
   refine zE fun _ hK14 => ?_
   refine rp0 hst6 hfr6 (.cons rfl (zH rfl) <| .nil) fun a7 w7 m7 hst7 hle7 hk7 => ?_
   have hfr7 := hk7.fr (.n 6 <| .nil)
   clear hst6 hfr6 hk7
   refine hK14 _ _ ?_
   refine zU ?_
   repeat (with_reducible first | refine zL ?_ | refine zI ?_)
   have zq1 := hle6.trans hle7
   replace hU := hU.mono zq1
   exact zV hst7 hfr7 rfl (.tmp rfl <| .nil) (⟨q, by rw [hrv]; exact (hst7.take 1).loc, by rw [hrv]; exact hU, by rw [hrv]; rfl⟩)
  ·try simp only [nqs] at hb72
   rw [if_neg hb72] at hrv
   refine zE fun _ hK16 => ?_
   refine rp0 hst6 hfr6 (.cons rfl (zG rfl) <| .cons rfl (zq rfl rfl) <| .cons rfl (zH rfl) <| .nil) fun a7 w7 m7 hst7 hle7 hk7 => ?_
   have hfr7 := hk7.fr (.o 0 <| .o 9 <| .o 10 <| .n 76 <| .nil)
   clear hst6 hfr6 hk7
   refine hK16 _ _ ?_
   refine zJ hfr7 rfl rfl (fun hb76 => ?_) (fun hb76 => ?_)
   ·try simp only [nqs] at hb76
    rw [if_pos hb76] at hrv
    refine ZE 2 (by kernel_rfl) ?_
    refine ZN (tch := []) hst7 hfr7 (by kernel_rfl) (by kernel_rfl) (by kernel_rfl) (.cons rfl (zG rfl) <| .cons rfl (zG rfl) <| .nil) fun a8 w8 m8 hst8 hle8 hk8 => ?_
    have hfr8 := hk8.fr (.o 0 <| .o 9 <| .o 10 <| .n 79 <| .n 80 <| .nil)
    clear hst7 hfr7 hk8
    have zq2 := hle7.trans hle8
    have zq3 := hle6.trans zq2
    replace hU := hU.mono zq3
    refine Zi [] [_, _] [_] hst8 hfr8 rfl (.cons rfl <| .cons rfl <| .cons rfl <| .cons rfl <| .nil) call74 (row_r (n := pb.var) (l := []) (rv := 0) (U := U) hst8.agree (hst8.loc.at_ (k := 0) rfl) hU Sl.empty (hww.up (by omega)) (by simp) ⟨by omega, by omega⟩) ?_
    intro vr9 w9 m9 rs9 hst9 hle9 hp9
    obtain ⟨q9, rfl, hU9⟩ := hp9
    simp only [List.nil_append, List.cons_append] at hst9
    have hfr9 := (hfr8.sub (T' := [(0, _), (9, _), (10, _), (79, _), (80, _)]) (.cons rfl <| .cons rfl <| .cons rfl <| .cons rfl <| .cons rfl <| .nil)).put (d := 81) (v := vr9) (by kernel_rfl) rfl
    clear hst8 hfr8
    refine hK11 _ _ ?_
    refine zE fun _ hK17 => ?_
    refine rp0 hst9 hfr9 (.cons rfl (zH rfl) <| .nil) fun a10 w10 m10 hst10 hle10 hk10 => ?_
    have hfr10 := hk10.fr (.n 6 <| .nil)
    clear hst9 hfr9 hk10
    refine hK17 _ _ ?_
    refine zU ?_
    repeat (with_reducible first | refine zL ?_ | refine zI ?_)
    replace hU9 := hU9.mono hle10
    exact zV hst10 hfr10 rfl (.tmp rfl <| .nil) (⟨q9, by rw [hrv]; exact (hst10.take 1).loc, by rw [hrv]; exact hU9, by rw [hrv]; rfl⟩)
   ·try simp only [nqs] at hb76
    rw [if_neg hb76] at hrv
    refine ZE 3 (by kernel_rfl) ?_
    refine ZN (tch := []) hst7 hfr7 (by kernel_rfl) (by kernel_rfl) (by kernel_rfl) (.cons rfl (zG rfl) <| .cons rfl (zG rfl) <| .cons rfl (zG rfl) <| .nil) fun a8 w8 m8 hst8 hle8 hk8 => ?_
    have hfr8 := hk8.fr (.o 0 <| .o 9 <| .o 10 <| .n 68 <| .n 69 <| .n 70 <| .nil)
    clear hst7 hfr7 hk8
    have zq4 := hle7.trans hle8
    have zq5 := hle6.trans zq4
    replace hU := hU.mono zq5
    refine Zi [] [_, _] [_] hst8 hfr8 rfl (.cons rfl <| .cons rfl <| .cons rfl <| .cons rfl <| .nil) call74 (row_r (n := pa.var) (l := []) (rv := pb.var) (U := U) hst8.agree (hst8.loc.at_ (k := 0) rfl) hU Sl.empty (hww.up (by omega)) (by simp) hIb) ?_
    intro vr9 w9 m9 rs9 hst9 hle9 hp9
    obtain ⟨q9, rfl, hU9⟩ := hp9
    simp only [List.nil_append, List.cons_append] at hst9
    have hfr9 := (hfr8.sub (T' := [(0, _), (9, _), (10, _), (68, _), (69, _), (70, _)]) (.cons rfl <| .cons rfl <| .cons rfl <| .cons rfl <| .cons rfl <| .cons rfl <| .nil)).put (d := 71) (v := vr9) (by kernel_rfl) rfl
    clear hst8 hfr8
    refine hK11 _ _ ?_
    refine zE fun _ hK19 => ?_
    refine rp0 hst9 hfr9 (.cons rfl (zH rfl) <| .nil) fun a10 w10 m10 hst10 hle10 hk10 => ?_
    have hfr10 := hk10.fr (.n 6 <| .nil)
    clear hst9 hfr9 hk10
    refine hK19 _ _ ?_
    refine zU ?_
    repeat (with_reducible first | refine zL ?_ | refine zI ?_)
    replace hU9 := hU9.mono hle10
    exact zV hst10 hfr10 rfl (.tmp rfl <| .nil) (⟨q9, by rw [hrv]; exact (hst10.take 1).loc, by rw [hrv]; exact hU9, by rw [hrv]; rfl⟩)
 ·try simp only [nqs] at hb59
  have hc1 : ¬ (p = [] ∧ k = []) := fun h => by rcases hb59 with h9 | h9; (exact h9 (hp0.2 h.1)); exact h9 (hp0.2 h.2)
  rw [zCi, if_neg hc1] at hrv
  refine zE fun _ hK21 => ?_
  refine zE fun _ hK22 => ?_
  refine rp0 hst5 hfr5 (.cons rfl (zG rfl) <| .cons rfl (zt rfl underlying41) <| .cons rfl (zAU rfl rfl) <| .cons rfl (zG rfl) <| .cons rfl (zG rfl) <| .cons rfl (zq rfl rfl) <| .cons rfl (z8 rfl rfl rfl) <| .cons rfl (zH rfl) <| .nil) fun a6 w6 m6 hst6 hle6 hk6 => ?_
  have hfr6 := hk6.fr (.o 0 <| .o 7 <| .o 8 <| .o 9 <| .o 10 <| .n 82 <| .nil)
  clear hst5 hfr5 hk6
  refine hK22 _ _ ?_
  refine zJ hfr6 rfl rfl (fun hb82 => ?_) (fun hb82 => ?_)
  ·try simp only [nqs] at hb82
   have hc2 : (p ≠ [] ∧ pb.var = 0) ∨ (k ≠ [] ∧ pa.var = 0) ∨ pa.var = pb.var := by first | exact .inl ⟨fun h => by rw [h] at hb82; exact absurd hb82.1 (by simp), hb82.2⟩ | exact .inr (.inl ⟨fun h => by rw [h] at hb82; exact absurd hb82.1 (by simp), hb82.2⟩) | exact .inr (.inr hb82)
   try rw [if_pos hc2] at hrv
   refine zR ?_
   refine hK21 _ _ ?_
   refine zJ hfr6 rfl rfl (fun hb82x => ?_) (fun hb82x => ?_)
   ·try simp only [nqs] at hb82x
    have hc2 : (p ≠ [] ∧ pb.var = 0) ∨ (k ≠ [] ∧ pa.var = 0) ∨ pa.var = pb.var := by first | exact .inl ⟨fun h => by rw [h] at hb82; exact absurd hb82.1 (by simp), hb82.2⟩ | exact .inr (.inl ⟨fun h => by rw [h] at hb82; exact absurd hb82.1 (by simp), hb82.2⟩) | exact .inr (.inr hb82)
    try rw [if_pos hc2] at hrv
    refine zE fun _ hK23 => ?_
    refine rp0 hst6 hfr6 (.cons rfl (zH rfl) <| .nil) fun a7 w7 m7 hst7 hle7 hk7 => ?_
    have hfr7 := hk7.fr (.n 6 <| .nil)
    clear hst6 hfr6 hk7
    refine hK23 _ _ ?_
    refine zU ?_
    repeat (with_reducible first | refine zL ?_ | refine zI ?_)
    have zq6 := hle6.trans hle7
    replace hU := hU.mono zq6
    exact zV hst7 hfr7 rfl (.tmp rfl <| .nil) (⟨q, by rw [hrv]; exact (hst7.take 1).loc, by rw [hrv]; exact hU, by rw [hrv]; rfl⟩)
   ·exfalso; try simp only [nqs] at hb82x
    first | exact absurd hb82x hb82 | exact absurd hb82 hb82x | simp_all
  ·try simp only [nqs] at hb82
   try rw [if_neg (show ¬ ((p ≠ [] ∧ pb.var = 0) ∨ (k ≠ [] ∧ pa.var = 0) ∨ pa.var = pb.var) from fun h => by rcases h with ⟨h1, h2⟩ | ⟨h1, h2⟩ | h3; (rcases hf1 with h9 | h9; (exact h1 (hp0.1 (by omega))); exact h9 h2); (rcases hf2 with h9 | h9; (exact h1 (hp0.1 (by omega))); exact h9 h2); exact hb82 h3)] at hrv
   refine zE fun _ hK25 => ?_
   have hf1 := hb82
   refine rp0 hst6 hfr6 (.cons rfl (zG rfl) <| .cons rfl (zt rfl underlying41) <| .cons rfl (zAU rfl rfl) <| .cons rfl (zG rfl) <| .cons rfl (zG rfl) <| .cons rfl (zq rfl rfl) <| .cons rfl (z8 rfl rfl rfl) <| .cons rfl (zH rfl) <| .nil) fun a7 w7 m7 hst7 hle7 hk7 => ?_
   have hfr7 := hk7.fr (.o 0 <| .o 7 <| .o 8 <| .o 9 <| .o 10 <| .n 82 <| .nil)
   clear hst6 hfr6 hk7
   refine hK25 _ _ ?_
   refine zJ hfr7 rfl rfl (fun hb82 => ?_) (fun hb82 => ?_)
   ·try simp only [nqs] at hb82
    have hc2 : (p ≠ [] ∧ pb.var = 0) ∨ (k ≠ [] ∧ pa.var = 0) ∨ pa.var = pb.var := by first | exact .inl ⟨fun h => by rw [h] at hb82; exact absurd hb82.1 (by simp), hb82.2⟩ | exact .inr (.inl ⟨fun h => by rw [h] at hb82; exact absurd hb82.1 (by simp), hb82.2⟩) | exact .inr (.inr hb82)
    try rw [if_pos hc2] at hrv
    refine zR ?_
    refine hK21 _ _ ?_
    refine zJ hfr7 rfl rfl (fun hb82x => ?_) (fun hb82x => ?_)
    ·try simp only [nqs] at hb82x
     have hc2 : (p ≠ [] ∧ pb.var = 0) ∨ (k ≠ [] ∧ pa.var = 0) ∨ pa.var = pb.var := by first | exact .inl ⟨fun h => by rw [h] at hb82; exact absurd hb82.1 (by simp), hb82.2⟩ | exact .inr (.inl ⟨fun h => by rw [h] at hb82; exact absurd hb82.1 (by simp), hb82.2⟩) | exact .inr (.inr hb82)
     try rw [if_pos hc2] at hrv
     refine zE fun _ hK26 => ?_
     refine rp0 hst7 hfr7 (.cons rfl (zH rfl) <| .nil) fun a8 w8 m8 hst8 hle8 hk8 => ?_
     have hfr8 := hk8.fr (.n 6 <| .nil)
     clear hst7 hfr7 hk8
     refine hK26 _ _ ?_
     refine zU ?_
     repeat (with_reducible first | refine zL ?_ | refine zI ?_)
     have zq7 := hle7.trans hle8
     have zq8 := hle6.trans zq7
     replace hU := hU.mono zq8
     exact zV hst8 hfr8 rfl (.tmp rfl <| .nil) (⟨q, by rw [hrv]; exact (hst8.take 1).loc, by rw [hrv]; exact hU, by rw [hrv]; rfl⟩)
    ·exfalso; try simp only [nqs] at hb82x
     first | exact absurd hb82x hb82 | exact absurd hb82 hb82x | simp_all
   ·try simp only [nqs] at hb82
    try rw [if_neg (show ¬ ((p ≠ [] ∧ pb.var = 0) ∨ (k ≠ [] ∧ pa.var = 0) ∨ pa.var = pb.var) from fun h => by rcases h with ⟨h1, h2⟩ | ⟨h1, h2⟩ | h3; (rcases hf1 with h9 | h9; (exact h1 (hp0.1 (by omega))); exact h9 h2); (rcases hf2 with h9 | h9; (exact h1 (hp0.1 (by omega))); exact h9 h2); exact hb82 h3)] at hrv
    have hf2 := hb82
    refine rp0 hst7 hfr7 (.cons rfl (zG rfl) <| .cons rfl (zG rfl) <| .cons rfl (zq rfl rfl) <| .cons rfl (zH rfl) <| .nil) fun a8 w8 m8 hst8 hle8 hk8 => ?_
    have hfr8 := hk8.fr (.o 0 <| .o 7 <| .o 8 <| .o 9 <| .o 10 <| .n 82 <| .nil)
    clear hst7 hfr7 hk8
    refine hK21 _ _ ?_
    refine zJ hfr8 rfl rfl (fun hb82 => ?_) (fun hb82 => ?_)
    ·try simp only [nqs] at hb82
     have hc2 : (p ≠ [] ∧ pb.var = 0) ∨ (k ≠ [] ∧ pa.var = 0) ∨ pa.var = pb.var := by first | exact .inl ⟨fun h => by rw [h] at hb82; exact absurd hb82.1 (by simp), hb82.2⟩ | exact .inr (.inl ⟨fun h => by rw [h] at hb82; exact absurd hb82.1 (by simp), hb82.2⟩) | exact .inr (.inr hb82)
     try rw [if_pos hc2] at hrv
     refine zE fun _ hK28 => ?_
     refine rp0 hst8 hfr8 (.cons rfl (zH rfl) <| .nil) fun a9 w9 m9 hst9 hle9 hk9 => ?_
     have hfr9 := hk9.fr (.n 6 <| .nil)
     clear hst8 hfr8 hk9
     refine hK28 _ _ ?_
     refine zU ?_
     repeat (with_reducible first | refine zL ?_ | refine zI ?_)
     have zq9 := hle8.trans hle9
     have zq10 := hle7.trans zq9
     have zq11 := hle6.trans zq10
     replace hU := hU.mono zq11
     exact zV hst9 hfr9 rfl (.tmp rfl <| .nil) (⟨q, by rw [hrv]; exact (hst9.take 1).loc, by rw [hrv]; exact hU, by rw [hrv]; rfl⟩)
    ·try simp only [nqs] at hb82
     try rw [if_neg (show ¬ ((p ≠ [] ∧ pb.var = 0) ∨ (k ≠ [] ∧ pa.var = 0) ∨ pa.var = pb.var) from fun h => by rcases h with ⟨h1, h2⟩ | ⟨h1, h2⟩ | h3; (rcases hf1 with h9 | h9; (exact h1 (hp0.1 (by omega))); exact h9 h2); (rcases hf2 with h9 | h9; (exact h1 (hp0.1 (by omega))); exact h9 h2); exact hb82 h3)] at hrv
     refine zE fun _ hK30 => ?_
     refine rp0 hst8 hfr8 (.cons rfl (zG rfl) <| .cons rfl (zt rfl underlying41) <| .cons rfl (zq rfl rfl) <| .cons rfl (zH rfl) <| .nil) fun a9 w9 m9 hst9 hle9 hk9 => ?_
     have hfr9 := hk9.fr (.o 0 <| .o 7 <| .o 8 <| .o 9 <| .o 10 <| .n 100 <| .nil)
     clear hst8 hfr8 hk9
     refine hK30 _ _ ?_
     refine zJ hfr9 rfl rfl (fun hb100 => ?_) (fun hb100 => ?_)
     ·try simp only [nqs] at hb100
      rw [if_pos (hp0.1 hb100)] at hrv
      refine ZE 4 (by kernel_rfl) ?_
      refine ZN (tch := []) hst9 hfr9 (by kernel_rfl) (by kernel_rfl) (by kernel_rfl) (.cons rfl (zG rfl) <| .cons rfl (zG rfl) <| .cons rfl (zG rfl) <| .cons rfl (zG rfl) <| .nil) fun a10 w10 m10 hst10 hle10 hk10 => ?_
      have hfr10 := hk10.fr (.o 0 <| .o 7 <| .o 8 <| .o 9 <| .o 10 <| .n 104 <| .n 105 <| .n 106 <| .n 107 <| .nil)
      clear hst9 hfr9 hk10
      have zq12 := hle9.trans hle10
      have zq13 := hle8.trans zq12
      have zq14 := hle7.trans zq13
      have zq15 := hle6.trans zq14
      replace hU := hU.mono zq15
      replace hP := hP.mono zq15
      refine Zi [] [_, _] [_] hst10 hfr10 rfl (.cons rfl <| .cons rfl <| .cons rfl <| .cons rfl <| .nil) call74 (row_r (n := pb.var) (l := p) (rv := pa.var) (U := U) hst10.agree (hst10.loc.at_ (k := 0) rfl) hU hP (hww.up (by omega)) (by omega) hIa) ?_
      intro vr11 w11 m11 rs11 hst11 hle11 hp11
      obtain ⟨q9, rfl, hU9⟩ := hp11
      simp only [List.nil_append, List.cons_append] at hst11
      have hfr11 := (hfr10.sub (T' := [(0, _), (7, _), (8, _), (9, _), (10, _), (104, _), (105, _), (106, _), (107, _)]) (.cons rfl <| .cons rfl <| .cons rfl <| .cons rfl <| .cons rfl <| .cons rfl <| .cons rfl <| .cons rfl <| .cons rfl <| .nil)).put (d := 108) (v := vr11) (by kernel_rfl) rfl
      clear hst10 hfr10
      refine hK11 _ _ ?_
      refine zE fun _ hK31 => ?_
      refine rp0 hst11 hfr11 (.cons rfl (zH rfl) <| .nil) fun a12 w12 m12 hst12 hle12 hk12 => ?_
      have hfr12 := hk12.fr (.n 6 <| .nil)
      clear hst11 hfr11 hk12
      refine hK31 _ _ ?_
      refine zU ?_
      repeat (with_reducible first | refine zL ?_ | refine zI ?_)
      replace hU9 := hU9.mono hle12
      exact zV hst12 hfr12 rfl (.tmp rfl <| .nil) (⟨q9, by rw [hrv]; exact (hst12.take 1).loc, by rw [hrv]; exact hU9, by rw [hrv]; rfl⟩)
     ·try simp only [nqs] at hb100
      rw [if_neg (fun h => hb100 (hp0.2 h))] at hrv
      refine zE fun _ hK33 => ?_
      refine rp0 hst9 hfr9 (.cons rfl (zG rfl) <| .cons rfl (zt rfl underlying41) <| .cons rfl (zq rfl rfl) <| .cons rfl (zH rfl) <| .nil) fun a10 w10 m10 hst10 hle10 hk10 => ?_
      have hfr10 := hk10.fr (.o 0 <| .o 7 <| .o 8 <| .o 9 <| .o 10 <| .n 109 <| .nil)
      clear hst9 hfr9 hk10
      refine hK33 _ _ ?_
      refine zJ hfr10 rfl rfl (fun hb109 => ?_) (fun hb109 => ?_)
      ·try simp only [nqs] at hb109
       rw [if_pos (hp0.1 hb109)] at hrv
       refine ZE 4 (by kernel_rfl) ?_
       refine ZN (tch := []) hst10 hfr10 (by kernel_rfl) (by kernel_rfl) (by kernel_rfl) (.cons rfl (zG rfl) <| .cons rfl (zG rfl) <| .cons rfl (zG rfl) <| .cons rfl (zG rfl) <| .nil) fun a11 w11 m11 hst11 hle11 hk11 => ?_
       have hfr11 := hk11.fr (.o 0 <| .o 7 <| .o 8 <| .o 9 <| .o 10 <| .n 113 <| .n 114 <| .n 115 <| .n 116 <| .nil)
       clear hst10 hfr10 hk11
       have zq16 := hle10.trans hle11
       have zq17 := hle9.trans zq16
       have zq18 := hle8.trans zq17
       have zq19 := hle7.trans zq18
       have zq20 := hle6.trans zq19
       replace hU := hU.mono zq20
       replace hK := hK.mono zq20
       refine Zi [] [_, _] [_] hst11 hfr11 rfl (.cons rfl <| .cons rfl <| .cons rfl <| .cons rfl <| .nil) call74 (row_r (n := pa.var) (l := k) (rv := pb.var) (U := U) hst11.agree (hst11.loc.at_ (k := 0) rfl) hU hK (hww.up (by omega)) (by omega) hIb) ?_
       intro vr12 w12 m12 rs12 hst12 hle12 hp12
       obtain ⟨q9, rfl, hU9⟩ := hp12
       simp only [List.nil_append, List.cons_append] at hst12
       have hfr12 := (hfr11.sub (T' := [(0, _), (7, _), (8, _), (9, _), (10, _), (113, _), (114, _), (115, _), (116, _)]) (.cons rfl <| .cons rfl <| .cons rfl <| .cons rfl <| .cons rfl <| .cons rfl <| .cons rfl <| .cons rfl <| .cons rfl <| .nil)).put (d := 117) (v := vr12) (by kernel_rfl) rfl
       clear hst11 hfr11
       refine hK11 _ _ ?_
       refine zE fun _ hK34 => ?_
       refine rp0 hst12 hfr12 (.cons rfl (zH rfl) <| .nil) fun a13 w13 m13 hst13 hle13 hk13 => ?_
       have hfr13 := hk13.fr (.n 6 <| .nil)
       clear hst12 hfr12 hk13
       refine hK34 _ _ ?_
       refine zU ?_
       repeat (with_reducible first | refine zL ?_ | refine zI ?_)
       replace hU9 := hU9.mono hle13
       exact zV hst13 hfr13 rfl (.tmp rfl <| .nil) (⟨q9, by rw [hrv]; exact (hst13.take 1).loc, by rw [hrv]; exact hU9, by rw [hrv]; rfl⟩)
      ·try simp only [nqs] at hb109
       rw [if_neg (fun h => hb109 (hp0.2 h))] at hrv
       refine zE fun _ hK36 => ?_
       refine rp0 hst10 hfr10 (.cons rfl (zG rfl) <| .cons rfl (zg rfl) <| .cons rfl (zF (off := 2) rfl underlying74 rfl rfl sizeOf3 rfl) <| .cons rfl (zW (j := 0) rfl rfl isAgg3 rfl) <| .cons rfl (zH rfl) <| .nil) fun a11 w11 m11 hst11 hle11 hk11 => ?_
       have hfr11 := hk11.fr (.o 0 <| .o 7 <| .o 8 <| .o 9 <| .o 10 <| .n 11 <| .nil)
       clear hst10 hfr10 hk11
       refine hK36 _ _ ?_
       refine zE fun _ hK37 => ?_
       refine ra0 (tch := [(7, 0, (fun _ => .blk _ _))]) hst11 hfr11 (.cons rfl (zG rfl) <| .cons rfl (zg rfl) <| .cons rfl (zF (off := 2) rfl underlying74 rfl rfl sizeOf3 rfl) <| .cons rfl (zW (j := 0) rfl rfl isAgg3 rfl) <| .cons rfl (zy rfl rfl ⟨by omega, by omega⟩) <| .cons rfl (zg rfl) <| .cons rfl (zF (off := 2) rfl underlying74 rfl rfl sizeOf3 rfl) <| .consT rfl rfl (fun _ => rfl) rfl (zAH rfl rfl rfl sizeOf3 rfl rfl rfl) <| .nil) fun a12 w12 m12 hst12 hle12 hk12 => ?_
       have hfr12 := hk12.fr (.o 0 <| .o 7 <| .o 8 <| .o 9 <| .o 10 <| .o 11 <| .nil)
       replace hst12 := hst12.fin (L' := [_, _, _]) (.cons rfl <| .nil)
       try simp only [List.take_succ_cons, List.take_zero, List.drop_succ_cons, List.drop_zero, List.cons_append, List.nil_append, List.append_nil, List.length_cons, List.length_nil, Nat.zero_add, Nat.reduceAdd] at hst12
       clear hst11 hfr11 hk12
       have hst12 : St [g] w m [UB g q (U.nx + 1), _, _] w12 m12 := hst12
       refine hK37 _ _ ?_
       refine zE fun _ hK38 => ?_
       refine ZE 4 (by kernel_rfl) ?_
       refine ZN (tch := []) hst12 hfr12 (by kernel_rfl) (by kernel_rfl) (by kernel_rfl) (.cons rfl (zG rfl) <| .cons rfl (zG rfl) <| .cons rfl (zG rfl) <| .cons rfl (zG rfl) <| .nil) fun a13 w13 m13 hst13 hle13 hk13 => ?_
       have hfr13 := hk13.fr (.o 0 <| .o 7 <| .o 8 <| .o 9 <| .o 10 <| .o 11 <| .n 49 <| .n 50 <| .n 51 <| .n 52 <| .nil)
       clear hst12 hfr12 hk13
       have zq21 := hle12.trans hle13
       have zq22 := hle11.trans zq21
       have zq23 := hle10.trans zq22
       have zq24 := hle9.trans zq23
       have zq25 := hle8.trans zq24
       have zq26 := hle7.trans zq25
       have zq27 := hle6.trans zq26
       replace hU := hU.mono zq27
       replace hK := hK.mono zq27
       refine Zi [] [_, _] [_] hst13 hfr13 rfl (.cons rfl <| .cons rfl <| .cons rfl <| .cons rfl <| .nil) call74 (row_r (n := pa.var) (l := k) (rv := U.nx) (U := ⟨U.s, U.nx + 1⟩) hst13.agree (hst13.loc.at_ (k := 0) rfl) hU hK (hww.up (by omega)) (by omega) ⟨by omega, by omega⟩) ?_
       intro vr14 w14 m14 rs14 hst14 hle14 hp14
       obtain ⟨q9, rfl, hU9⟩ := hp14
       simp only [List.nil_append, List.cons_append] at hst14
       have hfr14 := (hfr13.sub (T' := [(0, _), (7, _), (8, _), (9, _), (10, _), (11, _), (49, _), (50, _), (51, _), (52, _)]) (.cons rfl <| .cons rfl <| .cons rfl <| .cons rfl <| .cons rfl <| .cons rfl <| .cons rfl <| .cons rfl <| .cons rfl <| .cons rfl <| .nil)).put (d := 53) (v := vr14) (by kernel_rfl) rfl
       clear hst13 hfr13
       replace hU := hU.mono hle14
       have hw9 := thenR_w (A := 50000000) (B := 100000000) hU.apart hww (oneR_w (n := pa.var) (r := ⟨k, U.nx⟩) (by show k.length ≤ _; omega))
       refine hK38 _ _ ?_
       refine ZE 4 (by kernel_rfl) ?_
       refine ZN (tch := []) hst14 hfr14 (by kernel_rfl) (by kernel_rfl) (by kernel_rfl) (.cons rfl (zG rfl) <| .cons rfl (zG rfl) <| .cons rfl (zG rfl) <| .cons rfl (zG rfl) <| .nil) fun a15 w15 m15 hst15 hle15 hk15 => ?_
       have hfr15 := hk15.fr (.o 0 <| .o 7 <| .o 8 <| .o 9 <| .o 10 <| .o 11 <| .o 49 <| .o 50 <| .o 51 <| .o 52 <| .n 54 <| .n 55 <| .n 56 <| .n 57 <| .nil)
       clear hst14 hfr14 hk15
       have zq28 := hle14.trans hle15
       have zq29 := zq27.trans zq28
       replace hP := hP.mono zq29
       replace hU9 := hU9.mono hle15
       refine Zi [] [_, _] [_] hst15 hfr15 rfl (.cons rfl <| .cons rfl <| .cons rfl <| .cons rfl <| .nil) call74 (row_r (n := pb.var) (l := p) (rv := U.nx) (U := ⟨Z8 pa.var k U.nx U.s, U.nx + 1⟩) hst15.agree (hst15.loc.at_ (k := 0) rfl) hU9 hP (hw9.up (by omega)) (by omega) ⟨by omega, by omega⟩) ?_
       intro vr16 w16 m16 rs16 hst16 hle16 hp16
       obtain ⟨q10, rfl, hU10⟩ := hp16
       simp only [List.nil_append, List.cons_append] at hst16
       have hfr16 := (hfr15.sub (T' := [(0, _), (7, _), (8, _), (9, _), (10, _), (11, _), (49, _), (50, _), (51, _), (52, _), (54, _), (55, _), (56, _), (57, _)]) (.cons rfl <| .cons rfl <| .cons rfl <| .cons rfl <| .cons rfl <| .cons rfl <| .cons rfl <| .cons rfl <| .cons rfl <| .cons rfl <| .cons rfl <| .cons rfl <| .cons rfl <| .cons rfl <| .nil)).put (d := 58) (v := vr16) (by kernel_rfl) rfl
       clear hst15 hfr15
       refine hK11 _ _ ?_
       refine zE fun _ hK39 => ?_
       refine rp0 hst16 hfr16 (.cons rfl (zH rfl) <| .nil) fun a17 w17 m17 hst17 hle17 hk17 => ?_
       have hfr17 := hk17.fr (.n 6 <| .nil)
       clear hst16 hfr16 hk17
       refine hK39 _ _ ?_
       refine zU ?_
       repeat (with_reducible first | refine zL ?_ | refine zI ?_)
       replace hU10 := hU10.mono hle17
       exact zV hst17 hfr17 rfl (.tmp rfl <| .nil) (⟨q10, by rw [hrv]; exact (hst17.take 1).loc, by rw [hrv]; exact hU10, by rw [hrv]; rfl⟩)
end Go.Proofs.YtlidonjpgigocaaGreat
namespace Go.Proofs.YtlidonjpgigocaaGreat
open Go.Proofs.Tryz
set_option linter.all false
set_option maxRecDepth 4000
open Go.RowKit
def zCa (t : Ty) (i : Nat) : Ty := (t.args[i]?).getD zAu
theorem zCd {t : Ty} {i : Nat} {x : Ty} (h : t.args.drop i = x :: t.args.drop (i + 1)) : zCa t i = x := by
 have h1 : t.args[i]? = some x := by rw [← List.head?_drop, h]; rfl
 unfold zCa; rw [h1]; rfl
structure OkT (U : USt) (a : Ty) : Prop where
 w : wdT a ≤ 50000000
 c : ZH (zM U.s a) ≤ 100000000
def zCK : List (USt → Option (Int × USt)) → USt → Option (Int × USt)
 | [], U => some (0, U)
 | f :: l, U => match f U with
  | none => none
  | some r => if r.1 ≠ 0 then some r else zCK l r.2
theorem Z5 {f : USt → Option (Int × USt)} {l : List (USt → Option (Int × USt))} {U : USt} {R : Int × USt} (h : zCK (f :: l) U = some R) : ∃ r, f U = some r ∧ (if r.1 ≠ 0 then some r else zCK l r.2) = some R := by
 rw [zCK] at h
 cases hf : f U with
 | none => rw [hf] at h; cases h
 | some r => rw [hf] at h; exact ⟨r, rfl, h⟩
open Classical in
noncomputable def zFn (a b : Rw) (U : USt) : Option (Int × USt) := if OkS U ∧ a.labels.length ≤ 50000000 ∧ b.labels.length ≤ 50000000 then some (zAc a b U) else none
open Classical in
noncomputable def Zp (rec : Ty → Ty → USt → Option (Int × USt)) (a b : Ty) (U : USt) : Option (Int × USt) :=
 if a = b then some (0, U)
 else if a.kind = 7 then some (isU a.var b U)
 else if b.kind = 7 then some (isU b.var a U)
 else if a.kind ≠ b.kind ∨ a.args.length ≠ b.args.length then some (5, U)
 else if a.kind = 6 ∧ a.args.length = 1 then rec (zCa a 0) (zCa b 0) U
 else if a.kind = 5 ∧ a.args.length = 2 then zCK [rec (zCa a 0) (zCa b 0), zFn ⟨a.labels, a.rv⟩ ⟨b.labels, b.rv⟩, rec (zCa a 1) (zCa b 1)] U
 else some (5, U)
open Classical in
noncomputable def ZX : Nat → Ty → Ty → USt → Option (Int × USt)
 | 0, _, _, _ => none
 | k + 1, a, b, U => if OkS U ∧ OkT U a ∧ OkT U b then Zp (ZX k) (zM U.s a) (zM U.s b) U else none
theorem zCO {k : Nat} {a b : Ty} {U : USt} {R : Int × USt} (h : ZX (k + 1) a b U = some R) : (OkS U ∧ OkT U a ∧ OkT U b) ∧ Zp (ZX k) (zM U.s a) (zM U.s b) U = some R := by
 rw [ZX] at h
 split at h
 ·exact ⟨by assumption, h⟩
 ·cases h
theorem zDd {a b : Rw} {U : USt} {R : Int × USt} (h : zFn a b U = some R) : (OkS U ∧ a.labels.length ≤ 50000000 ∧ b.labels.length ≤ 50000000) ∧ zAc a b U = R := by
 unfold zFn at h
 split at h
 ·injection h with h; exact ⟨by assumption, h⟩
 ·cases h
structure Step where
 fid : Nat
 caps : List Value
 f : USt → Option (Int × USt)
abbrev Step.v (s : Step) : Value := .func (.func s.fid) #[] s.caps.toArray
abbrev Stps (m : Mem) (o : Option Addr) (n c : Nat) (l : List Step) : Prop := Sl (fun _ vs (s : Step) => vs = [s.v]) 1 m o n c l
theorem Stps.mono {m m' : Mem} {o : Option Addr} {n c : Nat} {l : List Step} (h : Stps m o n c l) (hm : MLe m m') : Stps m' o n c l := Sl.mono h (fun _ _ e => e) hm
theorem Stps.of {m : Mem} {p : Addr} {l : List Step} (h : CellsAt m p (l.map Step.v)) (hb : l.length ≤ 1000) : Stps m (some p) l.length l.length l :=
 Sl.of_row (f := fun x => [x.v]) (by rw [← List.map_eq_flatMap]; exact .inr ⟨p, rfl, h⟩) rfl (Nat.le_refl _) (by omega) (by omega) fun _ _ => ⟨rfl, rfl⟩
instance : RepR (fun (_ : Mem) vs (x : Step) => vs = [x.v]) := ⟨fun _ h => h, fun h => by subst h; rfl⟩
theorem zED {m : Mem} {t : Ty} {y : (Option Addr × Nat) × (Option Addr × Nat)} (h : TyR m t (tyV t y)) : Tys m y.1.1 t.args.length y.1.2 t.args ∧ Strs m y.2.1 t.labels.length y.2.2 t.labels ∧ Zg t.var ∧ Zg t.rv := by
 obtain ⟨o, c, o2, c2, e, hk, hs, _, hv, hr⟩ := h.open_
 obtain ⟨⟨a, b⟩, a2, b2⟩ := y
 simp only [tyV, List.cons.injEq, Value.slice.injEq, true_and, and_true] at e
 obtain ⟨⟨rfl, rfl⟩, ⟨rfl, rfl⟩⟩ := e
 exact ⟨hk, hs, hv, hr⟩
def TG (k : Nat) : Prop := ∀ (a b : Ty) (U : USt) (r : Int × USt), ZX k a b U = some r → ∀ (w : World) (m : Mem) (g : Nat) (q : QQ) (va vb : List Value), Agree w m → (UB g q U.nx).holds w m → SubQ m U.s (zAJ q) → TyR m a va → TyR m b vb →
 FnG Tryz.prog 38 #[.pointer (some ⟨g, 0, none⟩), .agg va.toArray, .agg vb.toArray] [g] w m (zDN g w.heap.size r)
set_option maxHeartbeats 1600000 in
theorem first_g {w : World} {m : Mem} {o_l : Option Addr} {c_l : Nat} {l : List Step} {g : Nat} {q : QQ} {U : USt} {R : Int × USt} (hA : Agree w m) (h_l : Stps m o_l l.length c_l l) (hr : (UB g q U.nx).holds w m) (hU : SubQ m U.s (zAJ q)) (hφ : ∀ s ∈ l, ∀ (U : USt) (r : Int × USt), s.f U = some r → ∀ (w : World) (m2 : Mem) (q : QQ), MLe m m2 → Agree w m2 → (UB g q U.nx).holds w m2 → SubQ m2 U.s (zAJ q) → FnG Tryz.prog s.fid s.caps.toArray [g] w m2 (zDN g w.heap.size r)) (hc : ∀ s ∈ l, ∀ (args : Array Value) (w : World), (callFunc s.fid args).run Tryz.prog w = .ok (.enter s.fid args) w) (hrun : zCK (l.map Step.f) U = some R) : FnG Tryz.prog 56 #[.slice o_l l.length c_l] [g] w m (zDN g w.heap.size (R)) := by
 have hb_l := h_l.big; have hc_l := h_l.cap
 refine zY (vs := [_]) func56 rfl rfl rfl fun a0 hfr0 => ?_
 have hst0 := zX hA (zBC hr (by simp [Res.blocks, ZB]))
 have hM : MLe m m := MLe.refl m
 refine zE fun _ hK1 => ?_
 refine rp0 hst0 hfr0 (.cons rfl (zH rfl) <| .nil) fun a1 w1 m1 hst1 hle1 hk1 => ?_
 have hfr1 := hk1.fr (.o 0 <| .nil)
 replace h_l := h_l.mono hle1
 replace hU := hU.mono hle1
 replace hM := hM.trans hle1
 clear hst0 hfr0 hk1
 refine hK1 _ _ ?_
 refine zE fun _ hK2 => ?_
 refine zE fun _ hK3 => ?_
 refine rp0 hst1 hfr1 (.cons rfl (zG rfl) <| .cons rfl (zt rfl underlying112) <| .cons rfl (zG rfl) <| .nil) fun a2 w2 m2 hst2 hle2 hk2 => ?_
 have hfr2 := hk2.fr (.n 6 <| .n 7 <| .n 8 <| .nil)
 replace h_l := h_l.mono hle2
 replace hU := hU.mono hle2
 replace hM := hM.trans hle2
 clear hst1 hfr1 hk2
 refine hK3 _ _ ?_
 refine zT ?_
 refine z6 (T := [(6, _), (7, _)]) (fun (y : Nat × USt × QQ) => ([(8, .int .i64 (y.1 : Int))] : List (Nat × Value))) (fun y => [UB g y.2.2 y.2.1.nx]) (fun (y : Nat × USt × QQ) m => (fun (y : Nat) (u : USt) (q2 : QQ) => (y ≤ l.length) ∧ (SubQ m u.s (zAJ q2)) ∧ (zCK ((l.drop y).map Step.f) u = some R)) y.1 y.2.1 y.2.2) (fun y => l.length - y.1) ((0, U, q)) ⟨hst2, MLe.refl _, hfr2.sub (.c <| .c <| .c <| .nil), ⟨Nat.zero_le _, hU, hrun⟩⟩ fun y a3 w3 m3 hh3 => ?_
 have hst3 := hh3.st; have hle3 := hh3.le; have hfr3 := hh3.fr; have hrel := hh3.rel; clear hh3
 replace h_l := h_l.mono hle3
 clear hst2 hfr2
 replace hM := hM.trans hle3
 obtain ⟨y, u, q2⟩ := y
 dsimp only at hrel hfr3 hst3
 obtain ⟨hyn, hJu, hJr⟩ := hrel
 have hlh3 := hle3
 refine zE fun _ hK5 => ?_
 refine rp0 hst3 hfr3 (.cons rfl (ZG rfl rfl) <| .nil) fun a4 w4 m4 hst4 hle4 hk4 => ?_
 have hfr4 := hk4.fr (.o 8 <| .o 6 <| .o 7 <| .n 9 <| .nil)
 replace h_l := h_l.mono hle4
 replace hJu := hJu.mono hle4
 have hlh4 := hlh3.trans hle4
 replace hM := hM.trans hle4
 clear hst3 hfr3 hk4
 refine hK5 _ _ ?_
 refine zE fun _ hK6 => ?_
 refine zJ hfr4 rfl rfl (fun hb9 => ?_) (fun hb9 => ?_)
 ·try simp only [nqs] at hb9
  refine zR ?_
  refine hK6 _ _ ?_
  refine zE fun _ hK7 => ?_
  refine zT ?_
  refine zE fun _ hK8 => ?_
  obtain ⟨p9, vs9, x9, ho9, hd9, hm_x9, ht9, hcv9, hl9, hv9⟩ := h_l.nth (k := y) (by omega)
  cases ho9
  subst hv9
  refine rp0 hst4 hfr4 (.cons rfl (zN (k := y) rfl rfl underlying112 sizeOf89 rfl (by omega)) <| .cons rfl (zr rfl hcv9 isAgg89 rfl) <| .cons rfl (zH rfl) <| .nil) fun a5 w5 m5 hst5 hle5 hk5 => ?_
  have hfr5 := hk5.fr (.o 8 <| .o 6 <| .o 7 <| .n 4 <| .nil)
  clear hst4 hfr4 hk5
  rw [hd9, List.map_cons] at hJr
  obtain ⟨r9, hr9, hJ9⟩ := Z5 hJr
  refine hK8 _ _ ?_
  refine zE fun _ hK10 => ?_
  refine ZE 2 (by kernel_rfl) ?_
  refine zEt 1 (by kernel_rfl) ?_
  refine ZN (tch := []) hst5 hfr5 (by kernel_rfl) (by kernel_rfl) (by kernel_rfl) (.cons rfl (zG rfl) <| .nil) fun a6 w6 m6 hst6 hle6 hk6 => ?_
  have hfr6 := hk6.fr (.o 8 <| .o 6 <| .o 7 <| .o 4 <| .n 12 <| .nil)
  clear hst5 hfr5 hk6
  have zq1 := hle5.trans hle6
  replace hJu := hJu.mono zq1
  replace hM := hM.trans zq1
  refine Zi [] [] [_] hst6 hfr6 rfl (.nil) (hc _ hm_x9) (up_R (hφ x9 hm_x9 u r9 hr9 _ _ q2 hM hst6.agree (hst6.loc.at_ (k := 0) rfl) hJu)) ?_
  intro vr7 w7 m7 rs7 hst7 hle7 hp7
  obtain ⟨q3, rfl, hU3, hvq9⟩ := hp7
  simp only [List.nil_append, List.cons_append] at hst7
  have hfr7 := (hfr6.sub (T' := [(8, _), (6, _), (7, _), (4, _), (12, _)]) (.cons rfl <| .cons rfl <| .cons rfl <| .cons rfl <| .cons rfl <| .nil)).put (d := 13) (v := vr7) (by kernel_rfl) rfl
  clear hst6 hfr6
  subst hvq9
  refine ZN (tch := []) hst7 hfr7 (by kernel_rfl) (by kernel_rfl) (by kernel_rfl) (.cons rfl (zH rfl) <| .nil) fun a8 w8 m8 hst8 hle8 hk8 => ?_
  have hfr8 := hk8.fr (.o 13 <| .o 8 <| .o 6 <| .o 7 <| .o 4 <| .o 12 <| .n 5 <| .nil)
  clear hst7 hfr7 hk8
  refine hK10 _ _ ?_
  refine zE fun _ hK11 => ?_
  refine rp0 hst8 hfr8 (.cons rfl (zG rfl) <| .cons rfl (Z6 rfl rfl) <| .nil) fun a9 w9 m9 hst9 hle9 hk9 => ?_
  have hfr9 := hk9.fr (.o 8 <| .o 6 <| .o 7 <| .o 5 <| .n 15 <| .nil)
  clear hst8 hfr8 hk9
  refine hK11 _ _ ?_
  refine zJ hfr9 rfl rfl (fun hb15 => ?_) (fun hb15 => ?_)
  ·try simp only [nqs] at hb15
   rw [if_pos hb15] at hJ9
   injection hJ9 with hJ9
   subst hJ9
   refine zE fun _ hK12 => ?_
   refine rp0 hst9 hfr9 (.cons rfl (zG rfl) <| .cons rfl (zH rfl) <| .nil) fun a10 w10 m10 hst10 hle10 hk10 => ?_
   have hfr10 := hk10.fr (.o 8 <| .n 2 <| .nil)
   clear hst9 hfr9 hk10
   refine hK12 _ _ ?_
   refine zU ?_
   repeat (with_reducible first | refine zL ?_ | refine zI ?_)
   have zq2 := hle9.trans hle10
   have zq3 := hle8.trans zq2
   replace hU3 := hU3.mono zq3
   exact zV hst10 hfr10 rfl (.tmp rfl <| .nil) (⟨q3, (hst10.take 1).loc, hU3, rfl⟩)
  ·try simp only [nqs] at hb15
   rw [if_neg (by omega)] at hJ9
   refine zR ?_
   refine hK7 _ _ ?_
   refine rp0 hst9 hfr9 (.cons rfl (zy rfl rfl ⟨by omega, by omega⟩) <| .cons rfl (zG rfl) <| .nil) fun a10 w10 m10 hst10 hle10 hk10 => ?_
   have hfr10 := hk10.fr (.o 6 <| .o 7 <| .n 8 <| .nil)
   clear hst9 hfr9 hk10
   have zq4 := hle9.trans hle10
   have zq5 := hle8.trans zq4
   replace hU3 := hU3.mono zq5
   have zq6 := hle7.trans zq5
   have zq7 := zq1.trans zq6
   have hlh10 := hlh4.trans zq7
   exact ⟨(y + 1, r9.2, q3), m10, by show l.length - (y + 1) < l.length - y; omega, ⟨hst10, hlh10, hfr10.sub (.c <| .c <| .c <| .nil), ⟨by show y + 1 ≤ l.length; omega, hU3, hJ9⟩⟩⟩
 ·try simp only [nqs] at hb9
  have hge : y = l.length := by omega
  rw [List.drop_of_length_le (by omega), List.map_nil, zCK] at hJr
  injection hJr with hJr
  subst hJr
  refine z7 ?_
  refine hK2 _ _ ?_
  refine zE fun _ hK14 => ?_
  refine rp0 hst4 hfr4 (.cons rfl (zH rfl) <| .nil) fun a5 w5 m5 hst5 hle5 hk5 => ?_
  have hfr5 := hk5.fr (.o 8 <| .n 2 <| .nil)
  clear hst4 hfr4 hk5
  refine hK14 _ _ ?_
  refine zU ?_
  repeat (with_reducible first | refine zL ?_ | refine zI ?_)
  replace hJu := hJu.mono hle5
  exact zV hst5 hfr5 rfl (.tmp rfl <| .nil) (⟨q2, (hst5.take 1).loc, hJu, rfl⟩)
set_option maxHeartbeats 1600000 in
theorem types1_g {w : World} {m : Mem} {px : Addr} {pa : Addr} {pb : Addr} {g : Nat} {q : QQ} {U : USt} {a b : Ty} {ya yb : (Option Addr × Nat) × (Option Addr × Nat)} {k : Nat} {r : Int × USt} (hA : Agree w m) (hpx : CellsAt m px [.pointer (some ⟨g, 0, none⟩)]) (hpa : CellsAt m pa (tyV a ya)) (hpb : CellsAt m pb (tyV b yb)) (hr : (UB g q U.nx).holds w m) (hU : SubQ m U.s (zAJ q)) (hTa : TyR m a (tyV a ya)) (hTb : TyR m b (tyV b yb)) (ih : TG k) (hl : a.args.length = 2 ∧ b.args.length = 2) (hrun : ZX k (zCa a 0) (zCa b 0) U = some r) : FnG Tryz.prog 57 #[.pointer (some px), .pointer (some pa), .pointer (some pb)] [g] w m (zDN g w.heap.size (r)) := by
 refine zY (vs := [_, _, _]) func57 rfl rfl rfl fun a0 hfr0 => ?_
 have hst0 := zX hA (zBC hr (by simp [Res.blocks, ZB]))
 have hM : MLe m m := MLe.refl m
 obtain ⟨⟨ya1, ya2⟩, ya3, ya4⟩ := ya
 obtain ⟨⟨yb1, yb2⟩, yb3, yb4⟩ := yb
 obtain ⟨hka, hsa, hva9, hra9⟩ := zED hTa
 obtain ⟨hkb, hsb, hvb9, hrb9⟩ := zED hTb
 have hla := hl.1
 have hlb := hl.2
 refine zE fun _ hK1 => ?_
 refine rp0 hst0 hfr0 (.cons rfl (zH rfl) <| .nil) fun a1 w1 m1 hst1 hle1 hk1 => ?_
 have hfr1 := hk1.fr (.o 0 <| .o 1 <| .o 2 <| .nil)
 replace hpx := hpx.mono hle1
 replace hpa := hpa.mono hle1
 replace hpb := hpb.mono hle1
 replace hTa := hTa.mono hle1
 replace hTb := hTb.mono hle1
 replace hka := hka.mono hle1
 replace hsa := hsa.mono hle1
 replace hkb := hkb.mono hle1
 replace hsb := hsb.mono hle1
 replace hU := hU.mono hle1
 replace hM := hM.trans hle1
 clear hst0 hfr0 hk1
 refine hK1 _ _ ?_
 refine zE fun _ hK2 => ?_
 obtain ⟨p3, vs3, x3, ho3, hd3, hm_x3, ht3, hcv3, hl3, hv3⟩ := hka.nth (k := 0) (by omega)
 cases ho3
 obtain ⟨o3, c3, oL3, cL3, rfl, hkd3, hs3, hi3, hj3, hr3⟩ := hv3.open_
 have hbg3 := hkd3.big; have hcp3 := hkd3.cap; have hbs3 := hs3.big; have hcs3 := hs3.cap
 have hrw3 : RwR _ ⟨x3.labels, x3.rv⟩ _ := ⟨_, _, rfl, hs3, hr3⟩
 have e1 := zCd hd3
 obtain ⟨p4, vs4, x4, ho4, hd4, hm_x4, ht4, hcv4, hl4, hv4⟩ := hkb.nth (k := 0) (by omega)
 cases ho4
 obtain ⟨o4, c4, oL4, cL4, rfl, hkd4, hs4, hi4, hj4, hr4⟩ := hv4.open_
 have hbg4 := hkd4.big; have hcp4 := hkd4.cap; have hbs4 := hs4.big; have hcs4 := hs4.cap
 have hrw4 : RwR _ ⟨x4.labels, x4.rv⟩ _ := ⟨_, _, rfl, hs4, hr4⟩
 have e2 := zCd hd4
 rw [e1, e2] at hrun
 refine zn (tch := [(9, 0, (fun _ => UK g r.2))]) (fun _ => mixed) hst1 hfr1 (by kernel_rfl) (by kernel_rfl) (by kernel_rfl) (.cons rfl (zr rfl hpx isAgg86 rfl) <| .cons rfl (zF (off := 3) rfl underlying45 rfl rfl sizeOf33 rfl) <| .cons rfl (zK rfl hpa isAgg33 rfl) <| .cons rfl (zN (k := 0) rfl rfl underlying33 sizeOf45 rfl (by omega)) <| .cons rfl (zS rfl hcv3 isAgg45 sizeOf45 rfl rfl) <| .cons rfl (zF (off := 3) rfl underlying45 rfl rfl sizeOf33 rfl) <| .cons rfl (zK rfl hpb isAgg33 rfl) <| .cons rfl (zN (k := 0) rfl rfl underlying33 sizeOf45 rfl (by omega)) <| .cons rfl (zS rfl hcv4 isAgg45 sizeOf45 rfl rfl) <| .consT rfl rfl (fun _ => rfl) rfl (ZV rfl (.cons rfl <| .cons rfl <| .cons rfl <| .nil) call38 (κ := .eq (.int .i64 r.1)) (fun σ w m hK hr hkn => by have hle_ := KC.le hK; have hA := KC.agree hK; have hM := hM.trans hle_; have hpx := hpx.mono hle_; have hpa := hpa.mono hle_; have hpb := hpb.mono hle_; have hTa := hTa.mono hle_; have hTb := hTb.mono hle_; have hka := hka.mono hle_; have hsa := hsa.mono hle_; have hkb := hkb.mono hle_; have hsb := hsb.mono hle_; have hU := hU.mono hle_; have hcv3 := hcv3.mono hle_; have hv3 := hv3.mono hle_; have hkd3 := hkd3.mono hle_; have hs3 := hs3.mono hle_; have hrw3 := hrw3.mono hle_; have hcv4 := hcv4.mono hle_; have hv4 := hv4.mono hle_; have hkd4 := hkd4.mono hle_; have hs4 := hs4.mono hle_; have hrw4 := hrw4.mono hle_; exact up_T (ih _ _ U r hrun _ _ g q _ _ hA hr hU hv3 hv4))) <| .cons rfl (zH rfl) <| .nil) fun a2 w2 m2 hst2 hle2 hk2 => ?_
 have hfr2 := hk2.fr (.n 3 <| .nil)
 replace hst2 := hst2.fin (L' := [_]) (.cons rfl <| .nil)
 clear hst1 hfr1 hk2
 obtain ⟨q3, hst2, hU3⟩ := zCM (k := 0) hst2 rfl
 simp only [List.set_cons_zero] at hst2
 refine hK2 _ _ ?_
 refine zU ?_
 repeat (with_reducible first | refine zL ?_ | refine zI ?_)
 exact zV hst2 hfr2 rfl (.tmp rfl <| .nil) (⟨q3, (hst2.take 1).loc, hU3, rfl⟩)
set_option maxHeartbeats 1600000 in
theorem types3_g {w : World} {m : Mem} {px : Addr} {pa : Addr} {pb : Addr} {g : Nat} {q : QQ} {U : USt} {a b : Ty} {ya yb : (Option Addr × Nat) × (Option Addr × Nat)} {k : Nat} {r : Int × USt} (hA : Agree w m) (hpx : CellsAt m px [.pointer (some ⟨g, 0, none⟩)]) (hpa : CellsAt m pa (tyV a ya)) (hpb : CellsAt m pb (tyV b yb)) (hr : (UB g q U.nx).holds w m) (hU : SubQ m U.s (zAJ q)) (hTa : TyR m a (tyV a ya)) (hTb : TyR m b (tyV b yb)) (ih : TG k) (hl : a.args.length = 2 ∧ b.args.length = 2) (hrun : ZX k (zCa a 1) (zCa b 1) U = some r) : FnG Tryz.prog 59 #[.pointer (some px), .pointer (some pa), .pointer (some pb)] [g] w m (zDN g w.heap.size (r)) := by
 refine zY (vs := [_, _, _]) func59 rfl rfl rfl fun a0 hfr0 => ?_
 have hst0 := zX hA (zBC hr (by simp [Res.blocks, ZB]))
 have hM : MLe m m := MLe.refl m
 obtain ⟨⟨ya1, ya2⟩, ya3, ya4⟩ := ya
 obtain ⟨⟨yb1, yb2⟩, yb3, yb4⟩ := yb
 obtain ⟨hka, hsa, hva9, hra9⟩ := zED hTa
 obtain ⟨hkb, hsb, hvb9, hrb9⟩ := zED hTb
 have hla := hl.1
 have hlb := hl.2
 refine zE fun _ hK1 => ?_
 refine rp0 hst0 hfr0 (.cons rfl (zH rfl) <| .nil) fun a1 w1 m1 hst1 hle1 hk1 => ?_
 have hfr1 := hk1.fr (.o 0 <| .o 1 <| .o 2 <| .nil)
 replace hpx := hpx.mono hle1
 replace hpa := hpa.mono hle1
 replace hpb := hpb.mono hle1
 replace hTa := hTa.mono hle1
 replace hTb := hTb.mono hle1
 replace hka := hka.mono hle1
 replace hsa := hsa.mono hle1
 replace hkb := hkb.mono hle1
 replace hsb := hsb.mono hle1
 replace hU := hU.mono hle1
 replace hM := hM.trans hle1
 clear hst0 hfr0 hk1
 refine hK1 _ _ ?_
 refine zE fun _ hK2 => ?_
 obtain ⟨p3, vs3, x3, ho3, hd3, hm_x3, ht3, hcv3, hl3, hv3⟩ := hka.nth (k := 1) (by omega)
 cases ho3
 obtain ⟨o3, c3, oL3, cL3, rfl, hkd3, hs3, hi3, hj3, hr3⟩ := hv3.open_
 have hbg3 := hkd3.big; have hcp3 := hkd3.cap; have hbs3 := hs3.big; have hcs3 := hs3.cap
 have hrw3 : RwR _ ⟨x3.labels, x3.rv⟩ _ := ⟨_, _, rfl, hs3, hr3⟩
 have e1 := zCd hd3
 obtain ⟨p4, vs4, x4, ho4, hd4, hm_x4, ht4, hcv4, hl4, hv4⟩ := hkb.nth (k := 1) (by omega)
 cases ho4
 obtain ⟨o4, c4, oL4, cL4, rfl, hkd4, hs4, hi4, hj4, hr4⟩ := hv4.open_
 have hbg4 := hkd4.big; have hcp4 := hkd4.cap; have hbs4 := hs4.big; have hcs4 := hs4.cap
 have hrw4 : RwR _ ⟨x4.labels, x4.rv⟩ _ := ⟨_, _, rfl, hs4, hr4⟩
 have e2 := zCd hd4
 rw [e1, e2] at hrun
 refine zn (tch := [(9, 0, (fun _ => UK g r.2))]) (fun _ => mixed) hst1 hfr1 (by kernel_rfl) (by kernel_rfl) (by kernel_rfl) (.cons rfl (zr rfl hpx isAgg86 rfl) <| .cons rfl (zF (off := 3) rfl underlying45 rfl rfl sizeOf33 rfl) <| .cons rfl (zK rfl hpa isAgg33 rfl) <| .cons rfl (zN (k := 1) rfl rfl underlying33 sizeOf45 rfl (by omega)) <| .cons rfl (zS rfl hcv3 isAgg45 sizeOf45 rfl rfl) <| .cons rfl (zF (off := 3) rfl underlying45 rfl rfl sizeOf33 rfl) <| .cons rfl (zK rfl hpb isAgg33 rfl) <| .cons rfl (zN (k := 1) rfl rfl underlying33 sizeOf45 rfl (by omega)) <| .cons rfl (zS rfl hcv4 isAgg45 sizeOf45 rfl rfl) <| .consT rfl rfl (fun _ => rfl) rfl (ZV rfl (.cons rfl <| .cons rfl <| .cons rfl <| .nil) call38 (κ := .eq (.int .i64 r.1)) (fun σ w m hK hr hkn => by have hle_ := KC.le hK; have hA := KC.agree hK; have hM := hM.trans hle_; have hpx := hpx.mono hle_; have hpa := hpa.mono hle_; have hpb := hpb.mono hle_; have hTa := hTa.mono hle_; have hTb := hTb.mono hle_; have hka := hka.mono hle_; have hsa := hsa.mono hle_; have hkb := hkb.mono hle_; have hsb := hsb.mono hle_; have hU := hU.mono hle_; have hcv3 := hcv3.mono hle_; have hv3 := hv3.mono hle_; have hkd3 := hkd3.mono hle_; have hs3 := hs3.mono hle_; have hrw3 := hrw3.mono hle_; have hcv4 := hcv4.mono hle_; have hv4 := hv4.mono hle_; have hkd4 := hkd4.mono hle_; have hs4 := hs4.mono hle_; have hrw4 := hrw4.mono hle_; exact up_T (ih _ _ U r hrun _ _ g q _ _ hA hr hU hv3 hv4))) <| .cons rfl (zH rfl) <| .nil) fun a2 w2 m2 hst2 hle2 hk2 => ?_
 have hfr2 := hk2.fr (.n 3 <| .nil)
 replace hst2 := hst2.fin (L' := [_]) (.cons rfl <| .nil)
 clear hst1 hfr1 hk2
 obtain ⟨q3, hst2, hU3⟩ := zCM (k := 0) hst2 rfl
 simp only [List.set_cons_zero] at hst2
 refine hK2 _ _ ?_
 refine zU ?_
 repeat (with_reducible first | refine zL ?_ | refine zI ?_)
 exact zV hst2 hfr2 rfl (.tmp rfl <| .nil) (⟨q3, (hst2.take 1).loc, hU3, rfl⟩)
set_option maxHeartbeats 1600000 in
theorem types2_g {w : World} {m : Mem} {px : Addr} {pa : Addr} {pb : Addr} {g : Nat} {q : QQ} {U : USt} {a b : Ty} {ya yb : (Option Addr × Nat) × (Option Addr × Nat)} {r : Int × USt} (hA : Agree w m) (hpx : CellsAt m px [.pointer (some ⟨g, 0, none⟩)]) (hpa : CellsAt m pa (tyV a ya)) (hpb : CellsAt m pb (tyV b yb)) (hr : (UB g q U.nx).holds w m) (hU : SubQ m U.s (zAJ q)) (hTa : TyR m a (tyV a ya)) (hTb : TyR m b (tyV b yb)) (hrun : zFn ⟨a.labels, a.rv⟩ ⟨b.labels, b.rv⟩ U = some r) : FnG Tryz.prog 58 #[.pointer (some px), .pointer (some pa), .pointer (some pb)] [g] w m (zDN g w.heap.size (r)) := by
 refine zY (vs := [_, _, _]) func58 rfl rfl rfl fun a0 hfr0 => ?_
 have hst0 := zX hA (zBC hr (by simp [Res.blocks, ZB]))
 have hM : MLe m m := MLe.refl m
 obtain ⟨⟨ya1, ya2⟩, ya3, ya4⟩ := ya
 obtain ⟨⟨yb1, yb2⟩, yb3, yb4⟩ := yb
 obtain ⟨hka, hsa, hva9, hra9⟩ := zED hTa
 obtain ⟨hkb, hsb, hvb9, hrb9⟩ := zED hTb
 obtain ⟨⟨hok, hwa, hwb⟩, rfl⟩ := zDd hrun
 refine zE fun _ hK1 => ?_
 refine rp0 hst0 hfr0 (.cons rfl (zH rfl) <| .nil) fun a1 w1 m1 hst1 hle1 hk1 => ?_
 have hfr1 := hk1.fr (.o 0 <| .o 1 <| .o 2 <| .nil)
 replace hpx := hpx.mono hle1
 replace hpa := hpa.mono hle1
 replace hpb := hpb.mono hle1
 replace hTa := hTa.mono hle1
 replace hTb := hTb.mono hle1
 replace hka := hka.mono hle1
 replace hsa := hsa.mono hle1
 replace hkb := hkb.mono hle1
 replace hsb := hsb.mono hle1
 replace hU := hU.mono hle1
 replace hM := hM.trans hle1
 clear hst0 hfr0 hk1
 refine hK1 _ _ ?_
 refine zE fun _ hK2 => ?_
 refine ra0 (tch := [(5, 0, (fun _ => UK g (zAc ⟨a.labels, a.rv⟩ ⟨b.labels, b.rv⟩ U).2))]) hst1 hfr1 (.cons rfl (zr rfl hpx isAgg86 rfl) <| .cons rfl (zF (off := 4) rfl underlying45 rfl rfl sizeOf43 rfl) <| .cons rfl (Zs rfl hpa isAgg43 sizeOf43 rfl rfl) <| .cons rfl (zF (off := 4) rfl underlying45 rfl rfl sizeOf43 rfl) <| .cons rfl (Zs rfl hpb isAgg43 sizeOf43 rfl rfl) <| .consT rfl rfl (fun _ => rfl) rfl (ZV rfl (.cons rfl <| .cons rfl <| .cons rfl <| .nil) call50 (κ := .eq (.int .i64 (zAc ⟨a.labels, a.rv⟩ ⟨b.labels, b.rv⟩ U).1)) (fun σ w m hK hr hkn => by have hle_ := KC.le hK; have hA := KC.agree hK; have hM := hM.trans hle_; have hpx := hpx.mono hle_; have hpa := hpa.mono hle_; have hpb := hpb.mono hle_; have hTa := hTa.mono hle_; have hTb := hTb.mono hle_; have hka := hka.mono hle_; have hsa := hsa.mono hle_; have hkb := hkb.mono hle_; have hsb := hsb.mono hle_; have hU := hU.mono hle_; exact up_T (rows_g (a := ⟨a.labels, a.rv⟩) (b := ⟨b.labels, b.rv⟩) hA hr hU ⟨_, _, rfl, hsa, hra9⟩ ⟨_, _, rfl, hsb, hrb9⟩ hok hwa hwb))) <| .cons rfl (zH rfl) <| .nil) fun a2 w2 m2 hst2 hle2 hk2 => ?_
 have hfr2 := hk2.fr (.n 3 <| .nil)
 replace hst2 := hst2.fin (L' := [_]) (.cons rfl <| .nil)
 clear hst1 hfr1 hk2
 obtain ⟨q3, hst2, hU3⟩ := zCM (k := 0) hst2 rfl
 simp only [List.set_cons_zero] at hst2
 refine hK2 _ _ ?_
 refine zU ?_
 repeat (with_reducible first | refine zL ?_ | refine zI ?_)
 exact zV hst2 hfr2 rfl (.tmp rfl <| .nil) (⟨q3, (hst2.take 1).loc, hU3, rfl⟩)
set_option maxHeartbeats 6400000 in
theorem types_s {w : World} {m : Mem} {g : Nat} {q : QQ} {U : USt} {a : Ty} {vs_a : List Value} {b : Ty} {vs_b : List Value} {k : Nat} {R : Int × USt} (hA : Agree w m) (hr : (UB g q U.nx).holds w m) (hU : SubQ m U.s (zAJ q)) (h_a : TyR m a vs_a) (h_b : TyR m b vs_b) (ih : TG k) (hrun : ZX (k + 1) a b U = some R) : FnG Tryz.prog 38 #[.pointer (some ⟨g, 0, none⟩), .agg vs_a.toArray, .agg vs_b.toArray] [g] w m (zDN g w.heap.size (R)) := by
 obtain ⟨o_a, c_a, oL_a, cL_a, rfl, hk_a, hs_a, hi_a, hj_a, hr_a⟩ := h_a.open_
 have hbg_a := hk_a.big; have hcp_a := hk_a.cap; have hbs_a := hs_a.big; have hcs_a := hs_a.cap
 have hrw_a : RwR _ ⟨a.labels, a.rv⟩ _ := ⟨_, _, rfl, hs_a, hr_a⟩
 obtain ⟨o_b, c_b, oL_b, cL_b, rfl, hk_b, hs_b, hi_b, hj_b, hr_b⟩ := h_b.open_
 have hbg_b := hk_b.big; have hcp_b := hk_b.cap; have hbs_b := hs_b.big; have hcs_b := hs_b.cap
 have hrw_b : RwR _ ⟨b.labels, b.rv⟩ _ := ⟨_, _, rfl, hs_b, hr_b⟩
 refine zY (vs := [_, _, _]) func38 rfl rfl rfl fun a0 hfr0 => ?_
 have hst0 := zX hA (zBC hr (by simp [Res.blocks, ZB]))
 have hM : MLe m m := MLe.refl m
 obtain ⟨⟨hok, hoa, hob⟩, hB⟩ := zCO hrun
 clear hrun
 have hww := hok.w
 have hwa := hoa.w
 have hwb := hob.w
 have hca := hoa.c
 have hcb := hob.c
 have hda := zBa hww a
 have hdb := zBa hww b
 obtain ⟨pa, hpa⟩ : ∃ x, x = zM U.s a := ⟨_, rfl⟩
 obtain ⟨pb, hpb⟩ : ∃ x, x = zM U.s b := ⟨_, rfl⟩
 rw [← hpa, ← hpb] at hB
 rw [← hpa] at hda hca
 rw [← hpb] at hdb hcb
 have hsm := zFC pa pb
 refine zE fun _ hK1 => ?_
 replace hst0 := hst0.more (r := .free) trivial List.nodup_nil (by simp [Res.blocks])
 replace hst0 := hst0.more (r := .free) trivial List.nodup_nil (by simp [Res.blocks])
 refine ra0 (tch := [(1, 1, (fun v => .blk v _)), (2, 2, (fun v => .blk v _))]) hst0 hfr0 (.cons rfl (ZA rfl rfl) <| .consT rfl rfl (fun _ => rfl) rfl (zAR rfl rfl) <| .consT rfl rfl (fun _ => rfl) rfl (zAR rfl rfl) <| .cons rfl (zH rfl) <| .nil) fun a1 w1 m1 hst1 hle1 hk1 => ?_
 have hfr1 := hk1.fr (.nil)
 obtain ⟨g3, e2, hc3⟩ := hk1.ex 3 rfl
 replace hfr1 := hfr1.cons e2
 obtain ⟨gA, e3, _⟩ := hk1.ex 4 rfl
 replace hfr1 := hfr1.cons e3
 obtain ⟨gB, e4, _⟩ := hk1.ex 5 rfl
 replace hfr1 := hfr1.cons e4
 replace hst1 := hst1.fin (L' := [_, _, _]) (.cons e3 <| .cons e4 <| .nil)
 replace h_a := h_a.mono hle1
 replace hk_a := hk_a.mono hle1
 replace hs_a := hs_a.mono hle1
 replace hrw_a := hrw_a.mono hle1
 replace h_b := h_b.mono hle1
 replace hk_b := hk_b.mono hle1
 replace hs_b := hs_b.mono hle1
 replace hrw_b := hrw_b.mono hle1
 replace hU := hU.mono hle1
 replace hM := hM.trans hle1
 clear hst0 hfr0 hk1
 refine hK1 _ _ ?_
 refine zE fun _ hK5 => ?_
 refine zn (tch := [(12, 1, (fun _ => .blkx _ _ _)), (13, 2, (fun _ => .blkx _ _ _))]) (fun _ => mixed) hst1 hfr1 (by kernel_rfl) (by kernel_rfl) (by kernel_rfl) (.cons rfl (zr rfl hc3 isAgg86 rfl) <| .cons rfl (zg rfl) <| .cons rfl (zF (off := 0) rfl underlying74 rfl rfl sizeOf29 rfl) <| .cons rfl (Za (j := 0) rfl rfl isAgg29 sizeOf29 rfl rfl) <| .cons rfl (zh (j := 1) rfl rfl isAgg45 sizeOf45 rfl) <| .cons rfl (zZ (φ := MP.ty pa) rfl (.cons rfl <| .cons rfl <| .nil) call17 (fun w m hK => by have hle_ := KC.le hK; have hA := KC.agree hK; have h_a := h_a.mono hle_; have hU := hU.mono hle_; exact FnG.mono ((by rw [hpa]; exact zDi a hA hU h_a (hww.up (by omega)) (by omega))) fun _ _ _ _ h => h)) <| .cons rfl (zr rfl hc3 isAgg86 rfl) <| .cons rfl (zg rfl) <| .cons rfl (zF (off := 0) rfl underlying74 rfl rfl sizeOf29 rfl) <| .cons rfl (Za (j := 0) rfl rfl isAgg29 sizeOf29 rfl rfl) <| .cons rfl (zh (j := 2) rfl rfl isAgg45 sizeOf45 rfl) <| .cons rfl (zZ (φ := MP.ty pb) rfl (.cons rfl <| .cons rfl <| .nil) call17 (fun w m hK => by have hle_ := KC.le hK; have hA := KC.agree hK; have h_b := h_b.mono hle_; have hU := hU.mono hle_; exact FnG.mono ((by rw [hpb]; exact zDi b hA hU h_b (hww.up (by omega)) (by omega))) fun _ _ _ _ h => h)) <| .consT rfl rfl (fun _ => rfl) rfl (ZL 12 rfl rfl rfl fun y12 => zm rfl rfl rfl sizeOf45 rfl rfl rfl) <| .consT rfl rfl (fun _ => rfl) rfl (ZL 18 rfl rfl rfl fun y18 => zm rfl rfl rfl sizeOf45 rfl rfl rfl) <| .nil) fun a2 w2 m2 hst2 hle2 hk2 => ?_
 have hfr2 := hk2.fr (.o 3 <| .o 4 <| .o 5 <| .nil)
 replace hst2 := hst2.fin (L' := [_, _, _]) (.cons rfl <| .cons rfl <| .nil)
 try simp only [List.take_succ_cons, List.take_zero, List.drop_succ_cons, List.drop_zero, List.cons_append, List.nil_append, List.append_nil, List.length_cons, List.length_nil, Nat.zero_add, Nat.reduceAdd] at hst2
 obtain ⟨⟨⟨oa1, ca1⟩, oa2, ca2⟩, hTa, hst2⟩ := hst2.unx (k := 1) rfl (fun _ => rfl)
 obtain ⟨⟨⟨ob1, cb1⟩, ob2, cb2⟩, hTb, hst2⟩ := hst2.unx (k := 2) rfl (fun _ => rfl)
 replace h_a := h_a.mono hle2
 replace hk_a := hk_a.mono hle2
 replace hs_a := hs_a.mono hle2
 replace hrw_a := hrw_a.mono hle2
 replace h_b := h_b.mono hle2
 replace hk_b := hk_b.mono hle2
 replace hs_b := hs_b.mono hle2
 replace hrw_b := hrw_b.mono hle2
 replace hU := hU.mono hle2
 replace hc3 := hc3.mono hle2
 replace hM := hM.trans hle2
 clear hst1 hfr1 hk2
 obtain ⟨hkpa, hspa, hva9, hra9⟩ := zED hTa
 obtain ⟨hkpb, hspb, hvb9, hrb9⟩ := zED hTb
 obtain ⟨m3, hle3, hst3, hB_A⟩ := hst2.freezeB (k := 1) rfl
 simp only [List.set_cons_succ, List.set_cons_zero] at hst3
 have hfr3 := hfr2; obtain ⟨a3, rfl⟩ : ∃ a, a = a2 := ⟨_, rfl⟩; obtain ⟨w3, rfl⟩ : ∃ w, w = w2 := ⟨_, rfl⟩
 replace h_a := h_a.mono hle3
 replace hk_a := hk_a.mono hle3
 replace hs_a := hs_a.mono hle3
 replace hrw_a := hrw_a.mono hle3
 replace h_b := h_b.mono hle3
 replace hk_b := hk_b.mono hle3
 replace hs_b := hs_b.mono hle3
 replace hrw_b := hrw_b.mono hle3
 replace hU := hU.mono hle3
 replace hc3 := hc3.mono hle3
 replace hTa := hTa.mono hle3
 replace hTb := hTb.mono hle3
 replace hkpa := hkpa.mono hle3
 replace hspa := hspa.mono hle3
 replace hkpb := hkpb.mono hle3
 replace hspb := hspb.mono hle3
 replace hM := hM.trans hle3
 clear hst2 hfr2
 obtain ⟨m4, hle4, hst4, hB_B⟩ := hst3.freezeB (k := 2) rfl
 simp only [List.set_cons_succ, List.set_cons_zero] at hst4
 have hfr4 := hfr3; obtain ⟨a4, rfl⟩ : ∃ a, a = a3 := ⟨_, rfl⟩; obtain ⟨w4, rfl⟩ : ∃ w, w = w3 := ⟨_, rfl⟩
 replace h_a := h_a.mono hle4
 replace hk_a := hk_a.mono hle4
 replace hs_a := hs_a.mono hle4
 replace hrw_a := hrw_a.mono hle4
 replace h_b := h_b.mono hle4
 replace hk_b := hk_b.mono hle4
 replace hs_b := hs_b.mono hle4
 replace hrw_b := hrw_b.mono hle4
 replace hU := hU.mono hle4
 replace hc3 := hc3.mono hle4
 replace hTa := hTa.mono hle4
 replace hTb := hTb.mono hle4
 replace hkpa := hkpa.mono hle4
 replace hspa := hspa.mono hle4
 replace hkpb := hkpb.mono hle4
 replace hspb := hspb.mono hle4
 replace hB_A := hB_A.mono hle4
 replace hM := hM.trans hle4
 clear hst3 hfr3
 refine hK5 _ _ ?_
 refine zE fun _ hK8 => ?_
 refine zT ?_
 refine zE fun _ hK9 => ?_
 refine rp0 hst4 hfr4 (.cons rfl (zS rfl hB_A isAgg45 sizeOf45 rfl rfl) <| .cons rfl (zS rfl hB_B isAgg45 sizeOf45 rfl rfl) <| .cons rfl (zp rfl (.cons rfl <| .cons rfl <| .nil) call54 (fun w m hK => by have hle_ := KC.le hK; have hA := KC.agree hK; have hTa := hTa.mono hle_; have hTb := hTb.mono hle_; exact same_c pa (u := pb) hA hTa hTb)) <| .cons rfl (zH rfl) <| .nil) fun a5 w5 m5 hst5 hle5 hk5 => ?_
 have hfr5 := hk5.fr (.o 3 <| .o 4 <| .o 5 <| .n 19 <| .nil)
 replace h_a := h_a.mono hle5
 replace hk_a := hk_a.mono hle5
 replace hs_a := hs_a.mono hle5
 replace hrw_a := hrw_a.mono hle5
 replace h_b := h_b.mono hle5
 replace hk_b := hk_b.mono hle5
 replace hs_b := hs_b.mono hle5
 replace hrw_b := hrw_b.mono hle5
 replace hU := hU.mono hle5
 replace hc3 := hc3.mono hle5
 replace hTa := hTa.mono hle5
 replace hTb := hTb.mono hle5
 replace hkpa := hkpa.mono hle5
 replace hspa := hspa.mono hle5
 replace hkpb := hkpb.mono hle5
 replace hspb := hspb.mono hle5
 replace hB_A := hB_A.mono hle5
 replace hB_B := hB_B.mono hle5
 replace hM := hM.trans hle5
 clear hst4 hfr4 hk5
 refine hK9 _ _ ?_
 refine zJ hfr5 rfl rfl (fun hb19 => ?_) (fun hb19 => ?_)
 ·try simp only [nqs] at hb19
  have he9 := hsm.1 hb19
  rw [Zp, if_pos he9] at hB
  injection hB with hB
  subst hB
  refine zE fun _ hK10 => ?_
  refine rp0 hst5 hfr5 (.cons rfl (zH rfl) <| .nil) fun a6 w6 m6 hst6 hle6 hk6 => ?_
  have hfr6 := hk6.fr (.n 6 <| .nil)
  clear hst5 hfr5 hk6
  refine hK10 _ _ ?_
  refine zU ?_
  repeat (with_reducible first | refine zL ?_ | refine zI ?_)
  replace hU := hU.mono hle6
  exact zV hst6 hfr6 rfl (.tmp rfl <| .nil) (⟨q, (hst6.take 1).loc, hU, rfl⟩)
 ·try simp only [nqs] at hb19
  have he9 : ¬ pa = pb := fun h => by rw [hsm.2 h] at hb19; cases hb19
  rw [Zp, if_neg he9] at hB
  refine zE fun _ hK12 => ?_
  refine rp0 hst5 hfr5 (.cons rfl (zF (off := 0) rfl underlying45 rfl rfl sizeOf3 rfl) <| .cons rfl (zK rfl hB_A isAgg3 rfl) <| .cons rfl (zq rfl rfl) <| .cons rfl (zH rfl) <| .nil) fun a6 w6 m6 hst6 hle6 hk6 => ?_
  have hfr6 := hk6.fr (.o 3 <| .o 4 <| .o 5 <| .n 23 <| .nil)
  clear hst5 hfr5 hk6
  refine hK12 _ _ ?_
  refine zJ hfr6 rfl rfl (fun hb23 => ?_) (fun hb23 => ?_)
  ·try simp only [nqs] at hb23
   rw [if_pos hb23] at hB
   injection hB with hB
   subst hB
   refine zE fun _ hK13 => ?_
   replace h_a := h_a.mono hle6
   replace hk_a := hk_a.mono hle6
   replace hs_a := hs_a.mono hle6
   replace hrw_a := hrw_a.mono hle6
   replace h_b := h_b.mono hle6
   replace hk_b := hk_b.mono hle6
   replace hs_b := hs_b.mono hle6
   replace hrw_b := hrw_b.mono hle6
   replace hU := hU.mono hle6
   replace hc3 := hc3.mono hle6
   replace hTa := hTa.mono hle6
   replace hTb := hTb.mono hle6
   replace hkpa := hkpa.mono hle6
   replace hspa := hspa.mono hle6
   replace hkpb := hkpb.mono hle6
   replace hspb := hspb.mono hle6
   replace hB_A := hB_A.mono hle6
   replace hB_B := hB_B.mono hle6
   replace hM := hM.trans hle6
   refine ra0 (tch := [(4, 0, (fun _ => UK g (isU pa.var pb U).2))]) hst6 hfr6 (.cons rfl (zr rfl hc3 isAgg86 rfl) <| .cons rfl (zF (off := 2) rfl underlying45 rfl rfl sizeOf3 rfl) <| .cons rfl (zK rfl hB_A isAgg3 rfl) <| .cons rfl (zS rfl hB_B isAgg45 sizeOf45 rfl rfl) <| .consT rfl rfl (fun _ => rfl) rfl (ZV rfl (.cons rfl <| .cons rfl <| .cons rfl <| .nil) call55 (κ := .eq (.int .i64 (isU pa.var pb U).1)) (fun σ w m hK hr hkn => by have hle_ := KC.le hK; have hA := KC.agree hK; have hM := hM.trans hle_; have h_a := h_a.mono hle_; have hk_a := hk_a.mono hle_; have hs_a := hs_a.mono hle_; have hrw_a := hrw_a.mono hle_; have h_b := h_b.mono hle_; have hk_b := hk_b.mono hle_; have hs_b := hs_b.mono hle_; have hrw_b := hrw_b.mono hle_; have hU := hU.mono hle_; have hc3 := hc3.mono hle_; have hTa := hTa.mono hle_; have hTb := hTb.mono hle_; have hkpa := hkpa.mono hle_; have hspa := hspa.mono hle_; have hkpb := hkpb.mono hle_; have hspb := hspb.mono hle_; have hB_A := hB_A.mono hle_; have hB_B := hB_B.mono hle_; exact up_T (is_g (n := pa.var) (t := pb) hA hr hU hTb hok (by omega) (by omega)))) <| .cons rfl (zH rfl) <| .nil) fun a7 w7 m7 hst7 hle7 hk7 => ?_
   have hfr7 := hk7.fr (.n 6 <| .nil)
   replace hst7 := hst7.fin (L' := [_, _, _]) (.cons rfl <| .nil)
   clear hst6 hfr6 hk7
   obtain ⟨q3, hst7, hU3⟩ := zCM (k := 0) hst7 rfl
   simp only [List.set_cons_zero] at hst7
   refine hK13 _ _ ?_
   refine zU ?_
   repeat (with_reducible first | refine zL ?_ | refine zI ?_)
   exact zV hst7 hfr7 rfl (.tmp rfl <| .nil) (⟨q3, (hst7.take 1).loc, hU3, rfl⟩)
  ·try simp only [nqs] at hb23
   rw [if_neg hb23] at hB
   refine zE fun _ hK15 => ?_
   replace hB_B := hB_B.mono hle6
   refine rp0 hst6 hfr6 (.cons rfl (zF (off := 0) rfl underlying45 rfl rfl sizeOf3 rfl) <| .cons rfl (zK rfl hB_B isAgg3 rfl) <| .cons rfl (zq rfl rfl) <| .cons rfl (zH rfl) <| .nil) fun a7 w7 m7 hst7 hle7 hk7 => ?_
   have hfr7 := hk7.fr (.o 3 <| .o 4 <| .o 5 <| .n 32 <| .nil)
   clear hst6 hfr6 hk7
   refine hK15 _ _ ?_
   refine zJ hfr7 rfl rfl (fun hb32 => ?_) (fun hb32 => ?_)
   ·try simp only [nqs] at hb32
    rw [if_pos hb32] at hB
    injection hB with hB
    subst hB
    refine zE fun _ hK16 => ?_
    have zq1 := hle6.trans hle7
    replace h_a := h_a.mono zq1
    replace hk_a := hk_a.mono zq1
    replace hs_a := hs_a.mono zq1
    replace hrw_a := hrw_a.mono zq1
    replace h_b := h_b.mono zq1
    replace hk_b := hk_b.mono zq1
    replace hs_b := hs_b.mono zq1
    replace hrw_b := hrw_b.mono zq1
    replace hU := hU.mono zq1
    replace hc3 := hc3.mono zq1
    replace hTa := hTa.mono zq1
    replace hTb := hTb.mono zq1
    replace hkpa := hkpa.mono zq1
    replace hspa := hspa.mono zq1
    replace hkpb := hkpb.mono zq1
    replace hspb := hspb.mono zq1
    replace hB_A := hB_A.mono zq1
    replace hM := hM.trans zq1
    replace hB_B := hB_B.mono hle7
    refine ra0 (tch := [(4, 0, (fun _ => UK g (isU pb.var pa U).2))]) hst7 hfr7 (.cons rfl (zr rfl hc3 isAgg86 rfl) <| .cons rfl (zF (off := 2) rfl underlying45 rfl rfl sizeOf3 rfl) <| .cons rfl (zK rfl hB_B isAgg3 rfl) <| .cons rfl (zS rfl hB_A isAgg45 sizeOf45 rfl rfl) <| .consT rfl rfl (fun _ => rfl) rfl (ZV rfl (.cons rfl <| .cons rfl <| .cons rfl <| .nil) call55 (κ := .eq (.int .i64 (isU pb.var pa U).1)) (fun σ w m hK hr hkn => by have hle_ := KC.le hK; have hA := KC.agree hK; have hM := hM.trans hle_; have h_a := h_a.mono hle_; have hk_a := hk_a.mono hle_; have hs_a := hs_a.mono hle_; have hrw_a := hrw_a.mono hle_; have h_b := h_b.mono hle_; have hk_b := hk_b.mono hle_; have hs_b := hs_b.mono hle_; have hrw_b := hrw_b.mono hle_; have hU := hU.mono hle_; have hc3 := hc3.mono hle_; have hTa := hTa.mono hle_; have hTb := hTb.mono hle_; have hkpa := hkpa.mono hle_; have hspa := hspa.mono hle_; have hkpb := hkpb.mono hle_; have hspb := hspb.mono hle_; have hB_A := hB_A.mono hle_; have hB_B := hB_B.mono hle_; exact up_T (is_g (n := pb.var) (t := pa) hA hr hU hTa hok (by omega) (by omega)))) <| .cons rfl (zH rfl) <| .nil) fun a8 w8 m8 hst8 hle8 hk8 => ?_
    have hfr8 := hk8.fr (.n 6 <| .nil)
    replace hst8 := hst8.fin (L' := [_, _, _]) (.cons rfl <| .nil)
    clear hst7 hfr7 hk8
    obtain ⟨q3, hst8, hU3⟩ := zCM (k := 0) hst8 rfl
    simp only [List.set_cons_zero] at hst8
    refine hK16 _ _ ?_
    refine zU ?_
    repeat (with_reducible first | refine zL ?_ | refine zI ?_)
    exact zV hst8 hfr8 rfl (.tmp rfl <| .nil) (⟨q3, (hst8.take 1).loc, hU3, rfl⟩)
   ·try simp only [nqs] at hb32
    rw [if_neg hb32] at hB
    refine zE fun _ hK18 => ?_
    have zq2 := hle6.trans hle7
    replace hB_A := hB_A.mono zq2
    replace hB_B := hB_B.mono hle7
    refine rp0 hst7 hfr7 (.cons rfl (zF (off := 0) rfl underlying45 rfl rfl sizeOf3 rfl) <| .cons rfl (zK rfl hB_A isAgg3 rfl) <| .cons rfl (zF (off := 0) rfl underlying45 rfl rfl sizeOf3 rfl) <| .cons rfl (zK rfl hB_B isAgg3 rfl) <| .cons rfl (Z6 rfl rfl) <| .cons rfl (zG rfl) <| .cons rfl (zF (off := 3) rfl underlying45 rfl rfl sizeOf33 rfl) <| .cons rfl (zK rfl hB_A isAgg33 rfl) <| .cons rfl (zt rfl underlying33) <| .cons rfl (zF (off := 3) rfl underlying45 rfl rfl sizeOf33 rfl) <| .cons rfl (zK rfl hB_B isAgg33 rfl) <| .cons rfl (zt rfl underlying33) <| .cons rfl (Z6 rfl rfl) <| .cons rfl (zAq rfl rfl rfl) <| .cons rfl (zH rfl) <| .nil) fun a8 w8 m8 hst8 hle8 hk8 => ?_
    have hfr8 := hk8.fr (.o 3 <| .o 4 <| .o 5 <| .n 41 <| .nil)
    clear hst7 hfr7 hk8
    refine hK18 _ _ ?_
    refine zJ hfr8 rfl rfl (fun hb41 => ?_) (fun hb41 => ?_)
    ·try simp only [nqs] at hb41
     rw [if_pos (by rcases hb41 with h | h; (exact .inl h); exact .inr (by omega))] at hB
     injection hB with hB
     subst hB
     refine zE fun _ hK19 => ?_
     refine rp0 hst8 hfr8 (.cons rfl (zH rfl) <| .nil) fun a9 w9 m9 hst9 hle9 hk9 => ?_
     have hfr9 := hk9.fr (.n 6 <| .nil)
     clear hst8 hfr8 hk9
     refine hK19 _ _ ?_
     refine zU ?_
     repeat (with_reducible first | refine zL ?_ | refine zI ?_)
     have zq3 := hle8.trans hle9
     have zq4 := zq2.trans zq3
     replace hU := hU.mono zq4
     exact zV hst9 hfr9 rfl (.tmp rfl <| .nil) (⟨q, (hst9.take 1).loc, hU, rfl⟩)
    ·try simp only [nqs] at hb41
     have hc41 : ¬ (pa.kind ≠ pb.kind ∨ pa.args.length ≠ pb.args.length) := fun h => by rcases h with h | h; (exact h hb41.1); exact h (by omega)
     rw [if_neg hc41] at hB
     have hln : pa.args.length = pb.args.length := by omega
     refine zE fun _ hK21 => ?_
     replace hB_A := hB_A.mono hle8
     refine rp0 hst8 hfr8 (.cons rfl (zF (off := 0) rfl underlying45 rfl rfl sizeOf3 rfl) <| .cons rfl (zK rfl hB_A isAgg3 rfl) <| .cons rfl (zq rfl rfl) <| .cons rfl (zG rfl) <| .cons rfl (zF (off := 3) rfl underlying45 rfl rfl sizeOf33 rfl) <| .cons rfl (zK rfl hB_A isAgg33 rfl) <| .cons rfl (zt rfl underlying33) <| .cons rfl (zq rfl rfl) <| .cons rfl (z8 rfl rfl rfl) <| .cons rfl (zH rfl) <| .nil) fun a9 w9 m9 hst9 hle9 hk9 => ?_
     have hfr9 := hk9.fr (.o 3 <| .o 4 <| .o 5 <| .n 56 <| .nil)
     clear hst8 hfr8 hk9
     refine hK21 _ _ ?_
     refine zJ hfr9 rfl rfl (fun hb56 => ?_) (fun hb56 => ?_)
     ·try simp only [nqs] at hb56
      have hc56 : pa.kind = 6 ∧ pa.args.length = 1 := ⟨hb56.1, by omega⟩
      rw [if_pos hc56] at hB
      have hl1 := hc56.2
      refine zE fun _ hK22 => ?_
      have zq5 := hle8.trans hle9
      have zq6 := zq2.trans zq5
      replace hkpa := hkpa.mono zq6
      obtain ⟨p23, vs23, x23, ho23, hd23, hm_x23, ht23, hcv23, hl23, hv23⟩ := hkpa.nth (k := 0) (by omega)
      cases ho23
      obtain ⟨o23, c23, oL23, cL23, rfl, hkd23, hs23, hi23, hj23, hr23⟩ := hv23.open_
      have hbg23 := hkd23.big; have hcp23 := hkd23.cap; have hbs23 := hs23.big; have hcs23 := hs23.cap
      have hrw23 : RwR _ ⟨x23.labels, x23.rv⟩ _ := ⟨_, _, rfl, hs23, hr23⟩
      have e1 := zCd hd23
      replace hkpb := hkpb.mono zq6
      obtain ⟨p24, vs24, x24, ho24, hd24, hm_x24, ht24, hcv24, hl24, hv24⟩ := hkpb.nth (k := 0) (by omega)
      cases ho24
      obtain ⟨o24, c24, oL24, cL24, rfl, hkd24, hs24, hi24, hj24, hr24⟩ := hv24.open_
      have hbg24 := hkd24.big; have hcp24 := hkd24.cap; have hbs24 := hs24.big; have hcs24 := hs24.cap
      have hrw24 : RwR _ ⟨x24.labels, x24.rv⟩ _ := ⟨_, _, rfl, hs24, hr24⟩
      have e2 := zCd hd24
      rw [e1, e2] at hB
      replace h_a := h_a.mono zq6
      replace hk_a := hk_a.mono zq6
      replace hs_a := hs_a.mono zq6
      replace hrw_a := hrw_a.mono zq6
      replace h_b := h_b.mono zq6
      replace hk_b := hk_b.mono zq6
      replace hs_b := hs_b.mono zq6
      replace hrw_b := hrw_b.mono zq6
      replace hU := hU.mono zq6
      replace hc3 := hc3.mono zq6
      replace hTa := hTa.mono zq6
      replace hTb := hTb.mono zq6
      replace hspa := hspa.mono zq6
      replace hspb := hspb.mono zq6
      replace hM := hM.trans zq6
      replace hB_B := hB_B.mono zq5
      replace hB_A := hB_A.mono hle9
      refine zn (tch := [(9, 0, (fun _ => UK g R.2))]) (fun _ => mixed) hst9 hfr9 (by kernel_rfl) (by kernel_rfl) (by kernel_rfl) (.cons rfl (zr rfl hc3 isAgg86 rfl) <| .cons rfl (zF (off := 3) rfl underlying45 rfl rfl sizeOf33 rfl) <| .cons rfl (zK rfl hB_A isAgg33 rfl) <| .cons rfl (zN (k := 0) rfl rfl underlying33 sizeOf45 rfl (by omega)) <| .cons rfl (zS rfl hcv23 isAgg45 sizeOf45 rfl rfl) <| .cons rfl (zF (off := 3) rfl underlying45 rfl rfl sizeOf33 rfl) <| .cons rfl (zK rfl hB_B isAgg33 rfl) <| .cons rfl (zN (k := 0) rfl rfl underlying33 sizeOf45 rfl (by omega)) <| .cons rfl (zS rfl hcv24 isAgg45 sizeOf45 rfl rfl) <| .consT rfl rfl (fun _ => rfl) rfl (ZV rfl (.cons rfl <| .cons rfl <| .cons rfl <| .nil) call38 (κ := .eq (.int .i64 R.1)) (fun σ w m hK hr hkn => by have hle_ := KC.le hK; have hA := KC.agree hK; have hM := hM.trans hle_; have h_a := h_a.mono hle_; have hk_a := hk_a.mono hle_; have hs_a := hs_a.mono hle_; have hrw_a := hrw_a.mono hle_; have h_b := h_b.mono hle_; have hk_b := hk_b.mono hle_; have hs_b := hs_b.mono hle_; have hrw_b := hrw_b.mono hle_; have hU := hU.mono hle_; have hc3 := hc3.mono hle_; have hTa := hTa.mono hle_; have hTb := hTb.mono hle_; have hkpa := hkpa.mono hle_; have hspa := hspa.mono hle_; have hkpb := hkpb.mono hle_; have hspb := hspb.mono hle_; have hB_A := hB_A.mono hle_; have hB_B := hB_B.mono hle_; have hcv23 := hcv23.mono hle_; have hv23 := hv23.mono hle_; have hkd23 := hkd23.mono hle_; have hs23 := hs23.mono hle_; have hrw23 := hrw23.mono hle_; have hcv24 := hcv24.mono hle_; have hv24 := hv24.mono hle_; have hkd24 := hkd24.mono hle_; have hs24 := hs24.mono hle_; have hrw24 := hrw24.mono hle_; exact up_T (ih _ _ U R hB _ _ g q _ _ hA hr hU hv23 hv24))) <| .cons rfl (zH rfl) <| .nil) fun a10 w10 m10 hst10 hle10 hk10 => ?_
      have hfr10 := hk10.fr (.n 6 <| .nil)
      replace hst10 := hst10.fin (L' := [_, _, _]) (.cons rfl <| .nil)
      clear hst9 hfr9 hk10
      obtain ⟨q3, hst10, hU3⟩ := zCM (k := 0) hst10 rfl
      simp only [List.set_cons_zero] at hst10
      refine hK22 _ _ ?_
      refine zU ?_
      repeat (with_reducible first | refine zL ?_ | refine zI ?_)
      exact zV hst10 hfr10 rfl (.tmp rfl <| .nil) (⟨q3, (hst10.take 1).loc, hU3, rfl⟩)
     ·try simp only [nqs] at hb56
      rw [if_neg (fun h => by rcases hb56 with h9 | h9; (exact h9 h.1); (have := h.2; omega))] at hB
      refine zE fun _ hK26 => ?_
      replace hB_A := hB_A.mono hle9
      refine rp0 hst9 hfr9 (.cons rfl (zF (off := 0) rfl underlying45 rfl rfl sizeOf3 rfl) <| .cons rfl (zK rfl hB_A isAgg3 rfl) <| .cons rfl (zq rfl rfl) <| .cons rfl (zG rfl) <| .cons rfl (zF (off := 3) rfl underlying45 rfl rfl sizeOf33 rfl) <| .cons rfl (zK rfl hB_A isAgg33 rfl) <| .cons rfl (zt rfl underlying33) <| .cons rfl (zq rfl rfl) <| .cons rfl (z8 rfl rfl rfl) <| .cons rfl (zH rfl) <| .nil) fun a10 w10 m10 hst10 hle10 hk10 => ?_
      have hfr10 := hk10.fr (.o 3 <| .o 4 <| .o 5 <| .n 76 <| .nil)
      clear hst9 hfr9 hk10
      refine hK26 _ _ ?_
      refine zJ hfr10 rfl rfl (fun hb76 => ?_) (fun hb76 => ?_)
      ·try simp only [nqs] at hb76
       have hc76 : pa.kind = 5 ∧ pa.args.length = 2 := ⟨hb76.1, by omega⟩
       rw [if_pos hc76] at hB
       have hl2 := hc76.2
       refine zE fun _ hK27 => ?_
       refine ZE 4 (by kernel_rfl) ?_
       refine ZN (tch := []) hst10 hfr10 (by kernel_rfl) (by kernel_rfl) (by kernel_rfl) (.cons rfl (zCB (.cons rfl <| .cons rfl <| .cons rfl <| .nil)) <| .cons rfl (zCB (.cons rfl <| .cons rfl <| .cons rfl <| .nil)) <| .cons rfl (zCB (.cons rfl <| .cons rfl <| .cons rfl <| .nil)) <| .cons rfl (ZQ (.cons rfl <| .cons rfl <| .cons rfl <| .nil) underlying112 sizeOf89 zeroValue89 rfl rfl rfl rfl) <| .nil) fun a11 w11 m11 hst11 hle11 hk11 => ?_
       have hfr11 := hk11.fr (.o 3 <| .o 4 <| .o 5 <| .nil)
       obtain ⟨gF, e28, hcF⟩ := hk11.ex 89 rfl
       replace hfr11 := hfr11.cons e28
       clear hst10 hfr10 hk11
       obtain ⟨l9, hl9⟩ : ∃ l, l = ([⟨57, [.pointer (some ⟨g3, 0, none⟩), .pointer (some ⟨gA, 0, none⟩), .pointer (some ⟨gB, 0, none⟩)], ZX k (zCa pa 0) (zCa pb 0)⟩, ⟨58, [.pointer (some ⟨g3, 0, none⟩), .pointer (some ⟨gA, 0, none⟩), .pointer (some ⟨gB, 0, none⟩)], zFn ⟨pa.labels, pa.rv⟩ ⟨pb.labels, pb.rv⟩⟩, ⟨59, [.pointer (some ⟨g3, 0, none⟩), .pointer (some ⟨gA, 0, none⟩), .pointer (some ⟨gB, 0, none⟩)], ZX k (zCa pa 1) (zCa pb 1)⟩] : List Step) := ⟨_, rfl⟩
       have hsF : Stps m11 (some ⟨gF, 0, none⟩) l9.length l9.length l9 := Stps.of (by rw [hl9]; exact hcF) (by rw [hl9]; simp)
       have hR9 : zCK (l9.map Step.f) U = some R := by rw [hl9]; exact hB
       have hlen9 : l9.length = 3 := by rw [hl9]; rfl
       have hs9 : ∀ s ∈ l9, ∀ (args : Array Value) (w : World), (callFunc s.fid args).run Tryz.prog w = .ok (.enter s.fid args) w := fun s hs => by rw [hl9] at hs; simp only [List.mem_cons, List.not_mem_nil, or_false] at hs; rcases hs with rfl | rfl | rfl; exact call57; exact call58; exact call59
       have zq7 := hle10.trans hle11
       have zq8 := hle9.trans zq7
       have zq9 := hle8.trans zq8
       have zq10 := zq2.trans zq9
       replace hU := hU.mono zq10
       replace hc3 := hc3.mono zq10
       replace hTa := hTa.mono zq10
       replace hTb := hTb.mono zq10
       replace hB_B := hB_B.mono zq9
       replace hB_A := hB_A.mono zq7
       have hf9 : ∀ {m : Mem}, MLe m11 m → ∀ s ∈ l9, ∀ (U : USt) (r : Int × USt), s.f U = some r → ∀ (w : World) (m2 : Mem) (q : QQ), MLe m m2 → Agree w m2 → (UB g q U.nx).holds w m2 → SubQ m2 U.s (zAJ q) → FnG Tryz.prog s.fid s.caps.toArray [g] w m2 (zDN g w.heap.size r) := fun hm s hs U r hf w m2 q hm2 hA hr hU => by have hx := (hc3.mono hm).mono hm2; have ha := (hB_A.mono hm).mono hm2; have hb := (hB_B.mono hm).mono hm2; have h1 := (hTa.mono hm).mono hm2; have h2 := (hTb.mono hm).mono hm2; rw [hl9] at hs; simp only [List.mem_cons, List.not_mem_nil, or_false] at hs; rcases hs with rfl | rfl | rfl; exact types1_g hA hx ha hb hr hU h1 h2 ih ⟨hl2, by omega⟩ hf; exact types2_g hA hx ha hb hr hU h1 h2 hf; exact types3_g hA hx ha hb hr hU h1 h2 ih ⟨hl2, by omega⟩ hf
       replace h_a := h_a.mono zq10
       replace hk_a := hk_a.mono zq10
       replace hs_a := hs_a.mono zq10
       replace hrw_a := hrw_a.mono zq10
       replace h_b := h_b.mono zq10
       replace hk_b := hk_b.mono zq10
       replace hs_b := hs_b.mono zq10
       replace hrw_b := hrw_b.mono zq10
       replace hkpa := hkpa.mono zq10
       replace hspa := hspa.mono zq10
       replace hkpb := hkpb.mono zq10
       replace hspb := hspb.mono zq10
       replace hM := hM.trans zq10
       refine ZN (tch := [(0, 0, (fun _ => UK g R.2))]) hst11 hfr11 (by kernel_rfl) (by kernel_rfl) (by kernel_rfl) (.consT rfl rfl (fun _ => rfl) rfl (ZV rfl (.cons rfl <| .nil) call56 (κ := .eq (.int .i64 R.1)) (fun σ w m hK hr hkn => by have hle_ := KC.le hK; have hA := KC.agree hK; have hM := hM.trans hle_; have h_a := h_a.mono hle_; have hk_a := hk_a.mono hle_; have hs_a := hs_a.mono hle_; have hrw_a := hrw_a.mono hle_; have h_b := h_b.mono hle_; have hk_b := hk_b.mono hle_; have hs_b := hs_b.mono hle_; have hrw_b := hrw_b.mono hle_; have hU := hU.mono hle_; have hc3 := hc3.mono hle_; have hTa := hTa.mono hle_; have hTb := hTb.mono hle_; have hkpa := hkpa.mono hle_; have hspa := hspa.mono hle_; have hkpb := hkpb.mono hle_; have hspb := hspb.mono hle_; have hB_A := hB_A.mono hle_; have hB_B := hB_B.mono hle_; have hcF := hcF.mono hle_; have hsF := hsF.mono hle_; exact (by have h9 := up_T (q := q) (n := U.nx) (first_g (l := l9) (g := g) (R := R) hA hsF hr hU (hf9 hle_) hs9 hR9); rw [hlen9] at h9; exact h9))) <| .cons rfl (zH rfl) <| .nil) fun a12 w12 m12 hst12 hle12 hk12 => ?_
       have hfr12 := hk12.fr (.o 3 <| .o 4 <| .o 5 <| .o 89 <| .n 6 <| .nil)
       replace hst12 := hst12.fin (L' := [_, _, _]) (.cons rfl <| .nil)
       clear hst11 hfr11 hk12
       obtain ⟨q3, hst12, hU3⟩ := zCM (k := 0) hst12 rfl
       simp only [List.set_cons_zero] at hst12
       refine hK27 _ _ ?_
       refine zU ?_
       repeat (with_reducible first | refine zL ?_ | refine zI ?_)
       exact zV hst12 hfr12 rfl (.tmp rfl <| .nil) (⟨q3, (hst12.take 1).loc, hU3, rfl⟩)
      ·try simp only [nqs] at hb76
       rw [if_neg (fun h => by rcases hb76 with h9 | h9; (exact h9 h.1); (have := h.2; omega))] at hB
       injection hB with hB
       subst hB
       refine zR ?_
       refine hK8 _ _ ?_
       refine zE fun _ hK30 => ?_
       refine rp0 hst10 hfr10 (.cons rfl (zH rfl) <| .nil) fun a11 w11 m11 hst11 hle11 hk11 => ?_
       have hfr11 := hk11.fr (.n 6 <| .nil)
       clear hst10 hfr10 hk11
       refine hK30 _ _ ?_
       refine zU ?_
       repeat (with_reducible first | refine zL ?_ | refine zI ?_)
       have zq11 := hle10.trans hle11
       have zq12 := hle9.trans zq11
       have zq13 := hle8.trans zq12
       have zq14 := zq2.trans zq13
       replace hU := hU.mono zq14
       exact zV hst11 hfr11 rfl (.tmp rfl <| .nil) (⟨q, (hst11.take 1).loc, hU, rfl⟩)
theorem types_t : ∀ k, TG k
 | 0 => fun a b U r h => by rw [ZX] at h; cases h
 | k + 1 => fun a b U r h w m g q va vb hA hr hU ha hb => types_s hA hr hU ha hb (types_t k) h
end Go.Proofs.YtlidonjpgigocaaGreat
namespace Go.Proofs.YtlidonjpgigocaaGreat
open Go.Proofs.Tryz
set_option linter.all false
set_option maxRecDepth 4000
open Go.RowKit
def zDY (r : Int × USt) (U : USt) : Int × USt := if r.1 ≠ 0 then (r.1, U) else (0, r.2)
def MP.un (r : Int × USt) : MP := MP.mem (fun q : QQ => .tuple #[.agg (zAJ q).toArray, .int .i64 r.2.nx, .int .i64 r.1]) (fun q m => SubQ m r.2.s (zAJ q)) fun hm h => h.mono hm
set_option maxHeartbeats 1600000 in
theorem types7_c {w : World} {m : Mem} {U : Sub} {vs_s : List Value} {a : Ty} {vs_a : List Value} {b : Ty} {vs_b : List Value} {n : Int} {k : Nat} {R : Int × USt} (hA : Agree w m) (h_s : SubQ m U vs_s) (h_a : TyR m a vs_a) (h_b : TyR m b vs_b) (hrun : ZX k a b ⟨U, n⟩ = some R) : FnV Tryz.prog 14 #[.agg vs_s.toArray, .agg vs_a.toArray, .agg vs_b.toArray, .int .i64 n] w m (fun _ m v => (MP.un (zDY R ⟨U, n⟩)).p m v) := by
 obtain ⟨q0, rfl⟩ := h_s.val
 obtain ⟨o_a, c_a, oL_a, cL_a, rfl, hk_a, hs_a, hi_a, hj_a, hr_a⟩ := h_a.open_
 have hbg_a := hk_a.big; have hcp_a := hk_a.cap; have hbs_a := hs_a.big; have hcs_a := hs_a.cap
 have hrw_a : RwR _ ⟨a.labels, a.rv⟩ _ := ⟨_, _, rfl, hs_a, hr_a⟩
 obtain ⟨o_b, c_b, oL_b, cL_b, rfl, hk_b, hs_b, hi_b, hj_b, hr_b⟩ := h_b.open_
 have hbg_b := hk_b.big; have hcp_b := hk_b.cap; have hbs_b := hs_b.big; have hcs_b := hs_b.cap
 have hrw_b : RwR _ ⟨b.labels, b.rv⟩ _ := ⟨_, _, rfl, hs_b, hr_b⟩
 refine zY (vs := [_, _, _, _]) func14 rfl rfl rfl fun a0 hfr0 => ?_
 have hst0 := zX hA (zw [] _ w m)
 have hM : MLe m m := MLe.refl m
 refine zE fun _ hK1 => ?_
 replace hst0 := hst0.more (r := .free) trivial List.nodup_nil (by simp [Res.blocks])
 refine ra0 (tch := [(3, 0, (fun v => .blk v _))]) hst0 hfr0 (.cons rfl (ZA rfl rfl) <| .cons rfl (ZA rfl rfl) <| .cons rfl (ZA rfl rfl) <| .consT rfl rfl (fun _ => rfl) rfl (zj zeroValue29 rfl) <| .cons rfl (zH rfl) <| .cons rfl (zH rfl) <| .nil) fun a1 w1 m1 hst1 hle1 hk1 => ?_
 have hfr1 := hk1.fr (.o 3 <| .nil)
 obtain ⟨g2, e2, hc4⟩ := hk1.ex 4 rfl
 replace hfr1 := hfr1.cons e2
 obtain ⟨g3, e3, hc5⟩ := hk1.ex 5 rfl
 replace hfr1 := hfr1.cons e3
 obtain ⟨g4, e4, hc6⟩ := hk1.ex 6 rfl
 replace hfr1 := hfr1.cons e4
 obtain ⟨gS, e5, _⟩ := hk1.ex 8 rfl
 replace hfr1 := hfr1.cons e5
 replace hst1 := hst1.fin (L' := [_]) (.cons e5 <| .nil)
 replace h_s := h_s.mono hle1
 replace h_a := h_a.mono hle1
 replace hk_a := hk_a.mono hle1
 replace hs_a := hs_a.mono hle1
 replace hrw_a := hrw_a.mono hle1
 replace h_b := h_b.mono hle1
 replace hk_b := hk_b.mono hle1
 replace hs_b := hs_b.mono hle1
 replace hrw_b := hrw_b.mono hle1
 replace hM := hM.trans hle1
 clear hst0 hfr0 hk1
 refine hK1 _ _ ?_
 refine zE fun _ hK6 => ?_
 replace hst1 := hst1.more (r := .free) trivial List.nodup_nil (by simp [Res.blocks])
 refine ra0 (tch := [(3, 1, (fun v => .blk v _)), (4, 1, (fun v => .blk v _))]) hst1 hfr1 (.cons rfl (zS rfl hc4 isAgg29 sizeOf29 rfl rfl) <| .cons rfl (zG rfl) <| .cons rfl (ZM (.cons rfl <| .cons rfl <| .nil) underlying74 zeroValue74 (.cons sizeOf29 <| .cons sizeOf3 <| .nil) rfl) <| .consT rfl rfl (fun _ => rfl) rfl (zj zeroValue74 rfl) <| .consT rfl rfl (fun _ => rfl) rfl (ze 11 rfl rfl rfl fun y11 => ZD rfl rfl rfl rfl rfl sizeOf74 rfl rfl rfl) <| .nil) fun a2 w2 m2 hst2 hle2 hk2 => ?_
 have hfr2 := hk2.fr (.o 3 <| .o 4 <| .o 5 <| .o 6 <| .o 8 <| .nil)
 obtain ⟨gU, e7, _⟩ := hk2.ex 11 rfl
 replace hfr2 := hfr2.cons e7
 replace hst2 := hst2.fin (L' := [_, _]) (.cons e7 <| .cons e7 <| .nil)
 try simp only [List.take_succ_cons, List.take_zero, List.drop_succ_cons, List.drop_zero, List.cons_append, List.nil_append, List.append_nil, List.length_cons, List.length_nil, Nat.zero_add, Nat.reduceAdd] at hst2
 replace h_s := h_s.mono hle2
 replace h_a := h_a.mono hle2
 replace hk_a := hk_a.mono hle2
 replace hs_a := hs_a.mono hle2
 replace hrw_a := hrw_a.mono hle2
 replace h_b := h_b.mono hle2
 replace hk_b := hk_b.mono hle2
 replace hs_b := hs_b.mono hle2
 replace hrw_b := hrw_b.mono hle2
 replace hc4 := hc4.mono hle2
 replace hc5 := hc5.mono hle2
 replace hc6 := hc6.mono hle2
 replace hM := hM.trans hle2
 clear hst1 hfr1 hk2
 have hst2 : St [] w m [_, UB gU q0 n] w2 m2 := hst2
 refine hK6 _ _ ?_
 refine zE fun _ hK8 => ?_
 refine zE fun _ hK9 => ?_
 refine ra0 (tch := [(2, 1, (fun _ => UK gU (R).2))]) hst2 hfr2 (.cons rfl (zS rfl hc5 isAgg45 sizeOf45 rfl rfl) <| .cons rfl (zS rfl hc6 isAgg45 sizeOf45 rfl rfl) <| .consT rfl rfl (fun _ => rfl) rfl (ZV rfl (.cons rfl <| .cons rfl <| .cons rfl <| .nil) call38 (κ := .eq (.int .i64 (R).1)) (fun σ w m hK hr hkn => by have hle_ := KC.le hK; have hA := KC.agree hK; have hM := hM.trans hle_; have h_s := h_s.mono hle_; have h_a := h_a.mono hle_; have hk_a := hk_a.mono hle_; have hs_a := hs_a.mono hle_; have hrw_a := hrw_a.mono hle_; have h_b := h_b.mono hle_; have hk_b := hk_b.mono hle_; have hs_b := hs_b.mono hle_; have hrw_b := hrw_b.mono hle_; have hc4 := hc4.mono hle_; have hc5 := hc5.mono hle_; have hc6 := hc6.mono hle_; exact up_T (types_t k a b ⟨U, n⟩ R hrun _ _ gU q0 _ _ hA hr h_s h_a h_b))) <| .cons rfl (zH rfl) <| .nil) fun a3 w3 m3 hst3 hle3 hk3 => ?_
 have hfr3 := hk3.fr (.o 3 <| .o 4 <| .o 8 <| .o 11 <| .n 12 <| .nil)
 replace hst3 := hst3.fin (L' := [_, _]) (.cons rfl <| .nil)
 replace h_s := h_s.mono hle3
 replace hc4 := hc4.mono hle3
 clear hst2 hfr2 hk3
 obtain ⟨q3, hst3, hU3⟩ := zCM (k := 1) hst3 rfl
 simp only [List.set_cons_zero, List.set_cons_succ] at hst3
 refine hK9 _ _ ?_
 refine zE fun _ hK10 => ?_
 refine rp0 hst3 hfr3 (.cons rfl (zG rfl) <| .cons rfl (Z6 rfl rfl) <| .nil) fun a4 w4 m4 hst4 hle4 hk4 => ?_
 have hfr4 := hk4.fr (.o 3 <| .o 4 <| .o 8 <| .o 11 <| .o 12 <| .n 20 <| .nil)
 replace h_s := h_s.mono hle4
 replace hc4 := hc4.mono hle4
 replace hU3 := hU3.mono hle4
 clear hst3 hfr3 hk4
 refine hK10 _ _ ?_
 refine zJ hfr4 rfl rfl (fun hb20 => ?_) (fun hb20 => ?_)
 ·try simp only [nqs] at hb20
  have ho9 : zDY (R) ⟨U, n⟩ = ((R).1, ⟨U, n⟩) := by unfold zDY; rw [if_pos hb20]
  refine zE fun _ hK11 => ?_
  refine ra0 (tch := [(3, 0, (fun _ => .blk _ _))]) hst4 hfr4 (.cons rfl (zS rfl hc4 isAgg29 sizeOf29 rfl rfl) <| .cons rfl (zG rfl) <| .cons rfl (zG rfl) <| .consT rfl rfl (fun _ => rfl) rfl (zm rfl rfl rfl sizeOf29 rfl rfl rfl) <| .cons rfl (zH rfl) <| .cons rfl (zH rfl) <| .nil) fun a5 w5 m5 hst5 hle5 hk5 => ?_
  have hfr5 := hk5.fr (.o 8 <| .n 9 <| .n 10 <| .nil)
  replace hst5 := hst5.fin (L' := [_, _]) (.cons rfl <| .nil)
  try simp only [List.take_succ_cons, List.take_zero, List.drop_succ_cons, List.drop_zero, List.cons_append, List.nil_append, List.append_nil, List.length_cons, List.length_nil, Nat.zero_add, Nat.reduceAdd] at hst5
  clear hst4 hfr4 hk5
  refine hK11 _ _ ?_
  refine zU ?_
  repeat (with_reducible first | refine zL ?_ | refine zI ?_)
  replace h_s := h_s.mono hle5
  exact zV hst5 hfr5 rfl (.cell rfl (ZO (ZJ (hst5.loc.at_ (k := 0) rfl)) isAgg29 sizeOf29) <| .tmp rfl <| .tmp rfl <| .nil) (⟨q0, by rw [ho9]; rfl, by rw [ho9]; exact h_s⟩)
 ·try simp only [nqs] at hb20
  have ho9 : zDY (R) ⟨U, n⟩ = (0, (R).2) := by unfold zDY; rw [if_neg (by omega)]
  refine zR ?_
  refine hK8 _ _ ?_
  refine zE fun _ hK13 => ?_
  refine zn (tch := [(4, 0, (fun _ => .blk _ _))]) (fun _ => mixed) hst4 hfr4 (by kernel_rfl) (by kernel_rfl) (by kernel_rfl) (.cons rfl (zF (off := 0) rfl underlying74 rfl rfl sizeOf29 rfl) <| .cons rfl (Za (j := 1) rfl rfl isAgg29 sizeOf29 rfl rfl) <| .cons rfl (zF (off := 2) rfl underlying74 rfl rfl sizeOf3 rfl) <| .cons rfl (zW (j := 1) rfl rfl isAgg3 rfl) <| .consT rfl rfl (fun _ => rfl) rfl (zm rfl rfl rfl sizeOf29 rfl rfl rfl) <| .cons rfl (zH rfl) <| .cons rfl (zH rfl) <| .nil) fun a5 w5 m5 hst5 hle5 hk5 => ?_
  have hfr5 := hk5.fr (.o 8 <| .n 9 <| .n 10 <| .nil)
  replace hst5 := hst5.fin (L' := [_, _]) (.cons rfl <| .nil)
  try simp only [List.take_succ_cons, List.take_zero, List.drop_succ_cons, List.drop_zero, List.cons_append, List.nil_append, List.append_nil, List.length_cons, List.length_nil, Nat.zero_add, Nat.reduceAdd] at hst5
  clear hst4 hfr4 hk5
  refine hK13 _ _ ?_
  refine zU ?_
  repeat (with_reducible first | refine zL ?_ | refine zI ?_)
  replace hU3 := hU3.mono hle5
  exact zV hst5 hfr5 rfl (.cell rfl (ZO (ZJ (hst5.loc.at_ (k := 0) rfl)) isAgg29 sizeOf29) <| .tmp rfl <| .tmp rfl <| .nil) (⟨q3, by rw [ho9]; rfl, by rw [ho9]; exact hU3⟩)
set_option maxHeartbeats 1600000 in
theorem rows7_c {w : World} {m : Mem} {U : Sub} {vs_s : List Value} {a : Rw} {vs_a : List Value} {b : Rw} {vs_b : List Value} {n : Int} (hA : Agree w m) (h_s : SubQ m U vs_s) (h_a : RwR m a vs_a) (h_b : RwR m b vs_b) (hok : OkS ⟨U, n⟩) (ha : a.labels.length ≤ 50000000) (hb : b.labels.length ≤ 50000000) : FnV Tryz.prog 27 #[.agg vs_s.toArray, .agg vs_a.toArray, .agg vs_b.toArray, .int .i64 n] w m (fun _ m v => (MP.un (zDY (zAc a b ⟨U, n⟩) ⟨U, n⟩)).p m v) := by
 obtain ⟨q0, rfl⟩ := h_s.val
 obtain ⟨o_a, c_a, rfl, hs_a, hr_a⟩ := h_a.open_
 have hbs_a := hs_a.big; have hcs_a := hs_a.cap
 obtain ⟨o_b, c_b, rfl, hs_b, hr_b⟩ := h_b.open_
 have hbs_b := hs_b.big; have hcs_b := hs_b.cap
 refine zY (vs := [_, _, _, _]) func27 rfl rfl rfl fun a0 hfr0 => ?_
 have hst0 := zX hA (zw [] _ w m)
 have hM : MLe m m := MLe.refl m
 refine zE fun _ hK1 => ?_
 replace hst0 := hst0.more (r := .free) trivial List.nodup_nil (by simp [Res.blocks])
 refine ra0 (tch := [(3, 0, (fun v => .blk v _))]) hst0 hfr0 (.cons rfl (ZA rfl rfl) <| .cons rfl (ZA rfl rfl) <| .cons rfl (ZA rfl rfl) <| .consT rfl rfl (fun _ => rfl) rfl (zj zeroValue29 rfl) <| .cons rfl (zH rfl) <| .cons rfl (zH rfl) <| .nil) fun a1 w1 m1 hst1 hle1 hk1 => ?_
 have hfr1 := hk1.fr (.o 3 <| .nil)
 obtain ⟨g2, e2, hc4⟩ := hk1.ex 4 rfl
 replace hfr1 := hfr1.cons e2
 obtain ⟨g3, e3, hc5⟩ := hk1.ex 5 rfl
 replace hfr1 := hfr1.cons e3
 obtain ⟨g4, e4, hc6⟩ := hk1.ex 6 rfl
 replace hfr1 := hfr1.cons e4
 obtain ⟨gS, e5, _⟩ := hk1.ex 8 rfl
 replace hfr1 := hfr1.cons e5
 replace hst1 := hst1.fin (L' := [_]) (.cons e5 <| .nil)
 replace h_s := h_s.mono hle1
 replace h_a := h_a.mono hle1
 replace hs_a := hs_a.mono hle1
 replace h_b := h_b.mono hle1
 replace hs_b := hs_b.mono hle1
 replace hM := hM.trans hle1
 clear hst0 hfr0 hk1
 refine hK1 _ _ ?_
 refine zE fun _ hK6 => ?_
 replace hst1 := hst1.more (r := .free) trivial List.nodup_nil (by simp [Res.blocks])
 refine ra0 (tch := [(3, 1, (fun v => .blk v _)), (4, 1, (fun v => .blk v _))]) hst1 hfr1 (.cons rfl (zS rfl hc4 isAgg29 sizeOf29 rfl rfl) <| .cons rfl (zG rfl) <| .cons rfl (ZM (.cons rfl <| .cons rfl <| .nil) underlying74 zeroValue74 (.cons sizeOf29 <| .cons sizeOf3 <| .nil) rfl) <| .consT rfl rfl (fun _ => rfl) rfl (zj zeroValue74 rfl) <| .consT rfl rfl (fun _ => rfl) rfl (ze 11 rfl rfl rfl fun y11 => ZD rfl rfl rfl rfl rfl sizeOf74 rfl rfl rfl) <| .nil) fun a2 w2 m2 hst2 hle2 hk2 => ?_
 have hfr2 := hk2.fr (.o 3 <| .o 4 <| .o 5 <| .o 6 <| .o 8 <| .nil)
 obtain ⟨gU, e7, _⟩ := hk2.ex 11 rfl
 replace hfr2 := hfr2.cons e7
 replace hst2 := hst2.fin (L' := [_, _]) (.cons e7 <| .cons e7 <| .nil)
 try simp only [List.take_succ_cons, List.take_zero, List.drop_succ_cons, List.drop_zero, List.cons_append, List.nil_append, List.append_nil, List.length_cons, List.length_nil, Nat.zero_add, Nat.reduceAdd] at hst2
 replace h_s := h_s.mono hle2
 replace h_a := h_a.mono hle2
 replace hs_a := hs_a.mono hle2
 replace h_b := h_b.mono hle2
 replace hs_b := hs_b.mono hle2
 replace hc4 := hc4.mono hle2
 replace hc5 := hc5.mono hle2
 replace hc6 := hc6.mono hle2
 replace hM := hM.trans hle2
 clear hst1 hfr1 hk2
 have hst2 : St [] w m [_, UB gU q0 n] w2 m2 := hst2
 refine hK6 _ _ ?_
 refine zE fun _ hK8 => ?_
 refine zE fun _ hK9 => ?_
 refine ra0 (tch := [(2, 1, (fun _ => UK gU (zAc a b ⟨U, n⟩).2))]) hst2 hfr2 (.cons rfl (zS rfl hc5 isAgg43 sizeOf43 rfl rfl) <| .cons rfl (zS rfl hc6 isAgg43 sizeOf43 rfl rfl) <| .consT rfl rfl (fun _ => rfl) rfl (ZV rfl (.cons rfl <| .cons rfl <| .cons rfl <| .nil) call50 (κ := .eq (.int .i64 (zAc a b ⟨U, n⟩).1)) (fun σ w m hK hr hkn => by have hle_ := KC.le hK; have hA := KC.agree hK; have hM := hM.trans hle_; have h_s := h_s.mono hle_; have h_a := h_a.mono hle_; have hs_a := hs_a.mono hle_; have h_b := h_b.mono hle_; have hs_b := hs_b.mono hle_; have hc4 := hc4.mono hle_; have hc5 := hc5.mono hle_; have hc6 := hc6.mono hle_; exact up_T (rows_g (U := ⟨U, n⟩) hA hr h_s h_a h_b hok ha hb))) <| .cons rfl (zH rfl) <| .nil) fun a3 w3 m3 hst3 hle3 hk3 => ?_
 have hfr3 := hk3.fr (.o 3 <| .o 4 <| .o 8 <| .o 11 <| .n 12 <| .nil)
 replace hst3 := hst3.fin (L' := [_, _]) (.cons rfl <| .nil)
 replace h_s := h_s.mono hle3
 replace hc4 := hc4.mono hle3
 clear hst2 hfr2 hk3
 obtain ⟨q3, hst3, hU3⟩ := zCM (k := 1) hst3 rfl
 simp only [List.set_cons_zero, List.set_cons_succ] at hst3
 refine hK9 _ _ ?_
 refine zE fun _ hK10 => ?_
 refine rp0 hst3 hfr3 (.cons rfl (zG rfl) <| .cons rfl (Z6 rfl rfl) <| .nil) fun a4 w4 m4 hst4 hle4 hk4 => ?_
 have hfr4 := hk4.fr (.o 3 <| .o 4 <| .o 8 <| .o 11 <| .o 12 <| .n 20 <| .nil)
 replace h_s := h_s.mono hle4
 replace hc4 := hc4.mono hle4
 replace hU3 := hU3.mono hle4
 clear hst3 hfr3 hk4
 refine hK10 _ _ ?_
 refine zJ hfr4 rfl rfl (fun hb20 => ?_) (fun hb20 => ?_)
 ·try simp only [nqs] at hb20
  have ho9 : zDY (zAc a b ⟨U, n⟩) ⟨U, n⟩ = ((zAc a b ⟨U, n⟩).1, ⟨U, n⟩) := by unfold zDY; rw [if_pos hb20]
  refine zE fun _ hK11 => ?_
  refine ra0 (tch := [(3, 0, (fun _ => .blk _ _))]) hst4 hfr4 (.cons rfl (zS rfl hc4 isAgg29 sizeOf29 rfl rfl) <| .cons rfl (zG rfl) <| .cons rfl (zG rfl) <| .consT rfl rfl (fun _ => rfl) rfl (zm rfl rfl rfl sizeOf29 rfl rfl rfl) <| .cons rfl (zH rfl) <| .cons rfl (zH rfl) <| .nil) fun a5 w5 m5 hst5 hle5 hk5 => ?_
  have hfr5 := hk5.fr (.o 8 <| .n 9 <| .n 10 <| .nil)
  replace hst5 := hst5.fin (L' := [_, _]) (.cons rfl <| .nil)
  try simp only [List.take_succ_cons, List.take_zero, List.drop_succ_cons, List.drop_zero, List.cons_append, List.nil_append, List.append_nil, List.length_cons, List.length_nil, Nat.zero_add, Nat.reduceAdd] at hst5
  clear hst4 hfr4 hk5
  refine hK11 _ _ ?_
  refine zU ?_
  repeat (with_reducible first | refine zL ?_ | refine zI ?_)
  replace h_s := h_s.mono hle5
  exact zV hst5 hfr5 rfl (.cell rfl (ZO (ZJ (hst5.loc.at_ (k := 0) rfl)) isAgg29 sizeOf29) <| .tmp rfl <| .tmp rfl <| .nil) (⟨q0, by rw [ho9]; rfl, by rw [ho9]; exact h_s⟩)
 ·try simp only [nqs] at hb20
  have ho9 : zDY (zAc a b ⟨U, n⟩) ⟨U, n⟩ = (0, (zAc a b ⟨U, n⟩).2) := by unfold zDY; rw [if_neg (by omega)]
  refine zR ?_
  refine hK8 _ _ ?_
  refine zE fun _ hK13 => ?_
  refine zn (tch := [(4, 0, (fun _ => .blk _ _))]) (fun _ => mixed) hst4 hfr4 (by kernel_rfl) (by kernel_rfl) (by kernel_rfl) (.cons rfl (zF (off := 0) rfl underlying74 rfl rfl sizeOf29 rfl) <| .cons rfl (Za (j := 1) rfl rfl isAgg29 sizeOf29 rfl rfl) <| .cons rfl (zF (off := 2) rfl underlying74 rfl rfl sizeOf3 rfl) <| .cons rfl (zW (j := 1) rfl rfl isAgg3 rfl) <| .consT rfl rfl (fun _ => rfl) rfl (zm rfl rfl rfl sizeOf29 rfl rfl rfl) <| .cons rfl (zH rfl) <| .cons rfl (zH rfl) <| .nil) fun a5 w5 m5 hst5 hle5 hk5 => ?_
  have hfr5 := hk5.fr (.o 8 <| .n 9 <| .n 10 <| .nil)
  replace hst5 := hst5.fin (L' := [_, _]) (.cons rfl <| .nil)
  try simp only [List.take_succ_cons, List.take_zero, List.drop_succ_cons, List.drop_zero, List.cons_append, List.nil_append, List.append_nil, List.length_cons, List.length_nil, Nat.zero_add, Nat.reduceAdd] at hst5
  clear hst4 hfr4 hk5
  refine hK13 _ _ ?_
  refine zU ?_
  repeat (with_reducible first | refine zL ?_ | refine zI ?_)
  replace hU3 := hU3.mono hle5
  exact zV hst5 hfr5 rfl (.cell rfl (ZO (ZJ (hst5.loc.at_ (k := 0) rfl)) isAgg29 sizeOf29) <| .tmp rfl <| .tmp rfl <| .nil) (⟨q3, by rw [ho9]; rfl, by rw [ho9]; exact hU3⟩)
end Go.Proofs.YtlidonjpgigocaaGreat
namespace Go.Proofs.YtlidonjpgigocaaGreat
open Go.Proofs.Tryz
set_option linter.all false
set_option maxRecDepth 4000
open Go.RowKit
end Go.Proofs.YtlidonjpgigocaaGreat
namespace Go.Proofs.YtlidonjpgigocaaGreat
open Go.Proofs.Tryz
set_option linter.all false
set_option maxRecDepth 4000
open Go.RowKit
def Zn (n : Int) : Ty := ⟨7, [], n, [], [], 0⟩
def zFV (t : Ty) : Ty := ⟨6, [], 0, [t], [], 0⟩
theorem varT_R {m : Mem} {n : Int} (h : Zg n) : TyR m (Zn n) (tyV (Zn n) ((none, 0), (none, 0))) := TyR.build (ks := []) (ls := []) Sl.empty Sl.empty ⟨by omega, by omega⟩ h ⟨by omega, by omega⟩
mutual
/-- Has no row more than ten labels? -/
def zFD : Ty → Bool
 | ⟨_, _, _, ts, ls, _⟩ => decide (ls.length ≤ 10) && zCE ts
def zCE : List Ty → Bool
 | [] => true
 | t :: ts => zFD t && zCE ts
end
theorem fewT_eq (t : Ty) : zFD t = (decide (t.labels.length ≤ 10) && zCE t.args) := by obtain ⟨k, n, v, ts, ls, r⟩ := t; rw [zFD]; rfl
theorem zER : ∀ (l : List Ty) (x : Ty), zCE (l ++ [x]) = (zCE l && zFD x)
 | [], x => by simp [zCE]
 | t :: ts, x => by simp only [List.cons_append, zCE, zER ts x, Bool.and_assoc]
theorem fewTs_take {l : List Ty} {k : Nat} (h : zCE (l.take k) = false) : zCE l = false := by
 induction l generalizing k with
 | nil => simp [zCE] at h
 | cons t l ih =>
  cases k with
  | zero => simp [zCE] at h
  | succ k =>
   simp only [List.take_succ_cons, zCE, Bool.and_eq_false_iff] at h ⊢
   rcases h with h | h
   ·exact .inl h
   ·exact .inr (ih h)
abbrev Z1 (t : Ty) : List Int × List Int := zi t ([], [])
def le8 (l : List Int) : Bool := l.all fun x => decide (x ≤ 8)
def zBP (t : Ty) : Bool := decide (ZH t ≤ 30) && (decide (zBj t ≤ 200) && zz t) && zFD t && le8 (Z1 t).1 && le8 (Z1 t).2
theorem le8_take {l : List Int} {k : Nat} {x : Int} (h : l[k]? = some x) (hx : ¬ x ≤ 8) : le8 l = false := by
 unfold le8; rw [Bool.eq_false_iff]; intro hh
 have := List.all_eq_true.1 hh x (List.mem_of_getElem? h)
 simp at this; exact hx this
theorem le8_snoc (l : List Int) (x : Int) : le8 (l ++ [x]) = (le8 l && decide (x ≤ 8)) := by unfold le8; simp
theorem zGM {t : Ty} (h : 30 < ZH t ∨ ¬ (zBj t ≤ 200 ∧ zz t = true) ∨ zFD t = false ∨ le8 (Z1 t).1 = false ∨ le8 (Z1 t).2 = false) : zBP t = false := by
 rw [Bool.eq_false_iff]; intro hh
 unfold zBP at hh
 simp only [Bool.and_eq_true, decide_eq_true_eq] at hh
 obtain ⟨⟨⟨⟨h1, h2⟩, h3⟩, h4⟩, h5⟩ := hh
 rcases h with h | h | h | h | h
 ·omega
 ·exact h h2
 ·rw [h] at h3; cases h3
 ·rw [h] at h4; cases h4
 ·rw [h] at h5; cases h5
theorem small_yes {t : Ty} (h1 : ZH t ≤ 30) (h2 : zBj t ≤ 200 ∧ zz t = true) (h3 : zFD t = true) (h4 : le8 (Z1 t).1 = true) (h5 : le8 (Z1 t).2 = true) : zBP t = true := by
 unfold zBP; rw [decide_eq_true h1, decide_eq_true h2.1, h2.2, h3, h4, h5]; rfl
def shE : Str := [69]
def shF : Str := [70]
def shR : Sub := ⟨[], [(2, ⟨[shE], 9⟩), (1, ⟨[shF], 9⟩)]⟩
theorem sort_one (s : Str) : ZT [s] = [s] := sortS_id (by simp [ZF])
theorem sh_rows : zAc ⟨[shE], 1⟩ ⟨[shF], 2⟩ ⟨zAB, 9⟩ = (0, ⟨shR, 10⟩) := by
 have e1 : ∀ r : Rw, zQ zAB r = ⟨ZT r.labels, r.var⟩ := fun r => Z3 (.inl rfl)
 unfold zAc
 simp only [e1, sort_one]
 have h1 : ZR [shE] [shF] = [shE] := by simp [ZR, shE, shF]
 have h2 : ZR [shF] [shE] = [shF] := by simp [ZR, shE, shF]
 rw [h1, h2]
 unfold zCi
 rw [if_neg (by simp), if_neg (by simp), if_neg (by simp), if_neg (by simp)]
 simp only [Prod.mk.injEq, true_and, USt.mk.injEq]
 refine ⟨?_, by omega⟩
 have h3 : Z8 1 [shF] 9 zAB = zAe 1 ⟨[shF], 9⟩ := rfl
 rw [h3]
 have h4 : zQ (zAe 2 ⟨[shE], 9⟩) ⟨[shF], 9⟩ = ⟨[shF], 9⟩ := by rw [Z3 (.inl (by simp [zAe, zP]))]; rw [sort_one]
 show (⟨[], zAY 1 (zQ (zAe 2 ⟨[shE], 9⟩) ⟨[shF], 9⟩) [(2, ⟨[shE], 9⟩)]⟩ : Sub) = shR
 rw [h4]; simp [zAY, shR]
theorem noneU_ok {n : Int} (h : 0 ≤ n ∧ n ≤ 1000000000) : OkS ⟨zAB, n⟩ := ⟨fun p hp => (by cases hp), fun p hp => (by cases hp), ⟨Nat.zero_le _, Nat.zero_le _⟩, h⟩
theorem sh_types : ZX 1 (Zn 1) (zFV (Zn 1)) ⟨zAB, 9⟩ = some (5, ⟨zAB, 9⟩) := by
 have e1 : zM zAB (Zn 1) = Zn 1 := by rw [ZP rfl]; rfl
 have e2 : zM zAB (zFV (Zn 1)) = zFV (Zn 1) := by
  rw [Zb (by simp [zFV, Ty.kind])]
  simp [zFV, Ty.kind, Ty.args, Ty.name, Ty.var, Ty.labels, Ty.rv, zo, e1]
 rw [ZX, if_pos]
 ·rw [e1, e2, Zp, if_neg (by simp [Zn, zFV]), if_pos (show (Zn 1).kind = 7 from rfl)]
  have : isU (Zn 1).var (zFV (Zn 1)) ⟨zAB, 9⟩ = (5, ⟨zAB, 9⟩) := by
   unfold isU; rw [if_pos]
   simp [Zn, zFV, zi, Zo, Ty.var, ZC]
  rw [this]
 ·refine ⟨noneU_ok ⟨by omega, by omega⟩, ⟨?_, ?_⟩, ⟨?_, ?_⟩⟩
  ·simp [Zn, wdT, zCG]
  ·show ZH (zM zAB (Zn 1)) ≤ _; rw [e1]; simp [Zn, ZH, ZS]
  ·simp [Zn, zFV, wdT, zCG]
  ·show ZH (zM zAB (zFV (Zn 1))) ≤ _; rw [e2]; simp [Zn, zFV, ZH, ZS]
theorem refT_R {m : Mem} {t : Ty} {p : Addr} {vs : List Value} (hc : CellsAt m p vs) (hv : TyR m t vs) : TyR m (zFV t) [.int .i64 6, S [], .int .i64 0, .slice (some p) 1 1, .slice none 0 0, .int .i64 0] := by
 have hl : vs.length = 6 := by obtain ⟨o, c, o2, c2, rfl, _⟩ := hv.open_; rfl
 exact TyR.build (ks := [t]) (ls := []) (Sl.one (R := fun m vs t => TyR m t vs) hc hl hv) Sl.empty ⟨by omega, by omega⟩ ⟨by omega, by omega⟩ ⟨by omega, by omega⟩
theorem rowR_1 {m : Mem} {s : Str} {n : Int} {g : Nat} (hc : CellsAt m ⟨g, 0, none⟩ [S s]) (hn : Zg n) : RwR m ⟨[s], n⟩ [.slice (some ⟨g, 0, none⟩) 1 1, .int .i64 n] := ⟨_, _, rfl, Sl.one (vs := [_]) hc rfl rfl, hn⟩
theorem shR_w {B : Nat} (h : 1 ≤ B) : SubW B shR := by
 refine ⟨fun n t e => (by cases e), fun n r e => ?_⟩
 have := zBr e
 simp only [shR, List.mem_cons, List.not_mem_nil, or_false, Prod.mk.injEq] at this
 rcases this with ⟨_, rfl⟩ | ⟨_, rfl⟩ <;> exact h
set_option maxHeartbeats 400000 in
theorem zFL {w : World} {m : Mem} {n : Int} (hA : Agree w m) (hn : Zg n) : FnV Tryz.prog 18 #[.int .i64 n] w m (fun _ m v => (MP.ty (Zn n)).p m v) := by
 refine zY (vs := [_]) func18 rfl rfl rfl fun a0 hfr0 => ?_
 have hst0 := zX hA (zw [] _ w m)
 have hM : MLe m m := MLe.refl m
 refine zE fun _ hK1 => ?_
 replace hst0 := hst0.more (r := .free) trivial List.nodup_nil (by simp [Res.blocks])
 refine ra0 (tch := [(0, 0, (fun v => .blk v _))]) hst0 hfr0 (.consT rfl rfl (fun _ => rfl) rfl (zj zeroValue45 rfl) <| .nil) fun a1 w1 m1 hst1 hle1 hk1 => ?_
 have hfr1 := hk1.fr (.o 0 <| .nil)
 obtain ⟨g2, e2, _⟩ := hk1.ex 2 rfl
 replace hfr1 := hfr1.cons e2
 replace hst1 := hst1.fin (L' := [_]) (.cons e2 <| .nil)
 clear hst0 hfr0 hk1
 refine hK1 _ _ ?_
 refine zE fun _ hK3 => ?_
 refine ra0 (tch := [(2, 0, (fun _ => .blk _ _))]) hst1 hfr1 (.cons rfl (zG rfl) <| .cons rfl (ZM (.cons rfl <| .cons rfl <| .nil) underlying45 zeroValue45 (.cons sizeOf3 <| .cons sizeOf9 <| .cons sizeOf3 <| .cons sizeOf33 <| .cons sizeOf43 <| .nil) rfl) <| .consT rfl rfl (fun _ => rfl) rfl (zm rfl rfl rfl sizeOf45 rfl rfl rfl) <| .nil) fun a2 w2 m2 hst2 hle2 hk2 => ?_
 have hfr2 := hk2.fr (.o 2 <| .nil)
 replace hst2 := hst2.fin (L' := [_]) (.cons rfl <| .nil)
 try simp only [List.take_succ_cons, List.take_zero, List.drop_succ_cons, List.drop_zero, List.cons_append, List.nil_append, List.append_nil, List.length_cons, List.length_nil, Nat.zero_add, Nat.reduceAdd] at hst2
 clear hst1 hfr1 hk2
 refine hK3 _ _ ?_
 refine zU ?_
 repeat (with_reducible first | refine zL ?_ | refine zI ?_)
 exact zV hst2 hfr2 rfl (.cell rfl (ZO (ZJ (hst2.loc.at_ (k := 0) rfl)) isAgg45 sizeOf45) <| .nil) (⟨((none, 0), (none, 0)), rfl, varT_R hn⟩)
abbrev few_G (t : Ty) : Prop := ∀ {w : World} {m : Mem} {vs_t : List Value} (hA : Agree w m) (h_t : TyR m t vs_t), FnV Tryz.prog 32 #[.agg vs_t.toArray] w m (fun _ _ v => v = .bool (zFD t))
set_option maxHeartbeats 400000 in
theorem few_s {t : Ty} (ih : ∀ u ∈ t.args, few_G u) {w : World} {m : Mem} {vs_t : List Value} (hA : Agree w m) (h_t : TyR m t vs_t) : FnV Tryz.prog 32 #[.agg vs_t.toArray] w m (fun _ _ v => v = .bool (zFD t)) := by
 obtain ⟨o_t, c_t, oL_t, cL_t, rfl, hk_t, hs_t, hi_t, hj_t, hr_t⟩ := h_t.open_
 have hbg_t := hk_t.big; have hcp_t := hk_t.cap; have hbs_t := hs_t.big; have hcs_t := hs_t.cap
 have hrw_t : RwR _ ⟨t.labels, t.rv⟩ _ := ⟨_, _, rfl, hs_t, hr_t⟩
 refine zY (vs := [_]) func32 rfl rfl rfl fun a0 hfr0 => ?_
 have hst0 := zX hA (zw [] _ w m)
 have hM : MLe m m := MLe.refl m
 have hfe := fewT_eq t
 refine zE fun _ hK1 => ?_
 refine rp0 hst0 hfr0 (.cons rfl (ZA rfl rfl) <| .cons rfl (zH rfl) <| .nil) fun a1 w1 m1 hst1 hle1 hk1 => ?_
 have hfr1 := hk1.fr (.nil)
 obtain ⟨g2, e2, hc1⟩ := hk1.ex 1 rfl
 replace hfr1 := hfr1.cons e2
 replace h_t := h_t.mono hle1
 replace hk_t := hk_t.mono hle1
 replace hs_t := hs_t.mono hle1
 replace hrw_t := hrw_t.mono hle1
 clear hst0 hfr0 hk1
 refine hK1 _ _ ?_
 refine zE fun _ hK3 => ?_
 refine zE fun _ hK4 => ?_
 refine rp0 hst1 hfr1 (.cons rfl (zF (off := 4) rfl underlying45 rfl rfl sizeOf43 rfl) <| .cons rfl (zF (off := 0) rfl underlying43 rfl rfl sizeOf41 rfl) <| .cons rfl (zK rfl (hc1.drop 4) isAgg41 rfl) <| .cons rfl (zt rfl underlying41) <| .cons rfl (zAU rfl rfl) <| .nil) fun a2 w2 m2 hst2 hle2 hk2 => ?_
 have hfr2 := hk2.fr (.o 1 <| .n 9 <| .nil)
 replace h_t := h_t.mono hle2
 replace hk_t := hk_t.mono hle2
 replace hs_t := hs_t.mono hle2
 replace hrw_t := hrw_t.mono hle2
 replace hc1 := hc1.mono hle2
 clear hst1 hfr1 hk2
 refine hK4 _ _ ?_
 refine zJ hfr2 rfl rfl (fun hb9 => ?_) (fun hb9 => ?_)
 ·try simp only [nqs] at hb9
  have hr : zFD t = false := by rw [hfe, decide_eq_false (by omega)]; rfl
  refine zE fun _ hK5 => ?_
  refine rp0 hst2 hfr2 (.cons rfl (zH rfl) <| .nil) fun a3 w3 m3 hst3 hle3 hk3 => ?_
  have hfr3 := hk3.fr (.n 2 <| .nil)
  clear hst2 hfr2 hk3
  refine hK5 _ _ ?_
  refine zU ?_
  repeat (with_reducible first | refine zL ?_ | refine zI ?_)
  exact zV hst3 hfr3 rfl (.tmp rfl <| .nil) (by rw [hr]; rfl)
 ·try simp only [nqs] at hb9
  refine zR ?_
  refine hK3 _ _ ?_
  refine zE fun _ hK7 => ?_
  refine zE fun _ hK8 => ?_
  refine rp0 hst2 hfr2 (.cons rfl (zH rfl) <| .nil) fun a3 w3 m3 hst3 hle3 hk3 => ?_
  have hfr3 := hk3.fr (.o 1 <| .n 3 <| .nil)
  clear hst2 hfr2 hk3
  refine hK8 _ _ ?_
  refine zT ?_
  refine z6 (T := [(1, _)]) (fun (y : Nat) => ([(3, .int .i64 (y : Int))] : List (Nat × Value))) (fun _ => _) (fun (y : Nat) m => (y ≤ t.args.length) ∧ (zCE (t.args.take y) = true)) (fun y => t.args.length - y) (0) ⟨hst3, MLe.refl _, hfr3.sub (.c <| .c <| .nil), ⟨Nat.zero_le _, by simp [zCE]⟩⟩ fun y a4 w4 m4 hh4 => ?_
  have hst4 := hh4.st; have hle4 := hh4.le; have hfr4 := hh4.fr; have hrel := hh4.rel; clear hh4
  clear hst3 hfr3
  obtain ⟨hyn, hJf⟩ := hrel
  have hlh4 := hle4
  refine zE fun _ hK10 => ?_
  refine zE fun _ hK11 => ?_
  have zq1 := hle3.trans hle4
  replace hc1 := hc1.mono zq1
  refine rp0 hst4 hfr4 (.cons rfl (zG rfl) <| .cons rfl (zF (off := 3) rfl underlying45 rfl rfl sizeOf33 rfl) <| .cons rfl (zK rfl hc1 isAgg33 rfl) <| .cons rfl (zt rfl underlying33) <| .cons rfl (ZG rfl rfl) <| .nil) fun a5 w5 m5 hst5 hle5 hk5 => ?_
  have hfr5 := hk5.fr (.o 3 <| .o 1 <| .n 14 <| .nil)
  clear hst4 hfr4 hk5
  refine hK11 _ _ ?_
  refine zJ hfr5 rfl rfl (fun hb14 => ?_) (fun hb14 => ?_)
  ·try simp only [nqs] at hb14
   refine zR ?_
   refine hK10 _ _ ?_
   refine zE fun _ hK12 => ?_
   refine zT ?_
   refine zE fun _ hK13 => ?_
   have zq2 := zq1.trans hle5
   replace hk_t := hk_t.mono zq2
   obtain ⟨p14, vs14, x14, ho14, hd14, hm_x14, ht14, hcv14, hl14, hv14⟩ := hk_t.nth (k := y) (by omega)
   cases ho14
   obtain ⟨o14, c14, oL14, cL14, rfl, hkd14, hs14, hi14, hj14, hr14⟩ := hv14.open_
   have hbg14 := hkd14.big; have hcp14 := hkd14.cap; have hbs14 := hs14.big; have hcs14 := hs14.cap
   have hrw14 : RwR _ ⟨x14.labels, x14.rv⟩ _ := ⟨_, _, rfl, hs14, hr14⟩
   replace h_t := h_t.mono zq2
   replace hs_t := hs_t.mono zq2
   replace hrw_t := hrw_t.mono zq2
   replace hc1 := hc1.mono hle5
   refine rp0 hst5 hfr5 (.cons rfl (zF (off := 3) rfl underlying45 rfl rfl sizeOf33 rfl) <| .cons rfl (zK rfl hc1 isAgg33 rfl) <| .cons rfl (zG rfl) <| .cons rfl (zN (k := y) rfl rfl underlying33 sizeOf45 rfl (by omega)) <| .cons rfl (zS rfl hcv14 isAgg45 sizeOf45 rfl rfl) <| .cons rfl (zp rfl (.cons rfl <| .nil) call32 (fun w m hK => by have hle_ := KC.le hK; have hA := KC.agree hK; have h_t := h_t.mono hle_; have hk_t := hk_t.mono hle_; have hs_t := hs_t.mono hle_; have hrw_t := hrw_t.mono hle_; have hc1 := hc1.mono hle_; have hcv14 := hcv14.mono hle_; have hv14 := hv14.mono hle_; have hkd14 := hkd14.mono hle_; have hs14 := hs14.mono hle_; have hrw14 := hrw14.mono hle_; exact ih _ (by assumption) hA (by assumption))) <| .cons rfl (zH rfl) <| .nil) fun a6 w6 m6 hst6 hle6 hk6 => ?_
   have hfr6 := hk6.fr (.o 3 <| .o 1 <| .n 4 <| .nil)
   clear hst5 hfr5 hk6
   refine hK13 _ _ ?_
   refine zE fun _ hK15 => ?_
   refine rp0 hst6 hfr6 (.cons rfl (zG rfl) <| .cons rfl (zBJ rfl) <| .nil) fun a7 w7 m7 hst7 hle7 hk7 => ?_
   have hfr7 := hk7.fr (.o 3 <| .o 1 <| .n 24 <| .nil)
   clear hst6 hfr6 hk7
   refine hK15 _ _ ?_
   refine zJ hfr7 rfl rfl (fun hb24 => ?_) (fun hb24 => ?_)
   ·try simp only [nqs] at hb24
    have hr : zFD t = false := by rw [hfe, fewTs_take (k := y + 1) (by rw [ht14, zER, hJf, hb24]; rfl), Bool.and_false]
    refine zE fun _ hK16 => ?_
    refine rp0 hst7 hfr7 (.cons rfl (zH rfl) <| .nil) fun a8 w8 m8 hst8 hle8 hk8 => ?_
    have hfr8 := hk8.fr (.o 3 <| .n 2 <| .nil)
    clear hst7 hfr7 hk8
    refine hK16 _ _ ?_
    refine zU ?_
    repeat (with_reducible first | refine zL ?_ | refine zI ?_)
    exact zV hst8 hfr8 rfl (.tmp rfl <| .nil) (by rw [hr]; rfl)
   ·try simp only [nqs] at hb24
    refine zR ?_
    refine hK12 _ _ ?_
    refine rp0 hst7 hfr7 (.cons rfl (zG rfl) <| .cons rfl (zy rfl rfl ⟨by omega, by omega⟩) <| .cons rfl (zH rfl) <| .nil) fun a8 w8 m8 hst8 hle8 hk8 => ?_
    have hfr8 := hk8.fr (.o 1 <| .n 3 <| .nil)
    clear hst7 hfr7 hk8
    have zq3 := hle7.trans hle8
    have zq4 := hle6.trans zq3
    have zq5 := hle5.trans zq4
    have hlh8 := hlh4.trans zq5
    exact ⟨y + 1, m8, by show t.args.length - (y + 1) < t.args.length - y; omega, ⟨hst8, hlh8, hfr8.sub (.c <| .c <| .nil), ⟨by show y + 1 ≤ t.args.length; omega, by rw [ht14, zER, hJf, hb24]; rfl⟩⟩⟩
  ·try simp only [nqs] at hb14
   have hge : y = t.args.length := by omega
   rw [List.take_of_length_le (by omega)] at hJf
   refine z7 ?_
   refine hK7 _ _ ?_
   refine zE fun _ hK18 => ?_
   refine rp0 hst5 hfr5 (.cons rfl (zH rfl) <| .nil) fun a6 w6 m6 hst6 hle6 hk6 => ?_
   have hfr6 := hk6.fr (.o 3 <| .n 2 <| .nil)
   clear hst5 hfr5 hk6
   refine hK18 _ _ ?_
   refine zU ?_
   repeat (with_reducible first | refine zL ?_ | refine zI ?_)
   exact zV hst6 hfr6 rfl (.tmp rfl <| .nil) (by refine congrArg Value.bool ?_; rw [hfe, hJf, decide_eq_true (by omega)]; rfl)
theorem few_c (t : Ty) : few_G t := Ty.rec_ (p := few_G) (fun t ih => few_s ih) t
set_option maxHeartbeats 1600000 in
theorem small_c {w : World} {m : Mem} {t : Ty} {vs_t : List Value} (hA : Agree w m) (h_t : TyR m t vs_t) (hb : ZH t ≤ 100000000) : FnV Tryz.prog 11 #[.agg vs_t.toArray] w m (fun _ _ v => v = .bool (zBP t)) := by
 obtain ⟨o_t, c_t, oL_t, cL_t, rfl, hk_t, hs_t, hi_t, hj_t, hr_t⟩ := h_t.open_
 have hbg_t := hk_t.big; have hcp_t := hk_t.cap; have hbs_t := hs_t.big; have hcs_t := hs_t.cap
 have hrw_t : RwR _ ⟨t.labels, t.rv⟩ _ := ⟨_, _, rfl, hs_t, hr_t⟩
 refine zY (vs := [_]) func11 rfl rfl rfl fun a0 hfr0 => ?_
 have hst0 := zX hA (zw [] _ w m)
 have hM : MLe m m := MLe.refl m
 have hwr := Zu t ([], [])
 simp only [zBc, List.length_nil] at hwr
 have hwv : (Z1 t).1.length ≤ 200000000 ∧ (Z1 t).2.length ≤ 200000000 := by show (zi t ([], [])).1.length ≤ _ ∧ (zi t ([], [])).2.length ≤ _; omega
 refine zE fun _ hK1 => ?_
 refine rp0 hst0 hfr0 (.cons rfl (ZA rfl rfl) <| .cons rfl (zH rfl) <| .nil) fun a1 w1 m1 hst1 hle1 hk1 => ?_
 have hfr1 := hk1.fr (.nil)
 obtain ⟨g2, e2, hc1⟩ := hk1.ex 1 rfl
 replace hfr1 := hfr1.cons e2
 replace h_t := h_t.mono hle1
 clear hst0 hfr0 hk1
 refine hK1 _ _ ?_
 refine zE fun _ hK3 => ?_
 refine zE fun _ hK4 => ?_
 refine rp0 hst1 hfr1 (.cons rfl (zS rfl hc1 isAgg45 sizeOf45 rfl rfl) <| .cons rfl (zp rfl (.cons rfl <| .nil) call25 (fun w m hK => by have hle_ := KC.le hK; have hA := KC.agree hK; have h_t := h_t.mono hle_; exact count_c t hA h_t (by omega))) <| .cons rfl (zAU rfl rfl) <| .cons rfl (zG rfl) <| .cons rfl (zS rfl hc1 isAgg45 sizeOf45 rfl rfl) <| .cons rfl (zp rfl (.cons rfl <| .nil) call29 (fun w m hK => by have hle_ := KC.le hK; have hA := KC.agree hK; have h_t := h_t.mono hle_; exact right0R_c (t := t) hA h_t)) <| .cons rfl (zBJ rfl) <| .cons rfl (zAq rfl rfl rfl) <| .cons rfl (zG rfl) <| .cons rfl (zS rfl hc1 isAgg45 sizeOf45 rfl rfl) <| .cons rfl (zp rfl (.cons rfl <| .nil) call32 (fun w m hK => by have hle_ := KC.le hK; have hA := KC.agree hK; have h_t := h_t.mono hle_; exact few_c t hA h_t)) <| .cons rfl (zBJ rfl) <| .cons rfl (zAq rfl rfl rfl) <| .nil) fun a2 w2 m2 hst2 hle2 hk2 => ?_
 have hfr2 := hk2.fr (.o 1 <| .n 19 <| .nil)
 replace h_t := h_t.mono hle2
 replace hc1 := hc1.mono hle2
 clear hst1 hfr1 hk2
 refine hK4 _ _ ?_
 refine zJ hfr2 rfl rfl (fun hb19 => ?_) (fun hb19 => ?_)
 ·try simp only [nqs] at hb19
  have hr : zBP t = false := zGM (by rcases hb19 with (h | h) | h; (exact .inl (by omega)); (exact .inr (.inl (by intro ⟨h1, h2⟩; simp [h1, h2] at h; try omega))); exact .inr (.inr (.inl (by simpa using h))))
  refine zE fun _ hK5 => ?_
  refine rp0 hst2 hfr2 (.cons rfl (zH rfl) <| .nil) fun a3 w3 m3 hst3 hle3 hk3 => ?_
  have hfr3 := hk3.fr (.n 2 <| .nil)
  clear hst2 hfr2 hk3
  refine hK5 _ _ ?_
  refine zU ?_
  repeat (with_reducible first | refine zL ?_ | refine zI ?_)
  exact zV hst3 hfr3 rfl (.tmp rfl <| .nil) (by rw [hr]; rfl)
 ·try simp only [nqs] at hb19
  have hq : ZH t ≤ 30 ∧ (zBj t ≤ 200 ∧ zz t = true) ∧ zFD t = true := ⟨by omega, by simpa using hb19.1.2, by simpa using hb19.2⟩
  refine zR ?_
  refine hK3 _ _ ?_
  refine zE fun _ hK7 => ?_
  refine ra0 (tch := []) hst2 hfr2 (.cons rfl (zS rfl hc1 isAgg45 sizeOf45 rfl rfl) <| .cons rfl (zZ (φ := MP.two (Z1 t).1 (Z1 t).2) rfl (.cons rfl <| .nil) call33 (fun w m hK => by have hle_ := KC.le hK; have hA := KC.agree hK; have h_t := h_t.mono hle_; exact FnG.mono (vars0R_c (t := t) hA h_t (by omega)) fun _ _ _ _ h => h)) <| .cons rfl (ZK 22 rfl rfl rfl fun y22 => zG rfl) <| .cons rfl (ZK 20 rfl rfl rfl fun y20 => zk rfl rfl) <| .cons rfl (ZK 20 rfl rfl rfl fun y20 => zk rfl rfl) <| .consA 23 rfl rfl <| .consA 24 rfl rfl <| .nil) fun a3 w3 m3 hst3 hle3 hk3 => ?_
  have hfr3 := hk3.fr (.nil)
  obtain ⟨⟨⟨o1, c1⟩, q1⟩, e8, hI1, _⟩ := hk3.ex 23 rfl
  obtain ⟨⟨q2, o2, c2⟩, e9, _, hI2⟩ := hk3.ex 24 rfl
  replace hfr3 := hfr3.cons (hk3.same 3 rfl e8)
  replace hfr3 := hfr3.cons (hk3.same 4 rfl e9)
  clear hst2 hfr2 hk3
  refine hK7 _ _ ?_
  refine zE fun _ hK10 => ?_
  refine zE fun _ hK11 => ?_
  refine rp0 hst3 hfr3 (.cons rfl (zH rfl) <| .nil) fun a4 w4 m4 hst4 hle4 hk4 => ?_
  have hfr4 := hk4.fr (.o 3 <| .o 4 <| .n 5 <| .nil)
  clear hst3 hfr3 hk4
  refine hK11 _ _ ?_
  refine zT ?_
  refine z6 (T := [(3, _), (4, _)]) (fun (y : Nat) => ([(5, .int .i64 (y : Int))] : List (Nat × Value))) (fun _ => _) (fun (y : Nat) m => (y ≤ (Z1 t).1.length) ∧ (le8 ((Z1 t).1.take y) = true)) (fun y => (Z1 t).1.length - y) (0) ⟨hst4, MLe.refl _, hfr4.sub (.c <| .c <| .c <| .nil), ⟨Nat.zero_le _, by simp [le8]⟩⟩ fun y a5 w5 m5 hh5 => ?_
  have hst5 := hh5.st; have hle5 := hh5.le; have hfr5 := hh5.fr; have hrel := hh5.rel; clear hh5
  clear hst4 hfr4
  obtain ⟨hyn, hJ1⟩ := hrel
  have hlh5 := hle5
  refine zE fun _ hK13 => ?_
  refine zE fun _ hK14 => ?_
  refine rp0 hst5 hfr5 (.cons rfl (zG rfl) <| .cons rfl (zG rfl) <| .cons rfl (zt rfl underlying32) <| .cons rfl (ZG rfl rfl) <| .nil) fun a6 w6 m6 hst6 hle6 hk6 => ?_
  have hfr6 := hk6.fr (.o 5 <| .o 3 <| .o 4 <| .n 28 <| .nil)
  clear hst5 hfr5 hk6
  refine hK14 _ _ ?_
  refine zJ hfr6 rfl rfl (fun hb28 => ?_) (fun hb28 => ?_)
  ·try simp only [nqs] at hb28
   refine zR ?_
   refine hK13 _ _ ?_
   refine zE fun _ hK15 => ?_
   refine zT ?_
   refine zE fun _ hK16 => ?_
   have zq1 := hle5.trans hle6
   have zq2 := hle4.trans zq1
   replace hI1 := hI1.mono zq2
   obtain ⟨p17, vs17, x17, ho17, hd17, hm_x17, ht17, hcv17, hl17, hv17⟩ := hI1.nth (k := y) (by omega)
   cases ho17
   subst hv17
   refine rp0 hst6 hfr6 (.cons rfl (zG rfl) <| .cons rfl (zG rfl) <| .cons rfl (zN (k := y) rfl rfl underlying32 sizeOf3 rfl (by omega)) <| .cons rfl (zr rfl hcv17 isAgg3 rfl) <| .cons rfl (zAU rfl rfl) <| .nil) fun a7 w7 m7 hst7 hle7 hk7 => ?_
   have hfr7 := hk7.fr (.o 5 <| .o 3 <| .o 4 <| .n 35 <| .nil)
   clear hst6 hfr6 hk7
   refine hK16 _ _ ?_
   refine zJ hfr7 rfl rfl (fun hb35 => ?_) (fun hb35 => ?_)
   ·try simp only [nqs] at hb35
    have hr : zBP t = false := zGM (.inr (.inr (.inr (.inl (le8_take (k := y) (x := x17) (by rw [← List.head?_drop, hd17]; rfl) (by omega))))))
    refine zE fun _ hK18 => ?_
    refine rp0 hst7 hfr7 (.cons rfl (zH rfl) <| .nil) fun a8 w8 m8 hst8 hle8 hk8 => ?_
    have hfr8 := hk8.fr (.o 5 <| .n 2 <| .nil)
    clear hst7 hfr7 hk8
    refine hK18 _ _ ?_
    refine zU ?_
    repeat (with_reducible first | refine zL ?_ | refine zI ?_)
    exact zV hst8 hfr8 rfl (.tmp rfl <| .nil) (by rw [hr]; rfl)
   ·try simp only [nqs] at hb35
    refine zR ?_
    refine hK15 _ _ ?_
    refine rp0 hst7 hfr7 (.cons rfl (zG rfl) <| .cons rfl (zy rfl rfl ⟨by omega, by omega⟩) <| .cons rfl (zH rfl) <| .nil) fun a8 w8 m8 hst8 hle8 hk8 => ?_
    have hfr8 := hk8.fr (.o 3 <| .o 4 <| .n 5 <| .nil)
    clear hst7 hfr7 hk8
    have zq3 := hle7.trans hle8
    have zq4 := hle6.trans zq3
    have hlh8 := hlh5.trans zq4
    exact ⟨y + 1, m8, by show (Z1 t).1.length - (y + 1) < (Z1 t).1.length - y; omega, ⟨hst8, hlh8, hfr8.sub (.c <| .c <| .c <| .nil), ⟨by show y + 1 ≤ (Z1 t).1.length; omega, by rw [ht17, le8_snoc, hJ1, decide_eq_true (by omega)]; rfl⟩⟩⟩
  ·try simp only [nqs] at hb28
   have hge : y = (Z1 t).1.length := by omega
   rw [List.take_of_length_le (by omega)] at hJ1
   refine z7 ?_
   refine hK10 _ _ ?_
   refine zE fun _ hK20 => ?_
   refine zE fun _ hK21 => ?_
   refine rp0 hst6 hfr6 (.cons rfl (zH rfl) <| .nil) fun a7 w7 m7 hst7 hle7 hk7 => ?_
   have hfr7 := hk7.fr (.o 5 <| .o 4 <| .n 6 <| .nil)
   clear hst6 hfr6 hk7
   refine hK21 _ _ ?_
   refine zT ?_
   have zq5 := hle6.trans hle7
   have hlh7 := hlh5.trans zq5
   have hlq22 := hlh7
   refine z6 (T := [(5, _), (4, _)]) (fun (y : Nat) => ([(6, .int .i64 (y : Int))] : List (Nat × Value))) (fun _ => _) (fun (y : Nat) m => (y ≤ (Z1 t).2.length) ∧ (le8 ((Z1 t).2.take y) = true)) (fun y => (Z1 t).2.length - y) (0) ⟨hst7, MLe.refl _, hfr7.sub (.c <| .c <| .c <| .nil), ⟨Nat.zero_le _, by simp [le8]⟩⟩ fun y a8 w8 m8 hh8 => ?_
   have hst8 := hh8.st; have hle8 := hh8.le; have hfr8 := hh8.fr; have hrel := hh8.rel; clear hh8
   clear hst7 hfr7
   obtain ⟨hyn, hJ2⟩ := hrel
   have hlh8 := hle8
   refine zE fun _ hK23 => ?_
   refine zE fun _ hK24 => ?_
   refine rp0 hst8 hfr8 (.cons rfl (zG rfl) <| .cons rfl (zG rfl) <| .cons rfl (zt rfl underlying32) <| .cons rfl (ZG rfl rfl) <| .nil) fun a9 w9 m9 hst9 hle9 hk9 => ?_
   have hfr9 := hk9.fr (.o 6 <| .o 5 <| .o 4 <| .n 39 <| .nil)
   clear hst8 hfr8 hk9
   refine hK24 _ _ ?_
   refine zJ hfr9 rfl rfl (fun hb39 => ?_) (fun hb39 => ?_)
   ·try simp only [nqs] at hb39
    refine zR ?_
    refine hK23 _ _ ?_
    refine zE fun _ hK25 => ?_
    refine zT ?_
    refine zE fun _ hK26 => ?_
    have zq6 := hle8.trans hle9
    have zq7 := zq5.trans zq6
    have zq8 := hle5.trans zq7
    have zq9 := hle4.trans zq8
    replace hI2 := hI2.mono zq9
    obtain ⟨p27, vs27, x27, ho27, hd27, hm_x27, ht27, hcv27, hl27, hv27⟩ := hI2.nth (k := y) (by omega)
    cases ho27
    subst hv27
    refine rp0 hst9 hfr9 (.cons rfl (zG rfl) <| .cons rfl (zG rfl) <| .cons rfl (zN (k := y) rfl rfl underlying32 sizeOf3 rfl (by omega)) <| .cons rfl (zr rfl hcv27 isAgg3 rfl) <| .cons rfl (zAU rfl rfl) <| .nil) fun a10 w10 m10 hst10 hle10 hk10 => ?_
    have hfr10 := hk10.fr (.o 6 <| .o 5 <| .o 4 <| .n 46 <| .nil)
    clear hst9 hfr9 hk10
    refine hK26 _ _ ?_
    refine zJ hfr10 rfl rfl (fun hb46 => ?_) (fun hb46 => ?_)
    ·try simp only [nqs] at hb46
     have hr : zBP t = false := zGM (.inr (.inr (.inr (.inr (le8_take (k := y) (x := x27) (by rw [← List.head?_drop, hd27]; rfl) (by omega))))))
     refine zE fun _ hK28 => ?_
     refine rp0 hst10 hfr10 (.cons rfl (zH rfl) <| .nil) fun a11 w11 m11 hst11 hle11 hk11 => ?_
     have hfr11 := hk11.fr (.o 6 <| .o 5 <| .n 2 <| .nil)
     clear hst10 hfr10 hk11
     refine hK28 _ _ ?_
     refine zU ?_
     repeat (with_reducible first | refine zL ?_ | refine zI ?_)
     exact zV hst11 hfr11 rfl (.tmp rfl <| .nil) (by rw [hr]; rfl)
    ·try simp only [nqs] at hb46
     refine zR ?_
     refine hK25 _ _ ?_
     refine rp0 hst10 hfr10 (.cons rfl (zG rfl) <| .cons rfl (zy rfl rfl ⟨by omega, by omega⟩) <| .cons rfl (zH rfl) <| .nil) fun a11 w11 m11 hst11 hle11 hk11 => ?_
     have hfr11 := hk11.fr (.o 5 <| .o 4 <| .n 6 <| .nil)
     clear hst10 hfr10 hk11
     have zq10 := hle10.trans hle11
     have zq11 := hle9.trans zq10
     have hlh11 := hlh8.trans zq11
     exact ⟨y + 1, m11, by show (Z1 t).2.length - (y + 1) < (Z1 t).2.length - y; omega, ⟨hst11, hlh11, hfr11.sub (.c <| .c <| .c <| .nil), ⟨by show y + 1 ≤ (Z1 t).2.length; omega, by rw [ht27, le8_snoc, hJ2, decide_eq_true (by omega)]; rfl⟩⟩⟩
   ·try simp only [nqs] at hb39
    have hge : y = (Z1 t).2.length := by omega
    rw [List.take_of_length_le (by omega)] at hJ2
    refine z7 ?_
    refine hK20 _ _ ?_
    refine zE fun _ hK30 => ?_
    refine rp0 hst9 hfr9 (.cons rfl (zH rfl) <| .nil) fun a10 w10 m10 hst10 hle10 hk10 => ?_
    have hfr10 := hk10.fr (.o 6 <| .o 5 <| .n 2 <| .nil)
    clear hst9 hfr9 hk10
    refine hK30 _ _ ?_
    refine zU ?_
    repeat (with_reducible first | refine zL ?_ | refine zI ?_)
    exact zV hst10 hfr10 rfl (.tmp rfl <| .nil) (by rw [small_yes hq.1 hq.2.1 hq.2.2 hJ1 hJ2]; rfl)
set_option maxHeartbeats 3200000 in
theorem shown_c {w : World} {m : Mem}  (hA : Agree w m)  : FnV Tryz.prog 9 #[] w m (fun _ _ v => v = .bool true) := by
 refine zY (vs := []) func9 rfl rfl rfl fun a0 hfr0 => ?_
 have hst0 := zX hA (zw [] _ w m)
 have hM : MLe m m := MLe.refl m
 refine zE fun _ hK1 => ?_
 refine rp0 hst0 hfr0 (.cons rfl (zH rfl) <| .nil) fun a1 w1 m1 hst1 hle1 hk1 => ?_
 have hfr1 := hk1.fr (.nil)
 clear hst0 hfr0 hk1
 refine hK1 _ _ ?_
 refine zE fun _ hK2 => ?_
 replace hst1 := hst1.more (r := .free) trivial List.nodup_nil (by simp [Res.blocks])
 refine ra0 (tch := [(10, 0, (fun v => .blk v _)), (11, 0, (fun v => .blkx v _ _))]) hst1 hfr1 (.cons rfl (zZ (φ := MP.subQ zAB) rfl (.nil) call10 (fun w m hK => by have hle_ := KC.le hK; have hA := KC.agree hK; exact FnG.mono (zEf hA) fun _ _ _ _ h => h)) <| .cons rfl (ZQ (.cons rfl <| .nil) underlying41 sizeOf9 zeroValue9 rfl rfl rfl rfl) <| .cons rfl (ZK 11 rfl rfl rfl fun y11 => ZM (.cons rfl <| .cons rfl <| .nil) underlying43 zeroValue43 (.cons sizeOf41 <| .cons sizeOf3 <| .nil) rfl) <| .cons rfl (ZQ (.cons rfl <| .nil) underlying41 sizeOf9 zeroValue9 rfl rfl rfl rfl) <| .cons rfl (ZK 13 rfl rfl rfl fun y13 => ZM (.cons rfl <| .cons rfl <| .nil) underlying43 zeroValue43 (.cons sizeOf41 <| .cons sizeOf3 <| .nil) rfl) <| .cons rfl (ZI 10 rfl rfl rfl fun y10 => ZI 12 rfl rfl rfl fun y12 => ZI 14 rfl rfl rfl fun y14 => zZ (φ := MP.un (0, ⟨shR, 10⟩)) rfl (.cons rfl <| .cons rfl <| .cons rfl <| .cons rfl <| .nil) call27 (fun w m hK => by have hle_ := KC.le hK; have hA := KC.agree hK; have hr0_ := hK.2; have hr1_ := hK.1.2; have hr2_ := hK.1.1.2; exact FnG.mono ((by have h9 := rows7_c (n := 9) (a := ⟨[shE], 1⟩) (b := ⟨[shF], 2⟩) hA hr2_ (rowR_1 hr1_ ⟨by omega, by omega⟩) (rowR_1 hr0_ ⟨by omega, by omega⟩) (noneU_ok ⟨by omega, by omega⟩) (by simp) (by simp); rw [sh_rows] at h9; exact h9)) fun _ _ _ _ h => h)) <| .cons rfl (ZK 15 rfl rfl rfl fun y15 => zG rfl) <| .cons rfl (ZK 9 rfl rfl rfl fun y9 => zk rfl rfl) <| .cons rfl (ZI 9 rfl rfl rfl fun y9 => zk rfl rfl) <| .cons rfl (ZI 9 rfl rfl rfl fun y9 => zk rfl rfl) <| .consT rfl rfl (fun _ => rfl) rfl (zj zeroValue29 rfl) <| .consT rfl rfl (fun _ => rfl) rfl (ze 1 rfl rfl rfl fun y1 => ZL 16 rfl rfl rfl fun y16 => ZD rfl rfl rfl rfl rfl sizeOf29 rfl rfl rfl) <| .cons rfl (zH rfl) <| .cons rfl (zH rfl) <| .nil) fun a2 w2 m2 hst2 hle2 hk2 => ?_
 have hfr2 := hk2.fr (.n 2 <| .n 3 <| .nil)
 obtain ⟨g3, e3, _⟩ := hk2.ex 1 rfl
 replace hfr2 := hfr2.cons e3
 replace hst2 := hst2.fin (L' := [_]) (.cons e3 <| .cons e3 <| .nil)
 try simp only [List.take_succ_cons, List.take_zero, List.drop_succ_cons, List.drop_zero, List.cons_append, List.nil_append, List.append_nil, List.length_cons, List.length_nil, Nat.zero_add, Nat.reduceAdd] at hst2
 obtain ⟨⟨q1, q2⟩, hS, hst2⟩ := hst2.unx (k := 0) rfl (fun _ => rfl)
 clear hst1 hfr1 hk2
 refine hK2 _ _ ?_
 refine zE fun _ hK5 => ?_
 replace hst2 := hst2.more (r := .free) trivial List.nodup_nil (by simp [Res.blocks])
 refine ra0 (tch := [(5, 1, (fun v => .blk v _)), (6, 1, (fun v => .blkx v _ _))]) hst2 hfr2 (.cons rfl (zh (j := 0) rfl rfl isAgg29 sizeOf29 rfl) <| .cons rfl (zZ (φ := MP.rwb ⟨[shF], 9⟩ true) rfl (.cons rfl <| .cons rfl <| .nil) call31 (fun w m hK => by have hle_ := KC.le hK; have hA := KC.agree hK; have hS := hS.mono hle_; exact FnG.mono (rowU_c (U := shR) (n := 1) hA hS rfl rfl (shR_w (by omega))) fun _ _ _ _ h => h)) <| .cons rfl (ZK 21 rfl rfl rfl fun y21 => zG rfl) <| .cons rfl (ZK 19 rfl rfl rfl fun y19 => zk rfl rfl) <| .cons rfl (ZI 19 rfl rfl rfl fun y19 => zk rfl rfl) <| .consT rfl rfl (fun _ => rfl) rfl (zj zeroValue43 rfl) <| .consT rfl rfl (fun _ => rfl) rfl (ze 4 rfl rfl rfl fun y4 => ZL 22 rfl rfl rfl fun y22 => ZD rfl rfl rfl rfl rfl sizeOf43 rfl rfl rfl) <| .cons rfl (zH rfl) <| .nil) fun a3 w3 m3 hst3 hle3 hk3 => ?_
 have hfr3 := hk3.fr (.o 2 <| .o 3 <| .n 5 <| .nil)
 obtain ⟨g6, e6, _⟩ := hk3.ex 4 rfl
 replace hfr3 := hfr3.cons e6
 replace hst3 := hst3.fin (L' := [_, _]) (.cons e6 <| .cons e6 <| .nil)
 try simp only [List.take_succ_cons, List.take_zero, List.drop_succ_cons, List.drop_zero, List.cons_append, List.nil_append, List.append_nil, List.length_cons, List.length_nil, Nat.zero_add, Nat.reduceAdd] at hst3
 obtain ⟨⟨oF, cF⟩, hF, hst3⟩ := hst3.unx (k := 1) rfl (fun _ => rfl)
 clear hst2 hfr2 hk3
 have hsF := (zAF hF).1
 refine hK5 _ _ ?_
 refine zE fun _ hK8 => ?_
 replace hst3 := hst3.more (r := .free) trivial List.nodup_nil (by simp [Res.blocks])
 refine ra0 (tch := [(10, 2, (fun v => .blk v _)), (11, 2, (fun v => .blkx v _ _))]) hst3 hfr3 (.cons rfl (zZ (φ := MP.subQ zAB) rfl (.nil) call10 (fun w m hK => by have hle_ := KC.le hK; have hA := KC.agree hK; exact FnG.mono (zEf hA) fun _ _ _ _ h => h)) <| .cons rfl (zZ (φ := MP.ty (Zn 1)) rfl (.cons rfl <| .nil) call18 (fun w m hK => by have hle_ := KC.le hK; have hA := KC.agree hK; exact FnG.mono (zFL (n := 1) hA ⟨by omega, by omega⟩) fun _ _ _ _ h => h)) <| .cons rfl (zZ (φ := MP.ty (Zn 1)) rfl (.cons rfl <| .nil) call18 (fun w m hK => by have hle_ := KC.le hK; have hA := KC.agree hK; exact FnG.mono (zFL (n := 1) hA ⟨by omega, by omega⟩) fun _ _ _ _ h => h)) <| .cons rfl (ob_imgI 27 rfl rfl rfl fun y27 => zAf rfl underlying33 sizeOf45 zeroValue45 rfl rfl rfl rfl) <| .cons rfl (ZK 28 rfl rfl rfl fun y28 => ZM (.cons rfl <| .cons rfl <| .nil) underlying45 zeroValue45 (.cons sizeOf3 <| .cons sizeOf9 <| .cons sizeOf3 <| .cons sizeOf33 <| .cons sizeOf43 <| .nil) rfl) <| .cons rfl (ZI 25 rfl rfl rfl fun y25 => ZI 26 rfl rfl rfl fun y26 => ZI 29 rfl rfl rfl fun y29 => zZ (φ := MP.un (5, ⟨zAB, 9⟩)) rfl (.cons rfl <| .cons rfl <| .cons rfl <| .cons rfl <| .nil) call14 (fun w m hK => by have hle_ := KC.le hK; have hA := KC.agree hK; have hr0_ := hK.2; have hr1_ := hK.1.2; have hr2_ := hK.1.1.2; exact FnG.mono (types7_c (n := 9) (a := Zn 1) (b := zFV (Zn 1)) hA hr2_ hr1_ (refT_R hr0_.2 hr0_.1) sh_types) fun _ _ _ _ h => h)) <| .cons rfl (ZK 30 rfl rfl rfl fun y30 => zG rfl) <| .cons rfl (ZK 24 rfl rfl rfl fun y24 => zk rfl rfl) <| .cons rfl (ZI 24 rfl rfl rfl fun y24 => zk rfl rfl) <| .cons rfl (ZI 24 rfl rfl rfl fun y24 => zk rfl rfl) <| .consT rfl rfl (fun _ => rfl) rfl (zj zeroValue29 rfl) <| .consT rfl rfl (fun _ => rfl) rfl (ze 6 rfl rfl rfl fun y6 => ZL 31 rfl rfl rfl fun y31 => ZD rfl rfl rfl rfl rfl sizeOf29 rfl rfl rfl) <| .cons rfl (zH rfl) <| .cons rfl (zH rfl) <| .nil) fun a4 w4 m4 hst4 hle4 hk4 => ?_
 have hfr4 := hk4.fr (.o 2 <| .o 3 <| .o 5 <| .o 4 <| .n 8 <| .nil)
 obtain ⟨g9, e9, _⟩ := hk4.ex 6 rfl
 replace hst4 := hst4.fin (L' := [_, _, _]) (.cons e9 <| .cons e9 <| .nil)
 try simp only [List.take_succ_cons, List.take_zero, List.drop_succ_cons, List.drop_zero, List.cons_append, List.nil_append, List.append_nil, List.length_cons, List.length_nil, Nat.zero_add, Nat.reduceAdd] at hst4
 obtain ⟨y10, hy10, hst4⟩ := hst4.unx (k := 2) rfl (fun _ => rfl)
 replace hsF := hsF.mono hle4
 clear hst3 hfr3 hk4
 refine hK8 _ _ ?_
 refine zE fun _ hK11 => ?_
 have hln1 : (⟨[shF], 9⟩ : Rw).labels.length = 1 := rfl
 obtain ⟨p12, vs12, x12, ho12, hd12, hm_x12, ht12, hcv12, hl12, hv12⟩ := hsF.nth (k := 0) (by decide)
 cases ho12
 subst hv12
 refine rp0 hst4 hfr4 (.cons rfl (zG rfl) <| .cons rfl (zq rfl rfl) <| .cons rfl (zG rfl) <| .cons rfl (zG rfl) <| .cons rfl (zq rfl rfl) <| .cons rfl (z8 rfl rfl rfl) <| .cons rfl (zG rfl) <| .cons rfl (zG rfl) <| .cons rfl (z8 rfl rfl rfl) <| .cons rfl (zG rfl) <| .cons rfl (zF (off := 0) rfl underlying43 rfl rfl sizeOf41 rfl) <| .cons rfl (zW (j := 1) rfl rfl isAgg41 rfl) <| .cons rfl (zt rfl underlying41) <| .cons rfl (zq rfl rfl) <| .cons rfl (z8 rfl rfl rfl) <| .cons rfl (zG rfl) <| .cons rfl (zF (off := 0) rfl underlying43 rfl rfl sizeOf41 rfl) <| .cons rfl (zW (j := 1) rfl rfl isAgg41 rfl) <| .cons rfl (zN (k := 0) rfl rfl underlying41 sizeOf9 (by omega) (by omega)) <| .cons rfl (zr rfl hcv12 isAgg9 rfl) <| .cons rfl (zBg rfl rfl) <| .cons rfl (z8 rfl rfl rfl) <| .cons rfl (zG rfl) <| .cons rfl (zF (off := 1) rfl underlying43 rfl rfl sizeOf3 rfl) <| .cons rfl (zW (j := 1) rfl rfl isAgg3 rfl) <| .cons rfl (zq rfl rfl) <| .cons rfl (z8 rfl rfl rfl) <| .cons rfl (zG rfl) <| .cons rfl (zG rfl) <| .cons rfl (zq rfl rfl) <| .cons rfl (z8 rfl rfl rfl) <| .cons rfl (zH rfl) <| .nil) fun a5 w5 m5 hst5 hle5 hk5 => ?_
 have hfr5 := hk5.fr (.n 0 <| .nil)
 clear hst4 hfr4 hk5
 have e9 : shF = x12 := by simpa using hd12
 subst e9
 refine hK11 _ _ ?_
 refine zU ?_
 repeat (with_reducible first | refine zL ?_ | refine zI ?_)
 exact zV hst5 hfr5 rfl (.tmp rfl <| .nil) (rfl)
end Go.Proofs.YtlidonjpgigocaaGreat
namespace Go.Proofs.YtlidonjpgigocaaGreat
open Go.Proofs.Tryz
set_option linter.all false
set_option maxRecDepth 4000
open Go.RowKit
abbrev RI : Mem → List Value → Int → Prop := fun _ vs x => vs = [Value.int .i64 x]
abbrev Rws (m : Mem) (o : Option Addr) (n c : Nat) (l : List Rw) : Prop := Sl (fun m vs t => RwR m t vs) 2 m o n c l
theorem Rws.mono {m m' : Mem} {o : Option Addr} {n c : Nat} {l : List Rw} (h : Rws m o n c l) (hm : MLe m m') : Rws m' o n c l := Sl.mono h (fun _ _ e => e.mono hm) hm
abbrev rsV (s : Sub) (y : ((Option Addr × Nat) × (Option Addr × Nat)) × ((Option Addr × Nat) × (Option Addr × Nat))) : List Value := [.slice y.1.1.1 (s.ts.map Prod.fst).length y.1.1.2, .slice y.1.2.1 (s.ts.map Prod.snd).length y.1.2.2, .slice y.2.1.1 (s.rs.map Prod.fst).length y.2.1.2, .slice y.2.2.1 (s.rs.map Prod.snd).length y.2.2.2]
def RSubR (m : Mem) (s : Sub) (vs : List Value) : Prop := ∃ y, vs = rsV s y ∧ Ints m y.1.1.1 (s.ts.map Prod.fst).length y.1.1.2 (s.ts.map Prod.fst) ∧ Tys m y.1.2.1 (s.ts.map Prod.snd).length y.1.2.2 (s.ts.map Prod.snd) ∧ Ints m y.2.1.1 (s.rs.map Prod.fst).length y.2.1.2 (s.rs.map Prod.fst) ∧ Rws m y.2.2.1 (s.rs.map Prod.snd).length y.2.2.2 (s.rs.map Prod.snd)
theorem RSubR.mono {m m' : Mem} {s : Sub} {vs : List Value} (h : RSubR m s vs) (hm : MLe m m') : RSubR m' s vs := by obtain ⟨y, e, h1, h2, h3, h4⟩ := h; exact ⟨y, e, h1.mono hm, h2.mono hm, h3.mono hm, h4.mono hm⟩
def MP.rsub (s : Sub) : MP := MP.mem (fun y => .agg (rsV s y).toArray) (fun y m => RSubR m s (rsV s y)) fun hm h => h.mono hm
def zBT {α : Type} (n : Int) (l : List (Int × α)) : List (Int × α) := l.filter fun p => !decide (p.1 = n)
theorem others_in {α : Type} {n : Int} {l : List (Int × α)} {p : Int × α} {y : Nat} (hp : l[y]? = some p) (h : ¬ p.1 = n) : zBT n (l.take (y + 1)) = zBT n (l.take y) ++ [p] := by
 have hy := (List.getElem?_eq_some_iff.1 hp).1
 rw [List.take_succ, hp]; unfold zBT; rw [List.filter_append]; simp [h]
theorem zGs {α : Type} {n : Int} {l : List (Int × α)} {p : Int × α} {y : Nat} (hp : l[y]? = some p) (h : p.1 = n) : zBT n (l.take (y + 1)) = zBT n (l.take y) := by
 rw [List.take_succ, hp]; unfold zBT; rw [List.filter_append]; simp [h]
theorem zDC {α : Type} (n : Int) (l : List (Int × α)) : (zBT n l).length ≤ l.length := List.length_filter_le _ _
theorem zCj {α β : Type} {f : α → β} {l : List α} {y : Nat} {x : β} {p : α} (hp : l[y]? = some p) (hd : (l.map f).drop y = x :: (l.map f).drop (y + 1)) : x = f p := by
 have h : (l.map f)[y]? = some x := by rw [← List.head?_drop, hd]; rfl
 rw [List.getElem?_map, hp] at h; injection h with h; exact h.symm
set_option maxHeartbeats 1600000 in
theorem zFw {w : World} {m : Mem} {s : Sub} {vs_s : List Value} {n : Int} {x : Ty} {vs_x : List Value} (hA : Agree w m) (h_s : RSubR m s vs_s) (h_x : TyR m x vs_x) (hl : s.ts.length ≤ 4000000) : FnV Tryz.prog 61 #[.agg vs_s.toArray, .int .i64 n, .agg vs_x.toArray] w m (fun _ m v => (MP.rsub ⟨zAY n x s.ts, s.rs⟩).p m v) := by
 obtain ⟨⟨⟨⟨oA_s, cA_s⟩, oB_s, cB_s⟩, ⟨oC_s, cC_s⟩, oD_s, cD_s⟩, rfl, hqa_s, hqb_s, hqc_s, hqd_s⟩ := id h_s
 have hgb_s := hqa_s.big; have hgd_s := hqc_s.big; simp only [List.length_map] at hgb_s hgd_s
 obtain ⟨o_x, c_x, oL_x, cL_x, rfl, hk_x, hs_x, hi_x, hj_x, hr_x⟩ := h_x.open_
 have hbg_x := hk_x.big; have hcp_x := hk_x.cap; have hbs_x := hs_x.big; have hcs_x := hs_x.cap
 have hrw_x : RwR _ ⟨x.labels, x.rv⟩ _ := ⟨_, _, rfl, hs_x, hr_x⟩
 refine zY (vs := [_, _, _]) func61 rfl rfl rfl fun a0 hfr0 => ?_
 have hst0 := zX hA (zw [] _ w m)
 have hM : MLe m m := MLe.refl m
 have hol := zDC n s.ts
 refine zE fun _ hK1 => ?_
 replace hst0 := hst0.more (r := .free) trivial List.nodup_nil (by simp [Res.blocks])
 refine ra0 (tch := [(2, 0, (fun v => .blk v _))]) hst0 hfr0 (.cons rfl (ZA rfl rfl) <| .cons rfl (ZA rfl rfl) <| .consT rfl rfl (fun _ => rfl) rfl (zj zeroValue36 rfl) <| .nil) fun a1 w1 m1 hst1 hle1 hk1 => ?_
 have hfr1 := hk1.fr (.o 1 <| .nil)
 obtain ⟨g2, e2, hc3⟩ := hk1.ex 3 rfl
 replace hfr1 := hfr1.cons e2
 obtain ⟨g3, e3, hc5⟩ := hk1.ex 5 rfl
 replace hfr1 := hfr1.cons e3
 obtain ⟨gT, e4, _⟩ := hk1.ex 6 rfl
 replace hfr1 := hfr1.cons e4
 replace hst1 := hst1.fin (L' := [_]) (.cons e4 <| .nil)
 replace hqa_s := hqa_s.mono hle1
 replace hqb_s := hqb_s.mono hle1
 replace hqc_s := hqc_s.mono hle1
 replace hqd_s := hqd_s.mono hle1
 replace h_x := h_x.mono hle1
 clear hst0 hfr0 hk1
 refine hK1 _ _ ?_
 refine zE fun _ hK5 => ?_
 replace hst1 := hst1.more (r := .free) trivial List.nodup_nil (by simp [Res.blocks])
 refine ra0 (tch := [(5, 1, (fun v => .blk v _)), (6, 1, (fun v => .blk v _))]) hst1 hfr1 (.cons rfl (zF (off := 2) rfl underlying36 rfl rfl sizeOf32 rfl) <| .cons rfl (zK rfl hc3 isAgg32 rfl) <| .cons rfl (zF (off := 3) rfl underlying36 rfl rfl sizeOf34 rfl) <| .cons rfl (zK rfl hc3 isAgg34 rfl) <| .cons rfl (ZM (.cons rfl <| .cons rfl <| .nil) underlying36 zeroValue36 (.cons sizeOf32 <| .cons sizeOf33 <| .cons sizeOf32 <| .cons sizeOf34 <| .nil) rfl) <| .consT rfl rfl (fun _ => rfl) rfl (zj zeroValue36 rfl) <| .consT rfl rfl (fun _ => rfl) rfl (ze 7 rfl rfl rfl fun y7 => ZD rfl rfl rfl rfl rfl sizeOf36 rfl rfl rfl) <| .nil) fun a2 w2 m2 hst2 hle2 hk2 => ?_
 have hfr2 := hk2.fr (.o 1 <| .o 3 <| .o 5 <| .o 6 <| .nil)
 obtain ⟨gB, e6, _⟩ := hk2.ex 7 rfl
 replace hfr2 := hfr2.cons e6
 replace hst2 := hst2.fin (L' := [_, _]) (.cons e6 <| .cons e6 <| .nil)
 try simp only [List.take_succ_cons, List.take_zero, List.drop_succ_cons, List.drop_zero, List.cons_append, List.nil_append, List.append_nil, List.length_cons, List.length_nil, Nat.zero_add, Nat.reduceAdd] at hst2
 replace hqa_s := hqa_s.mono hle2
 replace hqb_s := hqb_s.mono hle2
 replace hqc_s := hqc_s.mono hle2
 replace hqd_s := hqd_s.mono hle2
 replace h_x := h_x.mono hle2
 replace hc3 := hc3.mono hle2
 replace hc5 := hc5.mono hle2
 clear hst1 hfr1 hk2
 have hst2 := hst2.more (r := .rowx (.slice none 0 0) 0 1 3 (MP.reads RI 1 [])) zCq List.nodup_nil (by simp [Res.blocks, Zd])
 have hsl_V : Ints m2 none ([] : List Int).length 0 ([] : List Int) := Sl.empty
 have hst2 := hst2.more (r := .rowx (.slice none 0 0) 0 6 45 (MP.reads (fun m vs t => TyR m t vs) 6 [])) zCq List.nodup_nil (by simp [Res.blocks, Zd])
 have hsl_Y : Tys m2 none ([] : List Ty).length 0 ([] : List Ty) := Sl.empty
 refine hK5 _ _ ?_
 refine zE fun _ hK7 => ?_
 refine zE fun _ hK8 => ?_
 refine rp0 hst2 hfr2 (.cons rfl (zH rfl) <| .nil) fun a3 w3 m3 hst3 hle3 hk3 => ?_
 have hfr3 := hk3.fr (.o 1 <| .o 3 <| .o 5 <| .o 6 <| .o 7 <| .n 8 <| .nil)
 replace hqa_s := hqa_s.mono hle3
 replace hqb_s := hqb_s.mono hle3
 replace hqc_s := hqc_s.mono hle3
 replace hqd_s := hqd_s.mono hle3
 replace h_x := h_x.mono hle3
 replace hc3 := hc3.mono hle3
 replace hc5 := hc5.mono hle3
 replace hsl_V := hsl_V.mono hle3
 replace hsl_Y := hsl_Y.mono hle3
 clear hst2 hfr2 hk3
 refine hK8 _ _ ?_
 refine zT ?_
 refine z6 (T := [(1, _), (3, _), (5, _), (6, _), (7, _)]) (fun (y : Nat × Option Addr × Nat × List Int × Option Addr × Nat × List Ty) => ([(8, .int .i64 (y.1 : Int))] : List (Nat × Value))) (fun y => [_, .blk (.pointer (some ⟨gB, 0, none⟩)) (.cells ([.slice y.2.1 y.2.2.2.1.length y.2.2.1, .slice y.2.2.2.2.1 y.2.2.2.2.2.2.length y.2.2.2.2.2.1, .slice oC_s (s.rs.map Prod.fst).length cC_s, .slice oD_s (s.rs.map Prod.snd).length cD_s] : List Value).toArray 36), .rowx (nz (.slice y.2.1 y.2.2.2.1.length y.2.2.1)) y.2.2.2.1.length 1 3 (MP.reads RI 1 y.2.2.2.1), .rowx (nz (.slice y.2.2.2.2.1 y.2.2.2.2.2.2.length y.2.2.2.2.2.1)) y.2.2.2.2.2.2.length 6 45 (MP.reads (fun m vs t => TyR m t vs) 6 y.2.2.2.2.2.2)]) (fun (y : Nat × Option Addr × Nat × List Int × Option Addr × Nat × List Ty) m => (fun (y : Nat) (gvo : Option Addr) (gvp : Nat) (gv : List Int) (gyo : Option Addr) (gyp : Nat) (gy : List Ty) => (y ≤ (s.ts.map Prod.fst).length) ∧ (Ints m gvo gv.length gvp gv) ∧ (gv = (zBT n (s.ts.take y)).map Prod.fst) ∧ (Tys m gyo gy.length gyp gy) ∧ (gy = (zBT n (s.ts.take y)).map Prod.snd)) y.1 y.2.1 y.2.2.1 y.2.2.2.1 y.2.2.2.2.1 y.2.2.2.2.2.1 y.2.2.2.2.2.2) (fun y => (s.ts.map Prod.fst).length - y.1) ((0, none, 0, ([] : List Int), none, 0, ([] : List Ty))) ⟨hst3, MLe.refl _, hfr3.sub (.c <| .c <| .c <| .c <| .c <| .c <| .nil), ⟨Nat.zero_le _, hsl_V, rfl, hsl_Y, rfl⟩⟩ fun y a4 w4 m4 hh4 => ?_
 have hst4 := hh4.st; have hle4 := hh4.le; have hfr4 := hh4.fr; have hrel := hh4.rel; clear hh4
 replace hqa_s := hqa_s.mono hle4
 replace hqb_s := hqb_s.mono hle4
 replace hqc_s := hqc_s.mono hle4
 replace hqd_s := hqd_s.mono hle4
 replace h_x := h_x.mono hle4
 replace hc3 := hc3.mono hle4
 replace hc5 := hc5.mono hle4
 clear hst3 hfr3
 obtain ⟨y, gvo, gvp, gv, gyo, gyp, gy⟩ := y
 dsimp only at hrel hfr4 hst4
 obtain ⟨hyn, hsl_gv, hlen_gv, hsl_gy, hlen_gy⟩ := hrel
 have hot9 := zDC n (s.ts.take y)
 rw [List.length_take] at hot9
 have hgv9 : gv.length ≤ 4000000 := by rw [hlen_gv, List.length_map]; omega
 have hgy9 : gy.length ≤ 4000000 := by rw [hlen_gy, List.length_map]; omega
 have hlh4 := hle4
 refine zE fun _ hK10 => ?_
 refine zE fun _ hK11 => ?_
 refine rp0 hst4 hfr4 (.cons rfl (zG rfl) <| .cons rfl (zF (off := 0) rfl underlying36 rfl rfl sizeOf32 rfl) <| .cons rfl (zK rfl hc3 isAgg32 rfl) <| .cons rfl (zt rfl underlying32) <| .cons rfl (ZG rfl rfl) <| .nil) fun a5 w5 m5 hst5 hle5 hk5 => ?_
 have hfr5 := hk5.fr (.o 8 <| .o 1 <| .o 3 <| .o 5 <| .o 6 <| .o 7 <| .n 18 <| .nil)
 replace hqa_s := hqa_s.mono hle5
 replace hqb_s := hqb_s.mono hle5
 replace hqc_s := hqc_s.mono hle5
 replace hqd_s := hqd_s.mono hle5
 replace h_x := h_x.mono hle5
 replace hc3 := hc3.mono hle5
 replace hc5 := hc5.mono hle5
 replace hsl_gv := hsl_gv.mono hle5
 replace hsl_gy := hsl_gy.mono hle5
 have hlh5 := hlh4.trans hle5
 clear hst4 hfr4 hk5
 refine hK11 _ _ ?_
 refine zJ hfr5 rfl rfl (fun hb18 => ?_) (fun hb18 => ?_)
 ·try simp only [nqs] at hb18
  refine zR ?_
  refine hK10 _ _ ?_
  refine zE fun _ hK12 => ?_
  refine zT ?_
  refine zE fun _ hK13 => ?_
  have hyl : y < s.ts.length := by rw [← List.length_map (f := Prod.fst)]; omega
  obtain ⟨p9, hp9⟩ : ∃ p, s.ts[y]? = some p := ⟨_, List.getElem?_eq_getElem hyl⟩
  have hyl2 : y < (s.ts.map Prod.snd).length := by rw [List.length_map]; exact hyl
  obtain ⟨p14, vs14, x14, ho14, hd14, hm_x14, ht14, hcv14, hl14, hv14⟩ := hqa_s.nth (k := y) (by omega)
  cases ho14
  subst hv14
  refine rp0 hst5 hfr5 (.cons rfl (zF (off := 0) rfl underlying36 rfl rfl sizeOf32 rfl) <| .cons rfl (zK rfl hc3 isAgg32 rfl) <| .cons rfl (zG rfl) <| .cons rfl (zN (k := y) rfl rfl underlying32 sizeOf3 rfl (by omega)) <| .cons rfl (zr rfl hcv14 isAgg3 rfl) <| .cons rfl (zG rfl) <| .cons rfl (Z6 rfl rfl) <| .nil) fun a6 w6 m6 hst6 hle6 hk6 => ?_
  have hfr6 := hk6.fr (.o 8 <| .o 1 <| .o 3 <| .o 5 <| .o 6 <| .o 7 <| .n 27 <| .nil)
  clear hst5 hfr5 hk6
  have e9 := zCj hp9 hd14
  refine hK13 _ _ ?_
  refine zJ hfr6 rfl rfl (fun hb27 => ?_) (fun hb27 => ?_)
  ·try simp only [nqs] at hb27
   have hoi := others_in (n := n) hp9 (by rw [← e9]; exact hb27)
   refine zE fun _ hK15 => ?_
   replace hc3 := hc3.mono hle6
   replace hcv14 := hcv14.mono hle6
   refine zn (tch := [(8, 2, (fun v => .rowx (nz v) _ _ _ _)), (10, 1, (fun u => .blk _ (.cells (_ ++ [u] ++ _).toArray _)))]) (fun _ => mixed) hst6 hfr6 (by kernel_rfl) (by kernel_rfl) (by kernel_rfl) (.cons rfl (zF (off := 0) rfl underlying36 rfl rfl sizeOf32 rfl) <| .cons rfl (zW (j := 1) rfl rfl isAgg32 rfl) <| .cons rfl (zF (off := 0) rfl underlying36 rfl rfl sizeOf32 rfl) <| .cons rfl (zK rfl hc3 isAgg32 rfl) <| .cons rfl (zG rfl) <| .cons rfl (zN (k := y) rfl rfl underlying32 sizeOf3 rfl (by omega)) <| .cons rfl (zr rfl hcv14 isAgg3 rfl) <| .cons rfl (ZQ (.cons rfl <| .nil) underlying32 sizeOf3 zeroValue3 rfl rfl rfl rfl) <| .consT rfl rfl (fun _ => rfl) rfl (ze 35 rfl rfl rfl fun y35 => zAV (size := 1) (bytes := 8) (l := gv) (l' := [x14]) rfl rfl (fun _ => by first | exact .inl rfl | exact .inr (.inl rfl)) underlying32 type3 rfl rfl rfl rfl (fun w m hK => Sl.one (vs := [_]) hK.2 rfl rfl) rfl (by decide) (by simp only [maxLen]; omega) (by omega)) <| .cons rfl (zF (off := 0) rfl underlying36 rfl rfl sizeOf32 rfl) <| .consT rfl rfl (fun _ => rfl) rfl (ze 36 rfl rfl rfl fun y36 => Ze rfl rfl rfl rfl rfl sizeOf32 rfl rfl rfl) <| .nil) fun a7 w7 m7 hst7 hle7 hk7 => ?_
   have hfr7 := hk7.fr (.o 8 <| .o 1 <| .o 3 <| .o 5 <| .o 6 <| .o 7 <| .nil)
   obtain ⟨⟨V_16o, V_16p⟩, e17, hsl_V_16⟩ := hk7.ex 36 rfl
   replace hst7 := hst7.fin (L' := [_, _, _, _]) (.cons e17 <| .cons e17 <| .nil)
   try simp only [List.take_succ_cons, List.take_zero, List.drop_succ_cons, List.drop_zero, List.cons_append, List.nil_append, List.append_nil, List.length_cons, List.length_nil, Nat.zero_add, Nat.reduceAdd] at hst7
   clear hst6 hfr6 hk7
   replace hsl_V_16 : Ints m7 V_16o (gv ++ [x14]).length V_16p (gv ++ [x14]) := hsl_V_16
   refine hK15 _ _ ?_
   have zq1 := hle6.trans hle7
   replace hqb_s := hqb_s.mono zq1
   obtain ⟨p18, vs18, x18, ho18, hd18, hm_x18, ht18, hcv18, hl18, hv18⟩ := hqb_s.nth (k := y) (by omega)
   cases ho18
   obtain ⟨o18, c18, oL18, cL18, rfl, hkd18, hs18, hi18, hj18, hr18⟩ := hv18.open_
   have hbg18 := hkd18.big; have hcp18 := hkd18.cap; have hbs18 := hs18.big; have hcs18 := hs18.cap
   have hrw18 : RwR _ ⟨x18.labels, x18.rv⟩ _ := ⟨_, _, rfl, hs18, hr18⟩
   replace hc3 := hc3.mono hle7
   refine zn (tch := [(8, 3, (fun v => .rowx (nz v) _ _ _ _)), (10, 1, (fun u => .blk _ (.cells (_ ++ [u] ++ _).toArray _)))]) (fun _ => mixed) hst7 hfr7 (by kernel_rfl) (by kernel_rfl) (by kernel_rfl) (.cons rfl (zF (off := 1) rfl underlying36 rfl rfl sizeOf33 rfl) <| .cons rfl (zW (j := 1) rfl rfl isAgg33 rfl) <| .cons rfl (zF (off := 1) rfl underlying36 rfl rfl sizeOf33 rfl) <| .cons rfl (zK rfl hc3 isAgg33 rfl) <| .cons rfl (zG rfl) <| .cons rfl (zN (k := y) rfl rfl underlying33 sizeOf45 rfl (by omega)) <| .cons rfl (zS rfl hcv18 isAgg45 sizeOf45 rfl rfl) <| .cons rfl (zAf rfl underlying33 sizeOf45 zeroValue45 rfl rfl rfl rfl) <| .consT rfl rfl (fun _ => rfl) rfl (ze 45 rfl rfl rfl fun y45 => zAV (size := 6) (bytes := 88) (l := gy) (l' := [x18]) rfl rfl (fun _ => by first | exact .inl rfl | exact .inr (.inl rfl)) underlying33 type45 rfl rfl rfl rfl (fun w m hK => Sl.one (vs := [_, _, _, _, _, _]) hK.2 rfl (hv18.mono (KC.le hK))) rfl (by decide) (by simp only [maxLen]; omega) (by omega)) <| .cons rfl (zF (off := 1) rfl underlying36 rfl rfl sizeOf33 rfl) <| .consT rfl rfl (fun _ => rfl) rfl (ze 46 rfl rfl rfl fun y46 => Ze rfl rfl rfl rfl rfl sizeOf33 rfl rfl rfl) <| .nil) fun a8 w8 m8 hst8 hle8 hk8 => ?_
   have hfr8 := hk8.fr (.o 8 <| .o 1 <| .o 3 <| .o 5 <| .o 6 <| .o 7 <| .nil)
   obtain ⟨⟨Y_19o, Y_19p⟩, e20, hsl_Y_19⟩ := hk8.ex 46 rfl
   replace hst8 := hst8.fin (L' := [_, _, _, _]) (.cons e20 <| .cons e20 <| .nil)
   try simp only [List.take_succ_cons, List.take_zero, List.drop_succ_cons, List.drop_zero, List.cons_append, List.nil_append, List.append_nil, List.length_cons, List.length_nil, Nat.zero_add, Nat.reduceAdd] at hst8
   clear hst7 hfr7 hk8
   replace hsl_Y_19 : Tys m8 Y_19o (gy ++ [x18]).length Y_19p (gy ++ [x18]) := hsl_Y_19
   have e8 := zCj hp9 hd18
   refine hK12 _ _ ?_
   refine rp0 hst8 hfr8 (.cons rfl (zG rfl) <| .cons rfl (zy rfl rfl ⟨by omega, by omega⟩) <| .cons rfl (zH rfl) <| .nil) fun a9 w9 m9 hst9 hle9 hk9 => ?_
   have hfr9 := hk9.fr (.o 1 <| .o 3 <| .o 5 <| .o 6 <| .o 7 <| .n 8 <| .nil)
   clear hst8 hfr8 hk9
   have zq2 := hle8.trans hle9
   replace hsl_V_16 := hsl_V_16.mono zq2
   replace hsl_Y_19 := hsl_Y_19.mono hle9
   have zq3 := zq1.trans zq2
   have hlh9 := hlh5.trans zq3
   exact ⟨(y + 1, V_16o, V_16p, (gv ++ [x14]), Y_19o, Y_19p, (gy ++ [x18])), m9, by show (s.ts.map Prod.fst).length - (y + 1) < (s.ts.map Prod.fst).length - y; omega, ⟨hst9, hlh9, hfr9.sub (.c <| .c <| .c <| .c <| .c <| .c <| .nil), ⟨by show y + 1 ≤ (s.ts.map Prod.fst).length; omega, hsl_V_16, by rw [hoi, List.map_append, ← hlen_gv]; show _ = _ ++ [p9.1]; rw [← e9], hsl_Y_19, by rw [hoi, List.map_append, ← hlen_gy]; show _ = _ ++ [p9.2]; rw [← e8]⟩⟩⟩
  ·try simp only [nqs] at hb27
   have hoi := zGs (n := n) hp9 (by rw [← e9]; omega)
   refine zR ?_
   refine hK12 _ _ ?_
   refine rp0 hst6 hfr6 (.cons rfl (zG rfl) <| .cons rfl (zy rfl rfl ⟨by omega, by omega⟩) <| .cons rfl (zH rfl) <| .nil) fun a7 w7 m7 hst7 hle7 hk7 => ?_
   have hfr7 := hk7.fr (.o 1 <| .o 3 <| .o 5 <| .o 6 <| .o 7 <| .n 8 <| .nil)
   clear hst6 hfr6 hk7
   have zq4 := hle6.trans hle7
   replace hsl_gv := hsl_gv.mono zq4
   replace hsl_gy := hsl_gy.mono zq4
   have hlh7 := hlh5.trans zq4
   exact ⟨(y + 1, gvo, gvp, gv, gyo, gyp, gy), m7, by show (s.ts.map Prod.fst).length - (y + 1) < (s.ts.map Prod.fst).length - y; omega, ⟨hst7, hlh7, hfr7.sub (.c <| .c <| .c <| .c <| .c <| .c <| .nil), ⟨by show y + 1 ≤ (s.ts.map Prod.fst).length; omega, hsl_gv, by rw [hoi]; exact hlen_gv, hsl_gy, by rw [hoi]; exact hlen_gy⟩⟩⟩
 ·try simp only [nqs] at hb18
  have hlm : (s.ts.map Prod.fst).length = s.ts.length := List.length_map _
  have hge : y = s.ts.length := by omega
  rw [List.take_of_length_le (by omega)] at hlen_gv hlen_gy
  refine z7 ?_
  refine hK7 _ _ ?_
  refine zE fun _ hK21 => ?_
  refine ra0 (tch := [(4, 2, (fun v => .rowx (nz v) _ _ _ _)), (6, 1, (fun u => .blk _ (.cells (_ ++ [u] ++ _).toArray _)))]) hst5 hfr5 (.cons rfl (zF (off := 0) rfl underlying36 rfl rfl sizeOf32 rfl) <| .cons rfl (zW (j := 1) rfl rfl isAgg32 rfl) <| .cons rfl (zG rfl) <| .cons rfl (ZQ (.cons rfl <| .nil) underlying32 sizeOf3 zeroValue3 rfl rfl rfl rfl) <| .consT rfl rfl (fun _ => rfl) rfl (ze 51 rfl rfl rfl fun y51 => zAV (size := 1) (bytes := 8) (l := gv) (l' := [n]) rfl rfl (fun _ => by first | exact .inl rfl | exact .inr (.inl rfl)) underlying32 type3 rfl rfl rfl rfl (fun w m hK => Sl.one (vs := [_]) hK.2 rfl rfl) rfl (by decide) (by simp only [maxLen]; omega) (by omega)) <| .cons rfl (zF (off := 0) rfl underlying36 rfl rfl sizeOf32 rfl) <| .consT rfl rfl (fun _ => rfl) rfl (ze 52 rfl rfl rfl fun y52 => Ze rfl rfl rfl rfl rfl sizeOf32 rfl rfl rfl) <| .nil) fun a6 w6 m6 hst6 hle6 hk6 => ?_
  have hfr6 := hk6.fr (.o 8 <| .o 5 <| .o 6 <| .o 7 <| .nil)
  obtain ⟨⟨V_22o, V_22p⟩, e23, hsl_V_22⟩ := hk6.ex 52 rfl
  replace hst6 := hst6.fin (L' := [_, _, _, _]) (.cons e23 <| .cons e23 <| .nil)
  try simp only [List.take_succ_cons, List.take_zero, List.drop_succ_cons, List.drop_zero, List.cons_append, List.nil_append, List.append_nil, List.length_cons, List.length_nil, Nat.zero_add, Nat.reduceAdd] at hst6
  clear hst5 hfr5 hk6
  replace hsl_V_22 : Ints m6 V_22o (gv ++ [n]).length V_22p (gv ++ [n]) := hsl_V_22
  refine hK21 _ _ ?_
  refine zE fun _ hK24 => ?_
  replace h_x := h_x.mono hle6
  replace hc5 := hc5.mono hle6
  refine ra0 (tch := [(4, 3, (fun v => .rowx (nz v) _ _ _ _)), (6, 1, (fun u => .blk _ (.cells (_ ++ [u] ++ _).toArray _)))]) hst6 hfr6 (.cons rfl (zF (off := 1) rfl underlying36 rfl rfl sizeOf33 rfl) <| .cons rfl (zW (j := 1) rfl rfl isAgg33 rfl) <| .cons rfl (zS rfl hc5 isAgg45 sizeOf45 rfl rfl) <| .cons rfl (zAf rfl underlying33 sizeOf45 zeroValue45 rfl rfl rfl rfl) <| .consT rfl rfl (fun _ => rfl) rfl (ze 57 rfl rfl rfl fun y57 => zAV (size := 6) (bytes := 88) (l := gy) (l' := [x]) rfl rfl (fun _ => by first | exact .inl rfl | exact .inr (.inl rfl)) underlying33 type45 rfl rfl rfl rfl (fun w m hK => Sl.one (vs := [_, _, _, _, _, _]) hK.2 rfl (h_x.mono (KC.le hK))) rfl (by decide) (by simp only [maxLen]; omega) (by omega)) <| .cons rfl (zF (off := 1) rfl underlying36 rfl rfl sizeOf33 rfl) <| .consT rfl rfl (fun _ => rfl) rfl (ze 58 rfl rfl rfl fun y58 => Ze rfl rfl rfl rfl rfl sizeOf33 rfl rfl rfl) <| .nil) fun a7 w7 m7 hst7 hle7 hk7 => ?_
  have hfr7 := hk7.fr (.o 8 <| .o 6 <| .o 7 <| .nil)
  obtain ⟨⟨Y_25o, Y_25p⟩, e26, hsl_Y_25⟩ := hk7.ex 58 rfl
  replace hst7 := hst7.fin (L' := [_, _, _, _]) (.cons e26 <| .cons e26 <| .nil)
  try simp only [List.take_succ_cons, List.take_zero, List.drop_succ_cons, List.drop_zero, List.cons_append, List.nil_append, List.append_nil, List.length_cons, List.length_nil, Nat.zero_add, Nat.reduceAdd] at hst7
  clear hst6 hfr6 hk7
  replace hsl_Y_25 : Tys m7 Y_25o (gy ++ [x]).length Y_25p (gy ++ [x]) := hsl_Y_25
  refine hK24 _ _ ?_
  refine zE fun _ hK27 => ?_
  have hV : (gv ++ [n]) = (zAY n x s.ts).map Prod.fst := by show gv ++ [n] = _; rw [hlen_gv]; simp [zAY, zBT]
  have hY : (gy ++ [x]) = (zAY n x s.ts).map Prod.snd := by show gy ++ [x] = _; rw [hlen_gy]; simp [zAY, zBT]
  replace hsl_V_22 := hsl_V_22.mono hle7
  have hq1 : Ints m7 V_22o ((zAY n x s.ts).map Prod.fst).length V_22p ((zAY n x s.ts).map Prod.fst) := by rw [← hV]; exact hsl_V_22
  have hq2 : Tys m7 Y_25o ((zAY n x s.ts).map Prod.snd).length Y_25p ((zAY n x s.ts).map Prod.snd) := by rw [← hY]; exact hsl_Y_25
  refine ra0 (tch := [(1, 0, (fun _ => .blk _ _))]) hst7 hfr7 (.cons rfl (zh (j := 1) rfl rfl isAgg36 sizeOf36 rfl) <| .consT rfl rfl (fun _ => rfl) rfl (zm rfl rfl rfl sizeOf36 rfl rfl rfl) <| .nil) fun a8 w8 m8 hst8 hle8 hk8 => ?_
  have hfr8 := hk8.fr (.o 8 <| .o 6 <| .nil)
  replace hst8 := hst8.fin (L' := [_, _, _, _]) (.cons rfl <| .nil)
  try simp only [List.take_succ_cons, List.take_zero, List.drop_succ_cons, List.drop_zero, List.cons_append, List.nil_append, List.append_nil, List.length_cons, List.length_nil, Nat.zero_add, Nat.reduceAdd] at hst8
  clear hst7 hfr7 hk8
  refine hK27 _ _ ?_
  refine zU ?_
  repeat (with_reducible first | refine zL ?_ | refine zI ?_)
  have zq5 := hle7.trans hle8
  have zq6 := hle6.trans zq5
  replace hqc_s := hqc_s.mono zq6
  replace hqd_s := hqd_s.mono zq6
  replace hq1 := hq1.mono hle8
  replace hq2 := hq2.mono hle8
  exact zV hst8 hfr8 rfl (.cell rfl (ZO (ZJ (hst8.loc.at_ (k := 0) rfl)) isAgg36 sizeOf36) <| .nil) (⟨(((V_22o, V_22p), (Y_25o, Y_25p)), (oC_s, cC_s), (oD_s, cD_s)), by show _ = Value.agg (rsV _ _).toArray; simp only [rsV]; rw [← hV, ← hY]; rfl, ⟨_, rfl, hq1, hq2, hqc_s, hqd_s⟩⟩)
set_option maxHeartbeats 1600000 in
theorem rsetRow_c {w : World} {m : Mem} {s : Sub} {vs_s : List Value} {n : Int} {x : Rw} {vs_x : List Value} (hA : Agree w m) (h_s : RSubR m s vs_s) (h_x : RwR m x vs_x) (hl : s.rs.length ≤ 4000000) : FnV Tryz.prog 86 #[.agg vs_s.toArray, .int .i64 n, .agg vs_x.toArray] w m (fun _ m v => (MP.rsub ⟨s.ts, zAY n x s.rs⟩).p m v) := by
 obtain ⟨⟨⟨⟨oA_s, cA_s⟩, oB_s, cB_s⟩, ⟨oC_s, cC_s⟩, oD_s, cD_s⟩, rfl, hqa_s, hqb_s, hqc_s, hqd_s⟩ := id h_s
 have hgb_s := hqa_s.big; have hgd_s := hqc_s.big; simp only [List.length_map] at hgb_s hgd_s
 obtain ⟨o_x, c_x, rfl, hs_x, hr_x⟩ := h_x.open_
 have hbs_x := hs_x.big; have hcs_x := hs_x.cap
 refine zY (vs := [_, _, _]) func86 rfl rfl rfl fun a0 hfr0 => ?_
 have hst0 := zX hA (zw [] _ w m)
 have hM : MLe m m := MLe.refl m
 have hol := zDC n s.rs
 refine zE fun _ hK1 => ?_
 replace hst0 := hst0.more (r := .free) trivial List.nodup_nil (by simp [Res.blocks])
 refine ra0 (tch := [(2, 0, (fun v => .blk v _))]) hst0 hfr0 (.cons rfl (ZA rfl rfl) <| .cons rfl (ZA rfl rfl) <| .consT rfl rfl (fun _ => rfl) rfl (zj zeroValue36 rfl) <| .nil) fun a1 w1 m1 hst1 hle1 hk1 => ?_
 have hfr1 := hk1.fr (.o 1 <| .nil)
 obtain ⟨g2, e2, hc3⟩ := hk1.ex 3 rfl
 replace hfr1 := hfr1.cons e2
 obtain ⟨g3, e3, hc5⟩ := hk1.ex 5 rfl
 replace hfr1 := hfr1.cons e3
 obtain ⟨gT, e4, _⟩ := hk1.ex 6 rfl
 replace hfr1 := hfr1.cons e4
 replace hst1 := hst1.fin (L' := [_]) (.cons e4 <| .nil)
 replace hqa_s := hqa_s.mono hle1
 replace hqb_s := hqb_s.mono hle1
 replace hqc_s := hqc_s.mono hle1
 replace hqd_s := hqd_s.mono hle1
 replace h_x := h_x.mono hle1
 clear hst0 hfr0 hk1
 refine hK1 _ _ ?_
 refine zE fun _ hK5 => ?_
 replace hst1 := hst1.more (r := .free) trivial List.nodup_nil (by simp [Res.blocks])
 refine ra0 (tch := [(5, 1, (fun v => .blk v _)), (6, 1, (fun v => .blk v _))]) hst1 hfr1 (.cons rfl (zF (off := 0) rfl underlying36 rfl rfl sizeOf32 rfl) <| .cons rfl (zK rfl hc3 isAgg32 rfl) <| .cons rfl (zF (off := 1) rfl underlying36 rfl rfl sizeOf33 rfl) <| .cons rfl (zK rfl hc3 isAgg33 rfl) <| .cons rfl (ZM (.cons rfl <| .cons rfl <| .nil) underlying36 zeroValue36 (.cons sizeOf32 <| .cons sizeOf33 <| .cons sizeOf32 <| .cons sizeOf34 <| .nil) rfl) <| .consT rfl rfl (fun _ => rfl) rfl (zj zeroValue36 rfl) <| .consT rfl rfl (fun _ => rfl) rfl (ze 7 rfl rfl rfl fun y7 => ZD rfl rfl rfl rfl rfl sizeOf36 rfl rfl rfl) <| .nil) fun a2 w2 m2 hst2 hle2 hk2 => ?_
 have hfr2 := hk2.fr (.o 1 <| .o 3 <| .o 5 <| .o 6 <| .nil)
 obtain ⟨gB, e6, _⟩ := hk2.ex 7 rfl
 replace hfr2 := hfr2.cons e6
 replace hst2 := hst2.fin (L' := [_, _]) (.cons e6 <| .cons e6 <| .nil)
 try simp only [List.take_succ_cons, List.take_zero, List.drop_succ_cons, List.drop_zero, List.cons_append, List.nil_append, List.append_nil, List.length_cons, List.length_nil, Nat.zero_add, Nat.reduceAdd] at hst2
 replace hqa_s := hqa_s.mono hle2
 replace hqb_s := hqb_s.mono hle2
 replace hqc_s := hqc_s.mono hle2
 replace hqd_s := hqd_s.mono hle2
 replace h_x := h_x.mono hle2
 replace hc3 := hc3.mono hle2
 replace hc5 := hc5.mono hle2
 clear hst1 hfr1 hk2
 have hst2 := hst2.more (r := .rowx (.slice none 0 0) 0 1 3 (MP.reads RI 1 [])) zCq List.nodup_nil (by simp [Res.blocks, Zd])
 have hsl_V : Ints m2 none ([] : List Int).length 0 ([] : List Int) := Sl.empty
 have hst2 := hst2.more (r := .rowx (.slice none 0 0) 0 2 43 (MP.reads (fun m vs t => RwR m t vs) 2 [])) zCq List.nodup_nil (by simp [Res.blocks, Zd])
 have hsl_Y : Rws m2 none ([] : List Rw).length 0 ([] : List Rw) := Sl.empty
 refine hK5 _ _ ?_
 refine zE fun _ hK7 => ?_
 refine zE fun _ hK8 => ?_
 refine rp0 hst2 hfr2 (.cons rfl (zH rfl) <| .nil) fun a3 w3 m3 hst3 hle3 hk3 => ?_
 have hfr3 := hk3.fr (.o 1 <| .o 3 <| .o 5 <| .o 6 <| .o 7 <| .n 8 <| .nil)
 replace hqa_s := hqa_s.mono hle3
 replace hqb_s := hqb_s.mono hle3
 replace hqc_s := hqc_s.mono hle3
 replace hqd_s := hqd_s.mono hle3
 replace h_x := h_x.mono hle3
 replace hc3 := hc3.mono hle3
 replace hc5 := hc5.mono hle3
 replace hsl_V := hsl_V.mono hle3
 replace hsl_Y := hsl_Y.mono hle3
 clear hst2 hfr2 hk3
 refine hK8 _ _ ?_
 refine zT ?_
 refine z6 (T := [(1, _), (3, _), (5, _), (6, _), (7, _)]) (fun (y : Nat × Option Addr × Nat × List Int × Option Addr × Nat × List Rw) => ([(8, .int .i64 (y.1 : Int))] : List (Nat × Value))) (fun y => [_, .blk (.pointer (some ⟨gB, 0, none⟩)) (.cells ([.slice oA_s (s.ts.map Prod.fst).length cA_s, .slice oB_s (s.ts.map Prod.snd).length cB_s, .slice y.2.1 y.2.2.2.1.length y.2.2.1, .slice y.2.2.2.2.1 y.2.2.2.2.2.2.length y.2.2.2.2.2.1] : List Value).toArray 36), .rowx (nz (.slice y.2.1 y.2.2.2.1.length y.2.2.1)) y.2.2.2.1.length 1 3 (MP.reads RI 1 y.2.2.2.1), .rowx (nz (.slice y.2.2.2.2.1 y.2.2.2.2.2.2.length y.2.2.2.2.2.1)) y.2.2.2.2.2.2.length 2 43 (MP.reads (fun m vs t => RwR m t vs) 2 y.2.2.2.2.2.2)]) (fun (y : Nat × Option Addr × Nat × List Int × Option Addr × Nat × List Rw) m => (fun (y : Nat) (gvo : Option Addr) (gvp : Nat) (gv : List Int) (gyo : Option Addr) (gyp : Nat) (gy : List Rw) => (y ≤ (s.rs.map Prod.fst).length) ∧ (Ints m gvo gv.length gvp gv) ∧ (gv = (zBT n (s.rs.take y)).map Prod.fst) ∧ (Rws m gyo gy.length gyp gy) ∧ (gy = (zBT n (s.rs.take y)).map Prod.snd)) y.1 y.2.1 y.2.2.1 y.2.2.2.1 y.2.2.2.2.1 y.2.2.2.2.2.1 y.2.2.2.2.2.2) (fun y => (s.rs.map Prod.fst).length - y.1) ((0, none, 0, ([] : List Int), none, 0, ([] : List Rw))) ⟨hst3, MLe.refl _, hfr3.sub (.c <| .c <| .c <| .c <| .c <| .c <| .nil), ⟨Nat.zero_le _, hsl_V, rfl, hsl_Y, rfl⟩⟩ fun y a4 w4 m4 hh4 => ?_
 have hst4 := hh4.st; have hle4 := hh4.le; have hfr4 := hh4.fr; have hrel := hh4.rel; clear hh4
 replace hqa_s := hqa_s.mono hle4
 replace hqb_s := hqb_s.mono hle4
 replace hqc_s := hqc_s.mono hle4
 replace hqd_s := hqd_s.mono hle4
 replace h_x := h_x.mono hle4
 replace hc3 := hc3.mono hle4
 replace hc5 := hc5.mono hle4
 clear hst3 hfr3
 obtain ⟨y, gvo, gvp, gv, gyo, gyp, gy⟩ := y
 dsimp only at hrel hfr4 hst4
 obtain ⟨hyn, hsl_gv, hlen_gv, hsl_gy, hlen_gy⟩ := hrel
 have hot9 := zDC n (s.rs.take y)
 rw [List.length_take] at hot9
 have hgv9 : gv.length ≤ 4000000 := by rw [hlen_gv, List.length_map]; omega
 have hgy9 : gy.length ≤ 4000000 := by rw [hlen_gy, List.length_map]; omega
 have hlh4 := hle4
 refine zE fun _ hK10 => ?_
 refine zE fun _ hK11 => ?_
 refine rp0 hst4 hfr4 (.cons rfl (zG rfl) <| .cons rfl (zF (off := 2) rfl underlying36 rfl rfl sizeOf32 rfl) <| .cons rfl (zK rfl hc3 isAgg32 rfl) <| .cons rfl (zt rfl underlying32) <| .cons rfl (ZG rfl rfl) <| .nil) fun a5 w5 m5 hst5 hle5 hk5 => ?_
 have hfr5 := hk5.fr (.o 8 <| .o 1 <| .o 3 <| .o 5 <| .o 6 <| .o 7 <| .n 18 <| .nil)
 replace hqa_s := hqa_s.mono hle5
 replace hqb_s := hqb_s.mono hle5
 replace hqc_s := hqc_s.mono hle5
 replace hqd_s := hqd_s.mono hle5
 replace h_x := h_x.mono hle5
 replace hc3 := hc3.mono hle5
 replace hc5 := hc5.mono hle5
 replace hsl_gv := hsl_gv.mono hle5
 replace hsl_gy := hsl_gy.mono hle5
 have hlh5 := hlh4.trans hle5
 clear hst4 hfr4 hk5
 refine hK11 _ _ ?_
 refine zJ hfr5 rfl rfl (fun hb18 => ?_) (fun hb18 => ?_)
 ·try simp only [nqs] at hb18
  refine zR ?_
  refine hK10 _ _ ?_
  refine zE fun _ hK12 => ?_
  refine zT ?_
  refine zE fun _ hK13 => ?_
  have hyl : y < s.rs.length := by rw [← List.length_map (f := Prod.fst)]; omega
  obtain ⟨p9, hp9⟩ : ∃ p, s.rs[y]? = some p := ⟨_, List.getElem?_eq_getElem hyl⟩
  have hyl2 : y < (s.rs.map Prod.snd).length := by rw [List.length_map]; exact hyl
  obtain ⟨p14, vs14, x14, ho14, hd14, hm_x14, ht14, hcv14, hl14, hv14⟩ := hqc_s.nth (k := y) (by omega)
  cases ho14
  subst hv14
  refine rp0 hst5 hfr5 (.cons rfl (zF (off := 2) rfl underlying36 rfl rfl sizeOf32 rfl) <| .cons rfl (zK rfl hc3 isAgg32 rfl) <| .cons rfl (zG rfl) <| .cons rfl (zN (k := y) rfl rfl underlying32 sizeOf3 rfl (by omega)) <| .cons rfl (zr rfl hcv14 isAgg3 rfl) <| .cons rfl (zG rfl) <| .cons rfl (Z6 rfl rfl) <| .nil) fun a6 w6 m6 hst6 hle6 hk6 => ?_
  have hfr6 := hk6.fr (.o 8 <| .o 1 <| .o 3 <| .o 5 <| .o 6 <| .o 7 <| .n 27 <| .nil)
  clear hst5 hfr5 hk6
  have e9 := zCj hp9 hd14
  refine hK13 _ _ ?_
  refine zJ hfr6 rfl rfl (fun hb27 => ?_) (fun hb27 => ?_)
  ·try simp only [nqs] at hb27
   have hoi := others_in (n := n) hp9 (by rw [← e9]; exact hb27)
   refine zE fun _ hK15 => ?_
   replace hc3 := hc3.mono hle6
   replace hcv14 := hcv14.mono hle6
   refine zn (tch := [(8, 2, (fun v => .rowx (nz v) _ _ _ _)), (10, 1, (fun u => .blk _ (.cells (_ ++ [u] ++ _).toArray _)))]) (fun _ => mixed) hst6 hfr6 (by kernel_rfl) (by kernel_rfl) (by kernel_rfl) (.cons rfl (zF (off := 2) rfl underlying36 rfl rfl sizeOf32 rfl) <| .cons rfl (zW (j := 1) rfl rfl isAgg32 rfl) <| .cons rfl (zF (off := 2) rfl underlying36 rfl rfl sizeOf32 rfl) <| .cons rfl (zK rfl hc3 isAgg32 rfl) <| .cons rfl (zG rfl) <| .cons rfl (zN (k := y) rfl rfl underlying32 sizeOf3 rfl (by omega)) <| .cons rfl (zr rfl hcv14 isAgg3 rfl) <| .cons rfl (ZQ (.cons rfl <| .nil) underlying32 sizeOf3 zeroValue3 rfl rfl rfl rfl) <| .consT rfl rfl (fun _ => rfl) rfl (ze 35 rfl rfl rfl fun y35 => zAV (size := 1) (bytes := 8) (l := gv) (l' := [x14]) rfl rfl (fun _ => by first | exact .inl rfl | exact .inr (.inl rfl)) underlying32 type3 rfl rfl rfl rfl (fun w m hK => Sl.one (vs := [_]) hK.2 rfl rfl) rfl (by decide) (by simp only [maxLen]; omega) (by omega)) <| .cons rfl (zF (off := 2) rfl underlying36 rfl rfl sizeOf32 rfl) <| .consT rfl rfl (fun _ => rfl) rfl (ze 36 rfl rfl rfl fun y36 => Ze rfl rfl rfl rfl rfl sizeOf32 rfl rfl rfl) <| .nil) fun a7 w7 m7 hst7 hle7 hk7 => ?_
   have hfr7 := hk7.fr (.o 8 <| .o 1 <| .o 3 <| .o 5 <| .o 6 <| .o 7 <| .nil)
   obtain ⟨⟨V_16o, V_16p⟩, e17, hsl_V_16⟩ := hk7.ex 36 rfl
   replace hst7 := hst7.fin (L' := [_, _, _, _]) (.cons e17 <| .cons e17 <| .nil)
   try simp only [List.take_succ_cons, List.take_zero, List.drop_succ_cons, List.drop_zero, List.cons_append, List.nil_append, List.append_nil, List.length_cons, List.length_nil, Nat.zero_add, Nat.reduceAdd] at hst7
   clear hst6 hfr6 hk7
   replace hsl_V_16 : Ints m7 V_16o (gv ++ [x14]).length V_16p (gv ++ [x14]) := hsl_V_16
   refine hK15 _ _ ?_
   have zq1 := hle6.trans hle7
   replace hqd_s := hqd_s.mono zq1
   obtain ⟨p18, vs18, x18, ho18, hd18, hm_x18, ht18, hcv18, hl18, hv18⟩ := hqd_s.nth (k := y) (by omega)
   cases ho18
   obtain ⟨o18, c18, rfl, hs18, hr18⟩ := hv18.open_
   have hbs18 := hs18.big; have hcs18 := hs18.cap
   replace hc3 := hc3.mono hle7
   refine zn (tch := [(8, 3, (fun v => .rowx (nz v) _ _ _ _)), (10, 1, (fun u => .blk _ (.cells (_ ++ [u] ++ _).toArray _)))]) (fun _ => mixed) hst7 hfr7 (by kernel_rfl) (by kernel_rfl) (by kernel_rfl) (.cons rfl (zF (off := 3) rfl underlying36 rfl rfl sizeOf34 rfl) <| .cons rfl (zW (j := 1) rfl rfl isAgg34 rfl) <| .cons rfl (zF (off := 3) rfl underlying36 rfl rfl sizeOf34 rfl) <| .cons rfl (zK rfl hc3 isAgg34 rfl) <| .cons rfl (zG rfl) <| .cons rfl (zN (k := y) rfl rfl underlying34 sizeOf43 rfl (by omega)) <| .cons rfl (zS rfl hcv18 isAgg43 sizeOf43 rfl rfl) <| .cons rfl (zAf rfl underlying34 sizeOf43 zeroValue43 rfl rfl rfl rfl) <| .consT rfl rfl (fun _ => rfl) rfl (ze 45 rfl rfl rfl fun y45 => zAV (size := 2) (bytes := 32) (l := gy) (l' := [x18]) rfl rfl (fun _ => by first | exact .inl rfl | exact .inr (.inl rfl)) underlying34 type43 rfl rfl rfl rfl (fun w m hK => Sl.one (vs := [_, _]) hK.2 rfl (hv18.mono (KC.le hK))) rfl (by decide) (by simp only [maxLen]; omega) (by omega)) <| .cons rfl (zF (off := 3) rfl underlying36 rfl rfl sizeOf34 rfl) <| .consT rfl rfl (fun _ => rfl) rfl (ze 46 rfl rfl rfl fun y46 => Ze rfl rfl rfl rfl rfl sizeOf34 rfl rfl rfl) <| .nil) fun a8 w8 m8 hst8 hle8 hk8 => ?_
   have hfr8 := hk8.fr (.o 8 <| .o 1 <| .o 3 <| .o 5 <| .o 6 <| .o 7 <| .nil)
   obtain ⟨⟨Y_19o, Y_19p⟩, e20, hsl_Y_19⟩ := hk8.ex 46 rfl
   replace hst8 := hst8.fin (L' := [_, _, _, _]) (.cons e20 <| .cons e20 <| .nil)
   try simp only [List.take_succ_cons, List.take_zero, List.drop_succ_cons, List.drop_zero, List.cons_append, List.nil_append, List.append_nil, List.length_cons, List.length_nil, Nat.zero_add, Nat.reduceAdd] at hst8
   clear hst7 hfr7 hk8
   replace hsl_Y_19 : Rws m8 Y_19o (gy ++ [x18]).length Y_19p (gy ++ [x18]) := hsl_Y_19
   have e8 := zCj hp9 hd18
   refine hK12 _ _ ?_
   refine rp0 hst8 hfr8 (.cons rfl (zG rfl) <| .cons rfl (zy rfl rfl ⟨by omega, by omega⟩) <| .cons rfl (zH rfl) <| .nil) fun a9 w9 m9 hst9 hle9 hk9 => ?_
   have hfr9 := hk9.fr (.o 1 <| .o 3 <| .o 5 <| .o 6 <| .o 7 <| .n 8 <| .nil)
   clear hst8 hfr8 hk9
   have zq2 := hle8.trans hle9
   replace hsl_V_16 := hsl_V_16.mono zq2
   replace hsl_Y_19 := hsl_Y_19.mono hle9
   have zq3 := zq1.trans zq2
   have hlh9 := hlh5.trans zq3
   exact ⟨(y + 1, V_16o, V_16p, (gv ++ [x14]), Y_19o, Y_19p, (gy ++ [x18])), m9, by show (s.rs.map Prod.fst).length - (y + 1) < (s.rs.map Prod.fst).length - y; omega, ⟨hst9, hlh9, hfr9.sub (.c <| .c <| .c <| .c <| .c <| .c <| .nil), ⟨by show y + 1 ≤ (s.rs.map Prod.fst).length; omega, hsl_V_16, by rw [hoi, List.map_append, ← hlen_gv]; show _ = _ ++ [p9.1]; rw [← e9], hsl_Y_19, by rw [hoi, List.map_append, ← hlen_gy]; show _ = _ ++ [p9.2]; rw [← e8]⟩⟩⟩
  ·try simp only [nqs] at hb27
   have hoi := zGs (n := n) hp9 (by rw [← e9]; omega)
   refine zR ?_
   refine hK12 _ _ ?_
   refine rp0 hst6 hfr6 (.cons rfl (zG rfl) <| .cons rfl (zy rfl rfl ⟨by omega, by omega⟩) <| .cons rfl (zH rfl) <| .nil) fun a7 w7 m7 hst7 hle7 hk7 => ?_
   have hfr7 := hk7.fr (.o 1 <| .o 3 <| .o 5 <| .o 6 <| .o 7 <| .n 8 <| .nil)
   clear hst6 hfr6 hk7
   have zq4 := hle6.trans hle7
   replace hsl_gv := hsl_gv.mono zq4
   replace hsl_gy := hsl_gy.mono zq4
   have hlh7 := hlh5.trans zq4
   exact ⟨(y + 1, gvo, gvp, gv, gyo, gyp, gy), m7, by show (s.rs.map Prod.fst).length - (y + 1) < (s.rs.map Prod.fst).length - y; omega, ⟨hst7, hlh7, hfr7.sub (.c <| .c <| .c <| .c <| .c <| .c <| .nil), ⟨by show y + 1 ≤ (s.rs.map Prod.fst).length; omega, hsl_gv, by rw [hoi]; exact hlen_gv, hsl_gy, by rw [hoi]; exact hlen_gy⟩⟩⟩
 ·try simp only [nqs] at hb18
  have hlm : (s.rs.map Prod.fst).length = s.rs.length := List.length_map _
  have hge : y = s.rs.length := by omega
  rw [List.take_of_length_le (by omega)] at hlen_gv hlen_gy
  refine z7 ?_
  refine hK7 _ _ ?_
  refine zE fun _ hK21 => ?_
  refine ra0 (tch := [(4, 2, (fun v => .rowx (nz v) _ _ _ _)), (6, 1, (fun u => .blk _ (.cells (_ ++ [u] ++ _).toArray _)))]) hst5 hfr5 (.cons rfl (zF (off := 2) rfl underlying36 rfl rfl sizeOf32 rfl) <| .cons rfl (zW (j := 1) rfl rfl isAgg32 rfl) <| .cons rfl (zG rfl) <| .cons rfl (ZQ (.cons rfl <| .nil) underlying32 sizeOf3 zeroValue3 rfl rfl rfl rfl) <| .consT rfl rfl (fun _ => rfl) rfl (ze 51 rfl rfl rfl fun y51 => zAV (size := 1) (bytes := 8) (l := gv) (l' := [n]) rfl rfl (fun _ => by first | exact .inl rfl | exact .inr (.inl rfl)) underlying32 type3 rfl rfl rfl rfl (fun w m hK => Sl.one (vs := [_]) hK.2 rfl rfl) rfl (by decide) (by simp only [maxLen]; omega) (by omega)) <| .cons rfl (zF (off := 2) rfl underlying36 rfl rfl sizeOf32 rfl) <| .consT rfl rfl (fun _ => rfl) rfl (ze 52 rfl rfl rfl fun y52 => Ze rfl rfl rfl rfl rfl sizeOf32 rfl rfl rfl) <| .nil) fun a6 w6 m6 hst6 hle6 hk6 => ?_
  have hfr6 := hk6.fr (.o 8 <| .o 5 <| .o 6 <| .o 7 <| .nil)
  obtain ⟨⟨V_22o, V_22p⟩, e23, hsl_V_22⟩ := hk6.ex 52 rfl
  replace hst6 := hst6.fin (L' := [_, _, _, _]) (.cons e23 <| .cons e23 <| .nil)
  try simp only [List.take_succ_cons, List.take_zero, List.drop_succ_cons, List.drop_zero, List.cons_append, List.nil_append, List.append_nil, List.length_cons, List.length_nil, Nat.zero_add, Nat.reduceAdd] at hst6
  clear hst5 hfr5 hk6
  replace hsl_V_22 : Ints m6 V_22o (gv ++ [n]).length V_22p (gv ++ [n]) := hsl_V_22
  refine hK21 _ _ ?_
  refine zE fun _ hK24 => ?_
  replace h_x := h_x.mono hle6
  replace hc5 := hc5.mono hle6
  refine ra0 (tch := [(4, 3, (fun v => .rowx (nz v) _ _ _ _)), (6, 1, (fun u => .blk _ (.cells (_ ++ [u] ++ _).toArray _)))]) hst6 hfr6 (.cons rfl (zF (off := 3) rfl underlying36 rfl rfl sizeOf34 rfl) <| .cons rfl (zW (j := 1) rfl rfl isAgg34 rfl) <| .cons rfl (zS rfl hc5 isAgg43 sizeOf43 rfl rfl) <| .cons rfl (zAf rfl underlying34 sizeOf43 zeroValue43 rfl rfl rfl rfl) <| .consT rfl rfl (fun _ => rfl) rfl (ze 57 rfl rfl rfl fun y57 => zAV (size := 2) (bytes := 32) (l := gy) (l' := [x]) rfl rfl (fun _ => by first | exact .inl rfl | exact .inr (.inl rfl)) underlying34 type43 rfl rfl rfl rfl (fun w m hK => Sl.one (vs := [_, _]) hK.2 rfl (h_x.mono (KC.le hK))) rfl (by decide) (by simp only [maxLen]; omega) (by omega)) <| .cons rfl (zF (off := 3) rfl underlying36 rfl rfl sizeOf34 rfl) <| .consT rfl rfl (fun _ => rfl) rfl (ze 58 rfl rfl rfl fun y58 => Ze rfl rfl rfl rfl rfl sizeOf34 rfl rfl rfl) <| .nil) fun a7 w7 m7 hst7 hle7 hk7 => ?_
  have hfr7 := hk7.fr (.o 8 <| .o 6 <| .o 7 <| .nil)
  obtain ⟨⟨Y_25o, Y_25p⟩, e26, hsl_Y_25⟩ := hk7.ex 58 rfl
  replace hst7 := hst7.fin (L' := [_, _, _, _]) (.cons e26 <| .cons e26 <| .nil)
  try simp only [List.take_succ_cons, List.take_zero, List.drop_succ_cons, List.drop_zero, List.cons_append, List.nil_append, List.append_nil, List.length_cons, List.length_nil, Nat.zero_add, Nat.reduceAdd] at hst7
  clear hst6 hfr6 hk7
  replace hsl_Y_25 : Rws m7 Y_25o (gy ++ [x]).length Y_25p (gy ++ [x]) := hsl_Y_25
  refine hK24 _ _ ?_
  refine zE fun _ hK27 => ?_
  have hV : (gv ++ [n]) = (zAY n x s.rs).map Prod.fst := by show gv ++ [n] = _; rw [hlen_gv]; simp [zAY, zBT]
  have hY : (gy ++ [x]) = (zAY n x s.rs).map Prod.snd := by show gy ++ [x] = _; rw [hlen_gy]; simp [zAY, zBT]
  replace hsl_V_22 := hsl_V_22.mono hle7
  have hq1 : Ints m7 V_22o ((zAY n x s.rs).map Prod.fst).length V_22p ((zAY n x s.rs).map Prod.fst) := by rw [← hV]; exact hsl_V_22
  have hq2 : Rws m7 Y_25o ((zAY n x s.rs).map Prod.snd).length Y_25p ((zAY n x s.rs).map Prod.snd) := by rw [← hY]; exact hsl_Y_25
  refine ra0 (tch := [(1, 0, (fun _ => .blk _ _))]) hst7 hfr7 (.cons rfl (zh (j := 1) rfl rfl isAgg36 sizeOf36 rfl) <| .consT rfl rfl (fun _ => rfl) rfl (zm rfl rfl rfl sizeOf36 rfl rfl rfl) <| .nil) fun a8 w8 m8 hst8 hle8 hk8 => ?_
  have hfr8 := hk8.fr (.o 8 <| .o 6 <| .nil)
  replace hst8 := hst8.fin (L' := [_, _, _, _]) (.cons rfl <| .nil)
  try simp only [List.take_succ_cons, List.take_zero, List.drop_succ_cons, List.drop_zero, List.cons_append, List.nil_append, List.append_nil, List.length_cons, List.length_nil, Nat.zero_add, Nat.reduceAdd] at hst8
  clear hst7 hfr7 hk8
  refine hK27 _ _ ?_
  refine zU ?_
  repeat (with_reducible first | refine zL ?_ | refine zI ?_)
  have zq5 := hle7.trans hle8
  have zq6 := hle6.trans zq5
  replace hqa_s := hqa_s.mono zq6
  replace hqb_s := hqb_s.mono zq6
  replace hq1 := hq1.mono hle8
  replace hq2 := hq2.mono hle8
  exact zV hst8 hfr8 rfl (.cell rfl (ZO (ZJ (hst8.loc.at_ (k := 0) rfl)) isAgg36 sizeOf36) <| .nil) (⟨(((oA_s, cA_s), (oB_s, cB_s)), (V_22o, V_22p), (Y_25o, Y_25p)), by show _ = Value.agg (rsV _ _).toArray; simp only [rsV]; rw [← hV, ← hY]; rfl, ⟨_, rfl, hqa_s, hqb_s, hq1, hq2⟩⟩)
end Go.Proofs.YtlidonjpgigocaaGreat
namespace Go.Proofs.YtlidonjpgigocaaGreat
open Go.Proofs.Tryz
set_option linter.all false
set_option maxRecDepth 4000
open Go.RowKit
theorem zGu {α : Type} (n : Int) : ∀ (l : List (Int × α)) (i : Nat), (zBO i (l.map Prod.fst) n < 0 ∧ zP n l = none) ∨ ∃ (k : Nat) (p : Int × α), zBO i (l.map Prod.fst) n = ((i + k : Nat) : Int) ∧ l[k]? = some p ∧ zP n l = some p.2
 | [], i => .inl ⟨by simp [zBO], rfl⟩
 | (a, u) :: l, i => by
  by_cases h : n = a
  ·exact .inr ⟨0, (a, u), by simp [zBO, h], rfl, by simp [zP, h]⟩
  ·rcases zGu n l (i + 1) with ⟨h1, h2⟩ | ⟨k, p, h1, h2, h3⟩
   ·exact .inl ⟨by simp only [List.map_cons, zBO]; rw [if_neg h]; exact h1, by simp only [zP]; rw [if_neg h]; exact h2⟩
   ·exact .inr ⟨k + 1, p, by simp only [List.map_cons, zBO]; rw [if_neg h, h1]; congr 1; omega, by simpa using h2, by simp only [zP]; rw [if_neg h]; exact h3⟩
def leS (a b : Str) : Bool := Op.bytesLess a b || decide (a = b)
theorem leS_le (a b : Str) : leS a b = decide (a ≤ b) := by
 unfold leS; rw [bytesLess_eq, Bool.eq_iff_iff]
 simp only [Bool.or_eq_true, decide_eq_true_eq]
 constructor
 ·rintro (h | h)
  ·exact List.le_of_lt h
  ·subst h; exact List.le_refl _
 ·intro h
  by_cases h2 : a < b
  ·exact .inl h2
  ·exact .inr (List.le_antisymm h (List.not_lt.1 h2))
def zCH : List Str → Str → List Str
 | [], s => [s]
 | a :: l, s => if leS a s then a :: zCH l s else s :: a :: l
theorem putS_cons (a : Str) (l : List Str) (s : Str) : zCH (a :: l) s = if leS a s then a :: zCH l s else s :: a :: l := by rw [zCH]
theorem zDt (s : Str) : ∀ l : List Str, (zCH l s).Perm (l ++ [s])
 | [] => List.Perm.refl _
 | a :: l => by
  unfold zCH; split
  ·exact (zDt s l).cons a
  ·exact List.perm_append_comm (l₁ := [s]) (l₂ := a :: l)
theorem putS_len (l : List Str) (s : Str) : (zCH l s).length = l.length + 1 := by rw [(zDt s l).length_eq]; simp
theorem zFk (s : Str) : ∀ l : List Str, l.Pairwise (· ≤ ·) → (zCH l s).Pairwise (· ≤ ·)
 | [], _ => by simp [zCH]
 | a :: l, h => by
  rw [List.pairwise_cons] at h
  unfold zCH; split
  ·rename_i hl
   rw [leS_le, decide_eq_true_eq] at hl
   refine List.pairwise_cons.2 ⟨fun x hx => ?_, zFk s l h.2⟩
   rcases List.mem_append.1 ((zDt s l).mem_iff.1 hx) with hx | hx
   ·exact h.1 x hx
   ·rw [List.mem_singleton] at hx; subst hx; exact hl
  ·rename_i hl
   rw [leS_le, decide_eq_true_eq] at hl
   have hsa : s ≤ a := (List.le_total a s).resolve_left hl
   refine List.pairwise_cons.2 ⟨fun x hx => ?_, List.pairwise_cons.2 h⟩
   rcases List.mem_cons.1 hx with rfl | hx
   ·exact hsa
   ·exact List.le_trans hsa (h.1 x hx)
theorem zGT : ∀ (l acc : List Str), acc.Pairwise (· ≤ ·) → (l.foldl zCH acc).Perm (acc ++ l) ∧ (l.foldl zCH acc).Pairwise (· ≤ ·)
 | [], acc, h => by simpa using h
 | x :: l, acc, h => by
  obtain ⟨h1, h2⟩ := zGT l (zCH acc x) (zFk x acc h)
  refine ⟨h1.trans ?_, h2⟩
  have := (zDt x acc).append_right l
  rwa [List.append_assoc] at this
theorem sort_puts (l : List Str) : l.foldl zCH [] = ZT l := by
 obtain ⟨h1, h2⟩ := zGT l [] List.Pairwise.nil
 exact zDa (h1.trans (Zm l).symm) ((zBQ _).2 h2) (zBi l)
set_option maxHeartbeats 400000 in
theorem find_c {w : World} {m : Mem} {o_l : Option Addr} {c_l : Nat} {l : List Int} {n : Int} (hA : Agree w m) (h_l : Ints m o_l l.length c_l l) : FnV Tryz.prog 67 #[.slice o_l l.length c_l, .int .i64 n] w m (fun _ _ v => v = .int .i64 (zBO 0 l n)) := by
 have hb_l := h_l.big; have hc_l := h_l.cap
 refine zY (vs := [_, _]) func67 rfl rfl rfl fun a0 hfr0 => ?_
 have hst0 := zX hA (zw [] _ w m)
 have hM : MLe m m := MLe.refl m
 refine zE fun _ hK1 => ?_
 refine rp0 hst0 hfr0 (.cons rfl (zH rfl) <| .nil) fun a1 w1 m1 hst1 hle1 hk1 => ?_
 have hfr1 := hk1.fr (.o 0 <| .o 1 <| .nil)
 replace h_l := h_l.mono hle1
 clear hst0 hfr0 hk1
 refine hK1 _ _ ?_
 refine zE fun _ hK2 => ?_
 refine zE fun _ hK3 => ?_
 refine rp0 hst1 hfr1 (.cons rfl (zH rfl) <| .nil) fun a2 w2 m2 hst2 hle2 hk2 => ?_
 have hfr2 := hk2.fr (.o 0 <| .o 1 <| .n 5 <| .nil)
 replace h_l := h_l.mono hle2
 clear hst1 hfr1 hk2
 refine hK3 _ _ ?_
 refine zT ?_
 refine z6 (T := [(0, _), (1, _)]) (fun (y : Nat) => ([(5, .int .i64 (y : Int))] : List (Nat × Value))) (fun _ => _) (fun (y : Nat) m => (y ≤ l.length) ∧ (zBO 0 l n = zBO y (l.drop y) n)) (fun y => l.length - y) (0) ⟨hst2, MLe.refl _, hfr2.sub (.c <| .c <| .c <| .nil), ⟨Nat.zero_le _, rfl⟩⟩ fun y a3 w3 m3 hh3 => ?_
 have hst3 := hh3.st; have hle3 := hh3.le; have hfr3 := hh3.fr; have hrel := hh3.rel; clear hh3
 replace h_l := h_l.mono hle3
 clear hst2 hfr2
 obtain ⟨hyn, hrem⟩ := hrel
 have hlh3 := hle3
 refine zE fun _ hK5 => ?_
 refine zE fun _ hK6 => ?_
 refine rp0 hst3 hfr3 (.cons rfl (zG rfl) <| .cons rfl (zG rfl) <| .cons rfl (zt rfl underlying32) <| .cons rfl (ZG rfl rfl) <| .nil) fun a4 w4 m4 hst4 hle4 hk4 => ?_
 have hfr4 := hk4.fr (.o 5 <| .o 0 <| .o 1 <| .n 9 <| .nil)
 replace h_l := h_l.mono hle4
 have hlh4 := hlh3.trans hle4
 clear hst3 hfr3 hk4
 refine hK6 _ _ ?_
 refine zJ hfr4 rfl rfl (fun hb9 => ?_) (fun hb9 => ?_)
 ·try simp only [nqs] at hb9
  refine zR ?_
  refine hK5 _ _ ?_
  refine zE fun _ hK7 => ?_
  refine zT ?_
  refine zE fun _ hK8 => ?_
  obtain ⟨p9, vs9, x9, ho9, hd9, hm_x9, ht9, hcv9, hl9, hv9⟩ := h_l.nth (k := y) (by omega)
  cases ho9
  subst hv9
  try rw [hd9] at hrem
  try simp only [zBO] at hrem
  refine rp0 hst4 hfr4 (.cons rfl (zG rfl) <| .cons rfl (zG rfl) <| .cons rfl (zN (k := y) rfl rfl underlying32 sizeOf3 rfl (by omega)) <| .cons rfl (zr rfl hcv9 isAgg3 rfl) <| .cons rfl (zG rfl) <| .cons rfl (zq rfl rfl) <| .nil) fun a5 w5 m5 hst5 hle5 hk5 => ?_
  have hfr5 := hk5.fr (.o 5 <| .o 0 <| .o 1 <| .n 17 <| .nil)
  clear hst4 hfr4 hk5
  refine hK8 _ _ ?_
  refine zJ hfr5 rfl rfl (fun hb17 => ?_) (fun hb17 => ?_)
  ·try simp only [nqs] at hb17
   have hres : zBO 0 l n = (y : Int) := by rw [hrem, if_pos (by omega)]
   refine zE fun _ hK10 => ?_
   refine rp0 hst5 hfr5 (.cons rfl (zG rfl) <| .cons rfl (zH rfl) <| .nil) fun a6 w6 m6 hst6 hle6 hk6 => ?_
   have hfr6 := hk6.fr (.o 5 <| .n 4 <| .nil)
   clear hst5 hfr5 hk6
   refine hK10 _ _ ?_
   refine zU ?_
   repeat (with_reducible first | refine zL ?_ | refine zI ?_)
   exact zV hst6 hfr6 rfl (.tmp rfl <| .nil) (by refine congrArg (Value.int _) ?_; exact hres.symm)
  ·try simp only [nqs] at hb17
   refine zR ?_
   refine hK7 _ _ ?_
   refine rp0 hst5 hfr5 (.cons rfl (zG rfl) <| .cons rfl (zy rfl rfl ⟨by omega, by omega⟩) <| .cons rfl (zH rfl) <| .nil) fun a6 w6 m6 hst6 hle6 hk6 => ?_
   have hfr6 := hk6.fr (.o 0 <| .o 1 <| .n 5 <| .nil)
   clear hst5 hfr5 hk6
   have zq1 := hle5.trans hle6
   have hlh6 := hlh4.trans zq1
   exact ⟨y + 1, m6, by show l.length - (y + 1) < l.length - y; omega, ⟨hst6, hlh6, hfr6.sub (.c <| .c <| .c <| .nil), ⟨by show y + 1 ≤ l.length; omega, by rw [hrem, if_neg (by omega)]⟩⟩⟩
 ·try simp only [nqs] at hb9
  have hge : y = l.length := by omega
  rw [List.drop_of_length_le (by omega)] at hrem
  simp only [zBO] at hrem
  refine z7 ?_
  refine hK2 _ _ ?_
  refine zE fun _ hK12 => ?_
  refine rp0 hst4 hfr4 (.cons rfl (zH rfl) <| .nil) fun a5 w5 m5 hst5 hle5 hk5 => ?_
  have hfr5 := hk5.fr (.o 5 <| .n 4 <| .nil)
  clear hst4 hfr4 hk5
  refine hK12 _ _ ?_
  refine zU ?_
  repeat (with_reducible first | refine zL ?_ | refine zI ?_)
  exact zV hst5 hfr5 rfl (.tmp rfl <| .nil) (by refine congrArg (Value.int _) ?_; exact hrem.symm)
set_option maxHeartbeats 1600000 in
theorem rtype_c {w : World} {m : Mem} {s : Sub} {vs_s : List Value} {n : Int} (hA : Agree w m) (h_s : RSubR m s vs_s) : FnV Tryz.prog 42 #[.agg vs_s.toArray, .int .i64 n] w m (fun _ m v => (MP.tyb ((zP n s.ts).getD zAu) (zP n s.ts).isSome).p m v) := by
 obtain ⟨⟨⟨⟨oA_s, cA_s⟩, oB_s, cB_s⟩, ⟨oC_s, cC_s⟩, oD_s, cD_s⟩, rfl, hqa_s, hqb_s, hqc_s, hqd_s⟩ := id h_s
 have hgb_s := hqa_s.big; have hgd_s := hqc_s.big; simp only [List.length_map] at hgb_s hgd_s
 refine zY (vs := [_, _]) func42 rfl rfl rfl fun a0 hfr0 => ?_
 have hst0 := zX hA (zw [] _ w m)
 have hM : MLe m m := MLe.refl m
 have hlk := zGu n s.ts 0
 refine zE fun _ hK1 => ?_
 replace hst0 := hst0.more (r := .free) trivial List.nodup_nil (by simp [Res.blocks])
 refine ra0 (tch := [(1, 0, (fun v => .blk v _))]) hst0 hfr0 (.cons rfl (ZA rfl rfl) <| .consT rfl rfl (fun _ => rfl) rfl (zj zeroValue45 rfl) <| .cons rfl (zH rfl) <| .nil) fun a1 w1 m1 hst1 hle1 hk1 => ?_
 have hfr1 := hk1.fr (.o 1 <| .nil)
 obtain ⟨g2, e2, hc2⟩ := hk1.ex 2 rfl
 replace hfr1 := hfr1.cons e2
 obtain ⟨g3, e3, _⟩ := hk1.ex 4 rfl
 replace hfr1 := hfr1.cons e3
 replace hst1 := hst1.fin (L' := [_]) (.cons e3 <| .nil)
 replace h_s := h_s.mono hle1
 replace hqa_s := hqa_s.mono hle1
 replace hqb_s := hqb_s.mono hle1
 replace hqc_s := hqc_s.mono hle1
 replace hqd_s := hqd_s.mono hle1
 clear hst0 hfr0 hk1
 refine hK1 _ _ ?_
 refine zE fun _ hK4 => ?_
 refine rp0 hst1 hfr1 (.cons rfl (zF (off := 0) rfl underlying36 rfl rfl sizeOf32 rfl) <| .cons rfl (zK rfl hc2 isAgg32 rfl) <| .cons rfl (zG rfl) <| .cons rfl (zp rfl (.cons rfl <| .cons rfl <| .nil) call67 (fun w m hK => by have hle_ := KC.le hK; have hA := KC.agree hK; have h_s := h_s.mono hle_; have hqa_s := hqa_s.mono hle_; have hqb_s := hqb_s.mono hle_; have hqc_s := hqc_s.mono hle_; have hqd_s := hqd_s.mono hle_; have hc2 := hc2.mono hle_; exact find_c hA (by first | assumption | omega | simp_all))) <| .cons rfl (zH rfl) <| .nil) fun a2 w2 m2 hst2 hle2 hk2 => ?_
 have hfr2 := hk2.fr (.o 2 <| .o 4 <| .n 6 <| .nil)
 replace hqb_s := hqb_s.mono hle2
 replace hc2 := hc2.mono hle2
 clear hst1 hfr1 hk2
 refine hK4 _ _ ?_
 refine zE fun _ hK5 => ?_
 refine zE fun _ hK6 => ?_
 refine rp0 hst2 hfr2 (.cons rfl (zG rfl) <| .cons rfl (ZG rfl rfl) <| .nil) fun a3 w3 m3 hst3 hle3 hk3 => ?_
 have hfr3 := hk3.fr (.o 2 <| .o 4 <| .o 6 <| .n 12 <| .nil)
 replace hqb_s := hqb_s.mono hle3
 replace hc2 := hc2.mono hle3
 clear hst2 hfr2 hk3
 refine hK6 _ _ ?_
 refine zJ hfr3 rfl rfl (fun hb12 => ?_) (fun hb12 => ?_)
 ·try simp only [nqs] at hb12
  have hno : zP n s.ts = none := by rcases hlk with ⟨_, h⟩ | ⟨k, p, h, _⟩; (exact h); (exfalso; omega)
  refine zE fun _ hK7 => ?_
  refine ra0 (tch := [(1, 0, (fun _ => .blk _ _))]) hst3 hfr3 (.cons rfl (ZM (.nil) underlying45 zeroValue45 (.cons sizeOf3 <| .cons sizeOf9 <| .cons sizeOf3 <| .cons sizeOf33 <| .cons sizeOf43 <| .nil) rfl) <| .consT rfl rfl (fun _ => rfl) rfl (zm rfl rfl rfl sizeOf45 rfl rfl rfl) <| .cons rfl (zH rfl) <| .nil) fun a4 w4 m4 hst4 hle4 hk4 => ?_
  have hfr4 := hk4.fr (.o 4 <| .n 5 <| .nil)
  replace hst4 := hst4.fin (L' := [_]) (.cons rfl <| .nil)
  try simp only [List.take_succ_cons, List.take_zero, List.drop_succ_cons, List.drop_zero, List.cons_append, List.nil_append, List.append_nil, List.length_cons, List.length_nil, Nat.zero_add, Nat.reduceAdd] at hst4
  clear hst3 hfr3 hk4
  refine hK7 _ _ ?_
  refine zU ?_
  repeat (with_reducible first | refine zL ?_ | refine zI ?_)
  exact zV hst4 hfr4 rfl (.cell rfl (ZO (ZJ (hst4.loc.at_ (k := 0) rfl)) isAgg45 sizeOf45) <| .tmp rfl <| .nil) (⟨((none, 0), (none, 0)), by rw [hno]; rfl, by rw [hno]; exact zGS⟩)
 ·try simp only [nqs] at hb12
  obtain ⟨k9, p9, hk9, hp9, hsm⟩ := hlk.resolve_left (by omega)
  have hkl9 : k9 < (s.ts.map Prod.snd).length := by rw [List.length_map]; exact (List.getElem?_eq_some_iff.1 hp9).1
  refine zR ?_
  refine hK5 _ _ ?_
  refine zE fun _ hK9 => ?_
  obtain ⟨p10, vs10, x10, ho10, hd10, hm_x10, ht10, hcv10, hl10, hv10⟩ := hqb_s.nth (k := k9) (by omega)
  cases ho10
  obtain ⟨o10, c10, oL10, cL10, rfl, hkd10, hs10, hi10, hj10, hr10⟩ := hv10.open_
  have hbg10 := hkd10.big; have hcp10 := hkd10.cap; have hbs10 := hs10.big; have hcs10 := hs10.cap
  have hrw10 : RwR _ ⟨x10.labels, x10.rv⟩ _ := ⟨_, _, rfl, hs10, hr10⟩
  refine ra0 (tch := [(5, 0, (fun _ => .blk _ _))]) hst3 hfr3 (.cons rfl (zF (off := 1) rfl underlying36 rfl rfl sizeOf33 rfl) <| .cons rfl (zK rfl hc2 isAgg33 rfl) <| .cons rfl (zG rfl) <| .cons rfl (zN (k := k9) rfl rfl underlying33 sizeOf45 (by omega) (by omega)) <| .cons rfl (zS rfl hcv10 isAgg45 sizeOf45 rfl rfl) <| .consT rfl rfl (fun _ => rfl) rfl (zm rfl rfl rfl sizeOf45 rfl rfl hv10.one) <| .cons rfl (zH rfl) <| .nil) fun a4 w4 m4 hst4 hle4 hk4 => ?_
  have hfr4 := hk4.fr (.o 4 <| .n 5 <| .nil)
  replace hst4 := hst4.fin (L' := [_]) (.cons rfl <| .nil)
  try simp only [List.take_succ_cons, List.take_zero, List.drop_succ_cons, List.drop_zero, List.cons_append, List.nil_append, List.append_nil, List.length_cons, List.length_nil, Nat.zero_add, Nat.reduceAdd] at hst4
  clear hst3 hfr3 hk4
  have e9 := zCj hp9 hd10
  rw [← e9] at hsm
  refine hK9 _ _ ?_
  refine zU ?_
  repeat (with_reducible first | refine zL ?_ | refine zI ?_)
  replace hv10 := hv10.mono hle4
  exact zV hst4 hfr4 rfl (.cell rfl (ZO (ZJ (hst4.loc.at_ (k := 0) rfl)) isAgg45 sizeOf45) <| .tmp rfl <| .nil) (⟨((o10, c10), (oL10, cL10)), by rw [hsm]; rfl, by rw [hsm]; exact hv10⟩)
theorem rtype_x {w : World} {m : Mem} {s : Sub} {n : Int} {vs : List Value} {x : Ty} {b : Bool} (hA : Agree w m) (hS : RSubR m s vs) (hx : x = (zP n s.ts).getD zAu) (hb : b = (zP n s.ts).isSome) :
  FnV Tryz.prog 42 #[.agg vs.toArray, .int .i64 n] w m fun _ m v => (MP.tyb x b).p m v := by subst hx; subst hb; exact rtype_c hA hS
set_option maxHeartbeats 1600000 in
theorem rrow_c {w : World} {m : Mem} {s : Sub} {vs_s : List Value} {n : Int} (hA : Agree w m) (h_s : RSubR m s vs_s) : FnV Tryz.prog 45 #[.agg vs_s.toArray, .int .i64 n] w m (fun _ m v => (MP.rwb ((zP n s.rs).getD zDM) (zP n s.rs).isSome).p m v) := by
 obtain ⟨⟨⟨⟨oA_s, cA_s⟩, oB_s, cB_s⟩, ⟨oC_s, cC_s⟩, oD_s, cD_s⟩, rfl, hqa_s, hqb_s, hqc_s, hqd_s⟩ := id h_s
 have hgb_s := hqa_s.big; have hgd_s := hqc_s.big; simp only [List.length_map] at hgb_s hgd_s
 refine zY (vs := [_, _]) func45 rfl rfl rfl fun a0 hfr0 => ?_
 have hst0 := zX hA (zw [] _ w m)
 have hM : MLe m m := MLe.refl m
 have hlk := zGu n s.rs 0
 refine zE fun _ hK1 => ?_
 replace hst0 := hst0.more (r := .free) trivial List.nodup_nil (by simp [Res.blocks])
 refine ra0 (tch := [(1, 0, (fun v => .blk v _))]) hst0 hfr0 (.cons rfl (ZA rfl rfl) <| .consT rfl rfl (fun _ => rfl) rfl (zj zeroValue43 rfl) <| .cons rfl (zH rfl) <| .nil) fun a1 w1 m1 hst1 hle1 hk1 => ?_
 have hfr1 := hk1.fr (.o 1 <| .nil)
 obtain ⟨g2, e2, hc2⟩ := hk1.ex 2 rfl
 replace hfr1 := hfr1.cons e2
 obtain ⟨g3, e3, _⟩ := hk1.ex 4 rfl
 replace hfr1 := hfr1.cons e3
 replace hst1 := hst1.fin (L' := [_]) (.cons e3 <| .nil)
 replace h_s := h_s.mono hle1
 replace hqa_s := hqa_s.mono hle1
 replace hqb_s := hqb_s.mono hle1
 replace hqc_s := hqc_s.mono hle1
 replace hqd_s := hqd_s.mono hle1
 clear hst0 hfr0 hk1
 refine hK1 _ _ ?_
 refine zE fun _ hK4 => ?_
 refine rp0 hst1 hfr1 (.cons rfl (zF (off := 2) rfl underlying36 rfl rfl sizeOf32 rfl) <| .cons rfl (zK rfl hc2 isAgg32 rfl) <| .cons rfl (zG rfl) <| .cons rfl (zp rfl (.cons rfl <| .cons rfl <| .nil) call67 (fun w m hK => by have hle_ := KC.le hK; have hA := KC.agree hK; have h_s := h_s.mono hle_; have hqa_s := hqa_s.mono hle_; have hqb_s := hqb_s.mono hle_; have hqc_s := hqc_s.mono hle_; have hqd_s := hqd_s.mono hle_; have hc2 := hc2.mono hle_; exact find_c hA (by first | assumption | omega | simp_all))) <| .cons rfl (zH rfl) <| .nil) fun a2 w2 m2 hst2 hle2 hk2 => ?_
 have hfr2 := hk2.fr (.o 2 <| .o 4 <| .n 6 <| .nil)
 replace hqd_s := hqd_s.mono hle2
 replace hc2 := hc2.mono hle2
 clear hst1 hfr1 hk2
 refine hK4 _ _ ?_
 refine zE fun _ hK5 => ?_
 refine zE fun _ hK6 => ?_
 refine rp0 hst2 hfr2 (.cons rfl (zG rfl) <| .cons rfl (ZG rfl rfl) <| .nil) fun a3 w3 m3 hst3 hle3 hk3 => ?_
 have hfr3 := hk3.fr (.o 2 <| .o 4 <| .o 6 <| .n 12 <| .nil)
 replace hqd_s := hqd_s.mono hle3
 replace hc2 := hc2.mono hle3
 clear hst2 hfr2 hk3
 refine hK6 _ _ ?_
 refine zJ hfr3 rfl rfl (fun hb12 => ?_) (fun hb12 => ?_)
 ·try simp only [nqs] at hb12
  have hno : zP n s.rs = none := by rcases hlk with ⟨_, h⟩ | ⟨k, p, h, _⟩; (exact h); (exfalso; omega)
  refine zE fun _ hK7 => ?_
  refine ra0 (tch := [(1, 0, (fun _ => .blk _ _))]) hst3 hfr3 (.cons rfl (ZM (.nil) underlying43 zeroValue43 (.cons sizeOf41 <| .cons sizeOf3 <| .nil) rfl) <| .consT rfl rfl (fun _ => rfl) rfl (zm rfl rfl rfl sizeOf43 rfl rfl rfl) <| .cons rfl (zH rfl) <| .nil) fun a4 w4 m4 hst4 hle4 hk4 => ?_
  have hfr4 := hk4.fr (.o 4 <| .n 5 <| .nil)
  replace hst4 := hst4.fin (L' := [_]) (.cons rfl <| .nil)
  try simp only [List.take_succ_cons, List.take_zero, List.drop_succ_cons, List.drop_zero, List.cons_append, List.nil_append, List.append_nil, List.length_cons, List.length_nil, Nat.zero_add, Nat.reduceAdd] at hst4
  clear hst3 hfr3 hk4
  refine hK7 _ _ ?_
  refine zU ?_
  repeat (with_reducible first | refine zL ?_ | refine zI ?_)
  exact zV hst4 hfr4 rfl (.cell rfl (ZO (ZJ (hst4.loc.at_ (k := 0) rfl)) isAgg43 sizeOf43) <| .tmp rfl <| .nil) (⟨(none, 0), by rw [hno]; rfl, by rw [hno]; exact zGq⟩)
 ·try simp only [nqs] at hb12
  obtain ⟨k9, p9, hk9, hp9, hsm⟩ := hlk.resolve_left (by omega)
  have hkl9 : k9 < (s.rs.map Prod.snd).length := by rw [List.length_map]; exact (List.getElem?_eq_some_iff.1 hp9).1
  refine zR ?_
  refine hK5 _ _ ?_
  refine zE fun _ hK9 => ?_
  obtain ⟨p10, vs10, x10, ho10, hd10, hm_x10, ht10, hcv10, hl10, hv10⟩ := hqd_s.nth (k := k9) (by omega)
  cases ho10
  obtain ⟨o10, c10, rfl, hs10, hr10⟩ := hv10.open_
  have hbs10 := hs10.big; have hcs10 := hs10.cap
  refine ra0 (tch := [(5, 0, (fun _ => .blk _ _))]) hst3 hfr3 (.cons rfl (zF (off := 3) rfl underlying36 rfl rfl sizeOf34 rfl) <| .cons rfl (zK rfl hc2 isAgg34 rfl) <| .cons rfl (zG rfl) <| .cons rfl (zN (k := k9) rfl rfl underlying34 sizeOf43 (by omega) (by omega)) <| .cons rfl (zS rfl hcv10 isAgg43 sizeOf43 rfl rfl) <| .consT rfl rfl (fun _ => rfl) rfl (zm rfl rfl rfl sizeOf43 rfl rfl hv10.one) <| .cons rfl (zH rfl) <| .nil) fun a4 w4 m4 hst4 hle4 hk4 => ?_
  have hfr4 := hk4.fr (.o 4 <| .n 5 <| .nil)
  replace hst4 := hst4.fin (L' := [_]) (.cons rfl <| .nil)
  try simp only [List.take_succ_cons, List.take_zero, List.drop_succ_cons, List.drop_zero, List.cons_append, List.nil_append, List.append_nil, List.length_cons, List.length_nil, Nat.zero_add, Nat.reduceAdd] at hst4
  clear hst3 hfr3 hk4
  have e9 := zCj hp9 hd10
  rw [← e9] at hsm
  refine hK9 _ _ ?_
  refine zU ?_
  repeat (with_reducible first | refine zL ?_ | refine zI ?_)
  replace hv10 := hv10.mono hle4
  exact zV hst4 hfr4 rfl (.cell rfl (ZO (ZJ (hst4.loc.at_ (k := 0) rfl)) isAgg43 sizeOf43) <| .tmp rfl <| .nil) (⟨(o10, c10), by rw [hsm]; rfl, by rw [hsm]; exact hv10⟩)
theorem rrow_x {w : World} {m : Mem} {s : Sub} {n : Int} {vs : List Value} {x : Rw} {b : Bool} (hA : Agree w m) (hS : RSubR m s vs) (hx : x = (zP n s.rs).getD zDM) (hb : b = (zP n s.rs).isSome) :
  FnV Tryz.prog 45 #[.agg vs.toArray, .int .i64 n] w m fun _ m v => (MP.rwb x b).p m v := by subst hx; subst hb; exact rrow_c hA hS
set_option maxHeartbeats 800000 in
theorem putR_c {w : World} {m : Mem} {o_l : Option Addr} {c_l : Nat} {l : List Str} {s : Str} (hA : Agree w m) (h_l : Strs m o_l l.length c_l l) (hbig : l.length ≤ 1073741824) : FnV Tryz.prog 70 #[.slice o_l l.length c_l, S s] w m (fun _ m v => (MP.strs (zCH l s)).p m v) := by
 have hb_l := h_l.big; have hc_l := h_l.cap
 refine zY (vs := [_, _]) func70 rfl rfl rfl fun a0 hfr0 => ?_
 have hst0 := zX hA (zw [] _ w m)
 have hM : MLe m m := MLe.refl m
 refine zE fun _ hK1 => ?_
 refine rp0 hst0 hfr0 (.cons rfl (zH rfl) <| .nil) fun a1 w1 m1 hst1 hle1 hk1 => ?_
 have hfr1 := hk1.fr (.o 0 <| .o 1 <| .nil)
 replace h_l := h_l.mono hle1
 clear hst0 hfr0 hk1
 refine hK1 _ _ ?_
 refine zE fun _ hK2 => ?_
 refine rp0 hst1 hfr1 (.cons rfl (zH rfl) <| .nil) fun a2 w2 m2 hst2 hle2 hk2 => ?_
 have hfr2 := hk2.fr (.o 0 <| .o 1 <| .n 5 <| .nil)
 replace h_l := h_l.mono hle2
 clear hst1 hfr1 hk2
 refine hK2 _ _ ?_
 refine zE fun _ hK3 => ?_
 refine zT ?_
 refine z6 (T := [(0, _), (1, _)]) (fun (y : Nat) => ([(5, .int .i64 (y : Int))] : List (Nat × Value))) (fun _ => _) (fun (y : Nat) m => (y ≤ l.length) ∧ (zCH l s = l.take y ++ zCH (l.drop y) s)) (fun y => l.length - y) (0) ⟨hst2, MLe.refl _, hfr2.sub (.c <| .c <| .c <| .nil), ⟨Nat.zero_le _, by simp⟩⟩ fun y a3 w3 m3 hh3 => ?_
 have hst3 := hh3.st; have hle3 := hh3.le; have hfr3 := hh3.fr; have hrel := hh3.rel; clear hh3
 replace h_l := h_l.mono hle3
 clear hst2 hfr2
 obtain ⟨hyn, hpu⟩ := hrel
 have hlh3 := hle3
 refine zE fun _ hK5 => ?_
 refine zE fun _ hK6 => ?_
 rcases Nat.lt_or_ge y l.length with hyl | hyl
 ·skip
  obtain ⟨p7, vs7, x7, ho7, hd7, hm_x7, ht7, hcv7, hl7, hv7⟩ := h_l.nth (k := y) (by omega)
  cases ho7
  subst hv7
  refine rp0 hst3 hfr3 (.cons rfl (zG rfl) <| .cons rfl (zG rfl) <| .cons rfl (zt rfl underlying41) <| .cons rfl (ZG rfl rfl) <| .cons rfl (zG rfl) <| .cons rfl (zG rfl) <| .cons rfl (zG rfl) <| .cons rfl (zN (k := y) rfl rfl underlying41 sizeOf9 rfl (by omega)) <| .cons rfl (zr rfl hcv7 isAgg9 rfl) <| .cons rfl (zG rfl) <| .cons rfl (ob_sleq rfl rfl) <| .cons rfl (z8 rfl rfl rfl) <| .nil) fun a4 w4 m4 hst4 hle4 hk4 => ?_
  have hfr4 := hk4.fr (.o 5 <| .o 0 <| .o 1 <| .n 17 <| .nil)
  clear hst3 hfr3 hk4
  have hdl := hd7
  rw [hdl, putS_cons] at hpu
  refine hK6 _ _ ?_
  refine zJ hfr4 rfl rfl (fun hb17 => ?_) (fun hb17 => ?_)
  ·try simp only [nqs] at hb17
   rw [if_pos (show leS x7 s = true by unfold leS; rcases hb17 with ⟨_, h | h⟩ <;> simp [h])] at hpu
   refine zR ?_
   refine hK5 _ _ ?_
   refine zT ?_
   refine rp0 hst4 hfr4 (.cons rfl (zG rfl) <| .cons rfl (zy rfl rfl ⟨by omega, by omega⟩) <| .cons rfl (zH rfl) <| .nil) fun a5 w5 m5 hst5 hle5 hk5 => ?_
   have hfr5 := hk5.fr (.o 0 <| .o 1 <| .n 5 <| .nil)
   clear hst4 hfr4 hk5
   have zq1 := hle4.trans hle5
   have hlh5 := hlh3.trans zq1
   exact ⟨y + 1, m5, by show l.length - (y + 1) < l.length - y; omega, ⟨hst5, hlh5, hfr5.sub (.c <| .c <| .c <| .nil), ⟨by show y + 1 ≤ l.length; omega, by rw [hpu, ht7, List.append_assoc]; rfl⟩⟩⟩
  ·try simp only [nqs] at hb17
   rw [if_neg (show ¬ leS x7 s = true by unfold leS; rcases hb17 with h | ⟨h1, h2⟩; (exfalso; omega); simp [h1, h2])] at hpu
   have hpe : zCH l s = (((l.take y).drop 0) ++ [s]) ++ ((l.take l.length).drop y) := by rw [hpu, List.take_length, hdl]; simp
   refine z7 ?_
   refine hK3 _ _ ?_
   refine zE fun _ hK8 => ?_
   replace h_l := h_l.mono hle4
   have hcp9 := h_l.cap
   have hct9 : Strs _ _ _ _ ((l.take (y)).drop (0)) := h_l.cut (l := 0) (k := y) (by omega) (by omega)
   have hcl9 : (y) - (0) = (((l.take (y)).drop (0))).length := hct9.len.symm
   have hcu9 : Strs _ _ _ _ ((l.take (y)).drop (0)) := hct9.lenL
   obtain ⟨cs_10, hrw_10, hrd_10, hcl_10⟩ := hct9.reads
   have hct12 : Strs _ _ _ _ ((l.take (l.length)).drop (y)) := h_l.cut (l := y) (k := l.length) (by omega) (by omega)
   have hcl12 : (l.length) - (y) = (((l.take (l.length)).drop (y))).length := hct12.len.symm
   have hcu12 : Strs _ _ _ _ ((l.take (l.length)).drop (y)) := hct12.lenL
   obtain ⟨cs_13, hrw_13, hrd_13, hcl_13⟩ := hct12.reads
   replace hst4 := hst4.more (r := .free) trivial List.nodup_nil (by simp [Res.blocks])
   refine zn (tch := [(4, 0, (fun v => .row (nz v) _ _ _ _)), (7, 0, (fun v => .row (nz v) _ _ _ _)), (11, 0, (fun v => .row (nz v) _ _ _ _))]) (fun _ => mixed) hst4 hfr4 (by kernel_rfl) (by kernel_rfl) (by kernel_rfl) (.cons rfl (zAG underlying41 sizeOf9) <| .cons rfl (zG rfl) <| .cons rfl (zG rfl) <| .cons rfl (zBy (l := 0) (h := y) rfl .none (.some rfl (by omega)) underlying41 sizeOf9 (by first | omega | (dsimp only; omega)) (by first | omega | (dsimp only; omega))) <| .consT rfl rfl (fun _ => rfl) rfl (ze 20 rfl rfl rfl fun y20 => Zt (size := 1) (bytes := 16) rfl rfl (fun _ => .inr ⟨rfl, rfl, rfl, rfl⟩) underlying41 type9 rfl rfl rfl rfl (fun w m hK => hrw_10.mono (KC.le hK)) hcl_10 (by decide) hrd_10.one (by simp only [maxLen]; omega) (by omega)) <| .cons rfl (zG rfl) <| .cons rfl (ZQ (.cons rfl <| .nil) underlying41 sizeOf9 zeroValue9 rfl rfl rfl rfl) <| .consT rfl rfl (fun _ => rfl) rfl (ze 24 rfl rfl rfl fun y24 => ze 26 rfl rfl rfl fun y26 => Zt (size := 1) (bytes := 16) rfl rfl (fun _ => .inl rfl) underlying41 type9 rfl rfl rfl rfl (fun w m hK => .inr ⟨_, rfl, hK.2⟩) rfl (by decide) rfl (by simp only [maxLen]; omega) (by omega)) <| .cons rfl (zG rfl) <| .cons rfl (zG rfl) <| .cons rfl (zBy (l := y) (h := l.length) rfl (.some rfl (by omega)) .none underlying41 sizeOf9 (by first | omega | (dsimp only; omega)) (by first | omega | (dsimp only; omega))) <| .consT rfl rfl (fun _ => rfl) rfl (ze 27 rfl rfl rfl fun y27 => Zt (size := 1) (bytes := 16) rfl rfl (fun _ => .inl rfl) underlying41 type9 rfl rfl rfl rfl (fun w m hK => hrw_13.mono (KC.le hK)) hcl_13 (by decide) hrd_13.one (by simp only [maxLen]; omega) (by omega)) <| .consA 31 rfl rfl <| .nil) fun a5 w5 m5 hst5 hle5 hk5 => ?_
   have hfr5 := hk5.fr (.o 5 <| .nil)
   obtain ⟨⟨oz10, cz10⟩, e14, hrz10, hcz10⟩ := hk5.ex 24 rfl
   replace e14 : zu a5 24 = .slice oz10 (((l.take (y)).drop (0))).length cz10 := by rw [e14]; refine congrArg (fun q => Value.slice _ q _) ?_; first | omega | (simp only [List.length_append, List.length_cons, List.length_nil, List.nil_append, List.length_take, List.length_drop]; try omega)
   obtain ⟨⟨oz11, cz11⟩, e15, hrz11, hcz11⟩ := hk5.ex 27 rfl
   replace e15 : zu a5 27 = .slice oz11 ((((l.take (y)).drop (0)) ++ [s])).length cz11 := by rw [e15]; refine congrArg (fun q => Value.slice _ q _) ?_; first | omega | (simp only [List.length_append, List.length_cons, List.length_nil, List.nil_append, List.length_take, List.length_drop]; try omega)
   obtain ⟨⟨oz13, cz13⟩, e16, hrz13, hcz13⟩ := hk5.ex 31 rfl
   replace e16 : zu a5 31 = .slice oz13 (((((l.take (y)).drop (0)) ++ [s]) ++ ((l.take (l.length)).drop (y)))).length cz13 := by rw [e16]; refine congrArg (fun q => Value.slice _ q _) ?_; first | omega | (simp only [List.length_append, List.length_cons, List.length_nil, List.nil_append, List.length_take, List.length_drop]; try omega)
   replace hfr5 := hfr5.cons (hk5.same 4 rfl e16)
   replace hst5 := hst5.fin (L' := [_]) (.cons e14 <| .cons e15 <| .cons e16 <| .nil)
   clear hst4 hfr4 hk5
   replace hrd_10 := hrd_10.mono hle5
   replace hrd_13 := hrd_13.mono hle5
   have hsz13 : Strs m5 oz13 (((((l.take (y)).drop (0)) ++ [s]) ++ ((l.take (l.length)).drop (y)))).length cz13 ((((l.take (y)).drop (0)) ++ [s]) ++ ((l.take (l.length)).drop (y))) := Reads.sl (((Reads.nil.app hrd_10).app (Reads.single (vs := [_]) rfl rfl)).app hrd_13) hrz13 (by decide) rfl (by have h := hcz13; first | omega | (simp only [List.length_append, List.length_cons, List.length_nil, List.nil_append, List.length_take, List.length_drop] at h ⊢; omega)) (by first | omega | (simp only [List.length_append, List.length_cons, List.length_nil, List.nil_append, List.length_take, List.length_drop]; omega))
   refine hK8 _ _ ?_
   refine zU ?_
   repeat (with_reducible first | refine zL ?_ | refine zI ?_)
   exact zV hst5 hfr5 rfl (.tmp rfl <| .nil) (⟨(oz13, cz13), by rw [hpe]; rfl, by rw [hpe]; exact hsz13⟩)
 ·skip
  refine rp0 hst3 hfr3 (.cons rfl (zG rfl) <| .cons rfl (zG rfl) <| .cons rfl (zt rfl underlying41) <| .cons rfl (ZG rfl rfl) <| .cons rfl (zG rfl) <| .cons rfl (ZY (κ := .eq (.bool false)) (b := true) 10 rfl rfl (fun h => by simp at h; omega)) <| .cons rfl (ZY (κ := .eq (.bool false)) (b := true) 10 rfl rfl (fun h => by simp at h; omega)) <| .cons rfl (ZY (κ := .eq (.bool false)) (b := true) 10 rfl rfl (fun h => by simp at h; omega)) <| .cons rfl (ZY (κ := .eq (.bool false)) (b := true) 10 rfl rfl (fun h => by simp at h; omega)) <| .cons rfl (ZY (κ := .eq (.bool false)) (b := true) 10 rfl rfl (fun h => by simp at h; omega)) <| .cons rfl (ZY (κ := .eq (.bool false)) (b := true) 10 rfl rfl (fun h => by simp at h; omega)) <| .cons rfl (z8 rfl rfl rfl) <| .nil) fun a4 w4 m4 hst4 hle4 hk4 => ?_
  have hfr4 := hk4.fr (.o 5 <| .o 0 <| .o 1 <| .n 17 <| .nil)
  clear hst3 hfr3 hk4
  refine hK6 _ _ ?_
  refine zJ hfr4 rfl rfl (fun hb17 => ?_) (fun hb17 => ?_)
  ·exfalso; simp at hb17; try omega
  ·try simp only [nqs] at hb17
   have hye : y = l.length := by omega
   have hpe : zCH l s = (((l.take y).drop 0) ++ [s]) ++ ((l.take l.length).drop y) := by rw [hpu, hye, List.drop_length]; simp [zCH]
   refine z7 ?_
   refine hK3 _ _ ?_
   refine zE fun _ hK18 => ?_
   replace h_l := h_l.mono hle4
   have hcp9 := h_l.cap
   have hct19 : Strs _ _ _ _ ((l.take (y)).drop (0)) := h_l.cut (l := 0) (k := y) (by omega) (by omega)
   have hcl19 : (y) - (0) = (((l.take (y)).drop (0))).length := hct19.len.symm
   have hcu19 : Strs _ _ _ _ ((l.take (y)).drop (0)) := hct19.lenL
   obtain ⟨cs_20, hrw_20, hrd_20, hcl_20⟩ := hct19.reads
   have hct22 : Strs _ _ _ _ ((l.take (l.length)).drop (y)) := h_l.cut (l := y) (k := l.length) (by omega) (by omega)
   have hcl22 : (l.length) - (y) = (((l.take (l.length)).drop (y))).length := hct22.len.symm
   have hcu22 : Strs _ _ _ _ ((l.take (l.length)).drop (y)) := hct22.lenL
   obtain ⟨cs_23, hrw_23, hrd_23, hcl_23⟩ := hct22.reads
   replace hst4 := hst4.more (r := .free) trivial List.nodup_nil (by simp [Res.blocks])
   refine zn (tch := [(4, 0, (fun v => .row (nz v) _ _ _ _)), (7, 0, (fun v => .row (nz v) _ _ _ _)), (11, 0, (fun v => .row (nz v) _ _ _ _))]) (fun _ => mixed) hst4 hfr4 (by kernel_rfl) (by kernel_rfl) (by kernel_rfl) (.cons rfl (zAG underlying41 sizeOf9) <| .cons rfl (zG rfl) <| .cons rfl (zG rfl) <| .cons rfl (zBy (l := 0) (h := y) rfl .none (.some rfl (by omega)) underlying41 sizeOf9 (by first | omega | (dsimp only; omega)) (by first | omega | (dsimp only; omega))) <| .consT rfl rfl (fun _ => rfl) rfl (ze 20 rfl rfl rfl fun y20 => Zt (size := 1) (bytes := 16) rfl rfl (fun _ => .inr ⟨rfl, rfl, rfl, rfl⟩) underlying41 type9 rfl rfl rfl rfl (fun w m hK => hrw_20.mono (KC.le hK)) hcl_20 (by decide) hrd_20.one (by simp only [maxLen]; omega) (by omega)) <| .cons rfl (zG rfl) <| .cons rfl (ZQ (.cons rfl <| .nil) underlying41 sizeOf9 zeroValue9 rfl rfl rfl rfl) <| .consT rfl rfl (fun _ => rfl) rfl (ze 24 rfl rfl rfl fun y24 => ze 26 rfl rfl rfl fun y26 => Zt (size := 1) (bytes := 16) rfl rfl (fun _ => .inl rfl) underlying41 type9 rfl rfl rfl rfl (fun w m hK => .inr ⟨_, rfl, hK.2⟩) rfl (by decide) rfl (by simp only [maxLen]; omega) (by omega)) <| .cons rfl (zG rfl) <| .cons rfl (zG rfl) <| .cons rfl (zBy (l := y) (h := l.length) rfl (.some rfl (by omega)) .none underlying41 sizeOf9 (by first | omega | (dsimp only; omega)) (by first | omega | (dsimp only; omega))) <| .consT rfl rfl (fun _ => rfl) rfl (ze 27 rfl rfl rfl fun y27 => Zt (size := 1) (bytes := 16) rfl rfl (fun _ => .inl rfl) underlying41 type9 rfl rfl rfl rfl (fun w m hK => hrw_23.mono (KC.le hK)) hcl_23 (by decide) hrd_23.one (by simp only [maxLen]; omega) (by omega)) <| .consA 31 rfl rfl <| .nil) fun a5 w5 m5 hst5 hle5 hk5 => ?_
   have hfr5 := hk5.fr (.o 5 <| .nil)
   obtain ⟨⟨oz20, cz20⟩, e24, hrz20, hcz20⟩ := hk5.ex 24 rfl
   replace e24 : zu a5 24 = .slice oz20 (((l.take (y)).drop (0))).length cz20 := by rw [e24]; refine congrArg (fun q => Value.slice _ q _) ?_; first | omega | (simp only [List.length_append, List.length_cons, List.length_nil, List.nil_append, List.length_take, List.length_drop]; try omega)
   obtain ⟨⟨oz21, cz21⟩, e25, hrz21, hcz21⟩ := hk5.ex 27 rfl
   replace e25 : zu a5 27 = .slice oz21 ((((l.take (y)).drop (0)) ++ [s])).length cz21 := by rw [e25]; refine congrArg (fun q => Value.slice _ q _) ?_; first | omega | (simp only [List.length_append, List.length_cons, List.length_nil, List.nil_append, List.length_take, List.length_drop]; try omega)
   obtain ⟨⟨oz23, cz23⟩, e26, hrz23, hcz23⟩ := hk5.ex 31 rfl
   replace e26 : zu a5 31 = .slice oz23 (((((l.take (y)).drop (0)) ++ [s]) ++ ((l.take (l.length)).drop (y)))).length cz23 := by rw [e26]; refine congrArg (fun q => Value.slice _ q _) ?_; first | omega | (simp only [List.length_append, List.length_cons, List.length_nil, List.nil_append, List.length_take, List.length_drop]; try omega)
   replace hfr5 := hfr5.cons (hk5.same 4 rfl e26)
   replace hst5 := hst5.fin (L' := [_]) (.cons e24 <| .cons e25 <| .cons e26 <| .nil)
   clear hst4 hfr4 hk5
   replace hrd_20 := hrd_20.mono hle5
   replace hrd_23 := hrd_23.mono hle5
   have hsz23 : Strs m5 oz23 (((((l.take (y)).drop (0)) ++ [s]) ++ ((l.take (l.length)).drop (y)))).length cz23 ((((l.take (y)).drop (0)) ++ [s]) ++ ((l.take (l.length)).drop (y))) := Reads.sl (((Reads.nil.app hrd_20).app (Reads.single (vs := [_]) rfl rfl)).app hrd_23) hrz23 (by decide) rfl (by have h := hcz23; first | omega | (simp only [List.length_append, List.length_cons, List.length_nil, List.nil_append, List.length_take, List.length_drop] at h ⊢; omega)) (by first | omega | (simp only [List.length_append, List.length_cons, List.length_nil, List.nil_append, List.length_take, List.length_drop]; omega))
   refine hK18 _ _ ?_
   refine zU ?_
   repeat (with_reducible first | refine zL ?_ | refine zI ?_)
   exact zV hst5 hfr5 rfl (.tmp rfl <| .nil) (⟨(oz23, cz23), by rw [hpe]; rfl, by rw [hpe]; exact hsz23⟩)
set_option maxHeartbeats 800000 in
theorem sortedF_c {w : World} {m : Mem} {r : Rw} {vs_r : List Value} (hA : Agree w m) (h_r : RwR m r vs_r) (hbig : r.labels.length ≤ 1073741823) : FnV Tryz.prog 46 #[.agg vs_r.toArray] w m (fun _ m v => (MP.rw ⟨ZT r.labels, r.var⟩).p m v) := by
 obtain ⟨o_r, c_r, rfl, hs_r, hr_r⟩ := h_r.open_
 have hbs_r := hs_r.big; have hcs_r := hs_r.cap
 refine zY (vs := [_]) func46 rfl rfl rfl fun a0 hfr0 => ?_
 have hst0 := zX hA (zw [] _ w m)
 have hM : MLe m m := MLe.refl m
 refine zE fun _ hK1 => ?_
 replace hst0 := hst0.more (r := .free) trivial List.nodup_nil (by simp [Res.blocks])
 refine ra0 (tch := [(1, 0, (fun v => .blk v _))]) hst0 hfr0 (.cons rfl (ZA rfl rfl) <| .consT rfl rfl (fun _ => rfl) rfl (zj zeroValue43 rfl) <| .nil) fun a1 w1 m1 hst1 hle1 hk1 => ?_
 have hfr1 := hk1.fr (.nil)
 obtain ⟨g2, e2, hc1⟩ := hk1.ex 1 rfl
 replace hfr1 := hfr1.cons e2
 obtain ⟨g3, e3, _⟩ := hk1.ex 2 rfl
 replace hfr1 := hfr1.cons e3
 replace hst1 := hst1.fin (L' := [_]) (.cons e3 <| .nil)
 replace hs_r := hs_r.mono hle1
 clear hst0 hfr0 hk1
 refine hK1 _ _ ?_
 refine zE fun _ hK4 => ?_
 replace hst1 := hst1.more (r := .free) trivial List.nodup_nil (by simp [Res.blocks])
 refine ra0 (tch := [(3, 1, (fun v => .blk v _)), (4, 1, (fun v => .blk v _))]) hst1 hfr1 (.cons rfl (zF (off := 1) rfl underlying43 rfl rfl sizeOf3 rfl) <| .cons rfl (zK rfl hc1 isAgg3 rfl) <| .cons rfl (ZM (.cons rfl <| .nil) underlying43 zeroValue43 (.cons sizeOf41 <| .cons sizeOf3 <| .nil) rfl) <| .consT rfl rfl (fun _ => rfl) rfl (zj zeroValue43 rfl) <| .consT rfl rfl (fun _ => rfl) rfl (ze 3 rfl rfl rfl fun y3 => ZD rfl rfl rfl rfl rfl sizeOf43 rfl rfl rfl) <| .nil) fun a2 w2 m2 hst2 hle2 hk2 => ?_
 have hfr2 := hk2.fr (.o 1 <| .o 2 <| .nil)
 obtain ⟨g3, e5, _⟩ := hk2.ex 3 rfl
 replace hfr2 := hfr2.cons e5
 replace hst2 := hst2.fin (L' := [_, _]) (.cons e5 <| .cons e5 <| .nil)
 try simp only [List.take_succ_cons, List.take_zero, List.drop_succ_cons, List.drop_zero, List.cons_append, List.nil_append, List.append_nil, List.length_cons, List.length_nil, Nat.zero_add, Nat.reduceAdd] at hst2
 replace hs_r := hs_r.mono hle2
 replace hc1 := hc1.mono hle2
 clear hst1 hfr1 hk2
 refine hK4 _ _ ?_
 refine zE fun _ hK6 => ?_
 refine zE fun _ hK7 => ?_
 refine rp0 hst2 hfr2 (.cons rfl (zH rfl) <| .nil) fun a3 w3 m3 hst3 hle3 hk3 => ?_
 have hfr3 := hk3.fr (.o 1 <| .o 2 <| .o 3 <| .n 4 <| .nil)
 replace hs_r := hs_r.mono hle3
 replace hc1 := hc1.mono hle3
 clear hst2 hfr2 hk3
 refine hK7 _ _ ?_
 refine zT ?_
 refine z6 (T := [(1, _), (2, _), (3, _)]) (fun (y : Nat × List Str × Option Addr × Nat) => ([(4, .int .i64 (y.1 : Int))] : List (Nat × Value))) (fun y => [_, .blk (.pointer (some ⟨g3, 0, none⟩)) (.cells ([.slice y.2.2.1 y.2.1.length y.2.2.2, .int .i64 r.var] : List Value).toArray 43)]) (fun (y : Nat × List Str × Option Addr × Nat) m => (fun (y : Nat) (acc : List Str) (ao : Option Addr) (ac : Nat) => (y ≤ r.labels.length) ∧ (Strs m ao acc.length ac acc) ∧ (acc = (r.labels.take y).foldl zCH []) ∧ (acc.length = y)) y.1 y.2.1 y.2.2.1 y.2.2.2) (fun y => r.labels.length - y.1) ((0, [], none, 0)) ⟨hst3, MLe.refl _, hfr3.sub (.c <| .c <| .c <| .c <| .nil), ⟨Nat.zero_le _, Sl.empty, rfl, rfl⟩⟩ fun y a4 w4 m4 hh4 => ?_
 have hst4 := hh4.st; have hle4 := hh4.le; have hfr4 := hh4.fr; have hrel := hh4.rel; clear hh4
 replace hs_r := hs_r.mono hle4
 replace hc1 := hc1.mono hle4
 clear hst3 hfr3
 obtain ⟨y, acc, ao, ac⟩ := y
 dsimp only at hrel hfr4 hst4
 obtain ⟨hyn, hac, hacc, hacl⟩ := hrel
 have hlh4 := hle4
 refine zE fun _ hK9 => ?_
 refine zE fun _ hK10 => ?_
 refine rp0 hst4 hfr4 (.cons rfl (zG rfl) <| .cons rfl (zF (off := 0) rfl underlying43 rfl rfl sizeOf41 rfl) <| .cons rfl (zK rfl hc1 isAgg41 rfl) <| .cons rfl (zt rfl underlying41) <| .cons rfl (ZG rfl rfl) <| .nil) fun a5 w5 m5 hst5 hle5 hk5 => ?_
 have hfr5 := hk5.fr (.o 4 <| .o 1 <| .o 2 <| .o 3 <| .n 12 <| .nil)
 replace hs_r := hs_r.mono hle5
 replace hc1 := hc1.mono hle5
 replace hac := hac.mono hle5
 have hlh5 := hlh4.trans hle5
 clear hst4 hfr4 hk5
 refine hK10 _ _ ?_
 refine zJ hfr5 rfl rfl (fun hb12 => ?_) (fun hb12 => ?_)
 ·try simp only [nqs] at hb12
  refine zR ?_
  refine hK9 _ _ ?_
  refine zE fun _ hK11 => ?_
  refine zT ?_
  obtain ⟨p12, vs12, x12, ho12, hd12, hm_x12, ht12, hcv12, hl12, hv12⟩ := hs_r.nth (k := y) (by omega)
  cases ho12
  subst hv12
  refine zn (tch := [(9, 1, (fun u => .blk _ (.cells (_ ++ [u] ++ _).toArray _)))]) (fun _ => mixed) hst5 hfr5 (by kernel_rfl) (by kernel_rfl) (by kernel_rfl) (.cons rfl (zF (off := 0) rfl underlying43 rfl rfl sizeOf41 rfl) <| .cons rfl (zW (j := 1) rfl rfl isAgg41 rfl) <| .cons rfl (zF (off := 0) rfl underlying43 rfl rfl sizeOf41 rfl) <| .cons rfl (zK rfl hc1 isAgg41 rfl) <| .cons rfl (zG rfl) <| .cons rfl (zN (k := y) rfl rfl underlying41 sizeOf9 rfl (by omega)) <| .cons rfl (zr rfl hcv12 isAgg9 rfl) <| .cons rfl (zZ (φ := MP.strs (zCH acc x12)) rfl (.cons rfl <| .cons rfl <| .nil) call70 (fun w m hK => by have hle_ := KC.le hK; have hA := KC.agree hK; have hac := hac.mono hle_; exact FnG.mono (putR_c (l := acc) (s := x12) hA hac (by omega)) fun _ _ _ _ h => h)) <| .cons rfl (zF (off := 0) rfl underlying43 rfl rfl sizeOf41 rfl) <| .consT rfl rfl (fun _ => rfl) rfl (ze 22 rfl rfl rfl fun y22 => Ze rfl rfl rfl rfl rfl sizeOf41 rfl rfl rfl) <| .nil) fun a6 w6 m6 hst6 hle6 hk6 => ?_
  have hfr6 := hk6.fr (.o 4 <| .o 1 <| .o 2 <| .o 3 <| .nil)
  obtain ⟨⟨o2, c2⟩, e13, hp2⟩ := hk6.ex 22 rfl
  replace hst6 := hst6.fin (L' := [_, _]) (.cons e13 <| .nil)
  try simp only [List.take_succ_cons, List.take_zero, List.drop_succ_cons, List.drop_zero, List.cons_append, List.nil_append, List.append_nil, List.length_cons, List.length_nil, Nat.zero_add, Nat.reduceAdd] at hst6
  clear hst5 hfr5 hk6
  refine hK11 _ _ ?_
  refine rp0 hst6 hfr6 (.cons rfl (zG rfl) <| .cons rfl (zy rfl rfl ⟨by omega, by omega⟩) <| .cons rfl (zH rfl) <| .nil) fun a7 w7 m7 hst7 hle7 hk7 => ?_
  have hfr7 := hk7.fr (.o 1 <| .o 2 <| .o 3 <| .n 4 <| .nil)
  clear hst6 hfr6 hk7
  replace hp2 := hp2.mono hle7
  have zq1 := hle6.trans hle7
  have hlh7 := hlh5.trans zq1
  exact ⟨(y + 1, (zCH acc x12), o2, c2), m7, by show r.labels.length - (y + 1) < r.labels.length - y; omega, ⟨hst7, hlh7, hfr7.sub (.c <| .c <| .c <| .c <| .nil), ⟨by show y + 1 ≤ r.labels.length; omega, hp2, by rw [ht12, List.foldl_append, ← hacc]; rfl, by show (zCH acc x12).length = y + 1; rw [putS_len, hacl]⟩⟩⟩
 ·try simp only [nqs] at hb12
  have hge : y = r.labels.length := by omega
  rw [List.take_of_length_le (by omega), sort_puts] at hacc
  refine z7 ?_
  refine hK6 _ _ ?_
  refine zE fun _ hK14 => ?_
  refine ra0 (tch := [(1, 0, (fun _ => .blk _ _))]) hst5 hfr5 (.cons rfl (zh (j := 1) rfl rfl isAgg43 sizeOf43 rfl) <| .consT rfl rfl (fun _ => rfl) rfl (zm rfl rfl rfl sizeOf43 rfl rfl rfl) <| .nil) fun a6 w6 m6 hst6 hle6 hk6 => ?_
  have hfr6 := hk6.fr (.o 4 <| .o 2 <| .nil)
  replace hst6 := hst6.fin (L' := [_, _]) (.cons rfl <| .nil)
  try simp only [List.take_succ_cons, List.take_zero, List.drop_succ_cons, List.drop_zero, List.cons_append, List.nil_append, List.append_nil, List.length_cons, List.length_nil, Nat.zero_add, Nat.reduceAdd] at hst6
  clear hst5 hfr5 hk6
  refine hK14 _ _ ?_
  refine zU ?_
  repeat (with_reducible first | refine zL ?_ | refine zI ?_)
  replace hac := hac.mono hle6
  exact zV hst6 hfr6 rfl (.cell rfl (ZO (ZJ (hst6.loc.at_ (k := 0) rfl)) isAgg43 sizeOf43) <| .nil) (⟨(ao, ac), by rw [← hacc]; rfl, by rw [← hacc]; exact ⟨_, _, rfl, hac, hr_r⟩⟩)
theorem sortedF_at {w : World} {m : Mem} {o : Option Addr} {n c : Nat} {ls : List Str} {v : Int} (hA : Agree w m) (hn : n = ls.length) (h : Strs m o n c ls) (hv : Zg v) (hb : ls.length ≤ 1073741823) :
  FnV Tryz.prog 46 #[.agg #[.slice o n c, .int .i64 v]] w m fun _ m v' => (MP.rw ⟨ZT ls, v⟩).p m v' := by subst hn; exact sortedF_c (r := ⟨ls, v⟩) hA ⟨_, _, rfl, h, hv⟩ hb
set_option maxHeartbeats 1600000 in
theorem zCR {w : World} {m : Mem} {s : Sub} {vs_s : List Value} {r : Rw} {vs_r : List Value} (hA : Agree w m) (h_s : RSubR m s vs_s) (h_r : RwR m r vs_r) (hw : SubW 400000000 s) (hb : r.labels.length ≤ 400000000) : FnV Tryz.prog 22 #[.agg vs_s.toArray, .agg vs_r.toArray] w m (fun _ m v => (MP.rw (zQ s r)).p m v) := by
 obtain ⟨⟨⟨⟨oA_s, cA_s⟩, oB_s, cB_s⟩, ⟨oC_s, cC_s⟩, oD_s, cD_s⟩, rfl, hqa_s, hqb_s, hqc_s, hqd_s⟩ := id h_s
 have hgb_s := hqa_s.big; have hgd_s := hqc_s.big; simp only [List.length_map] at hgb_s hgd_s
 obtain ⟨o_r, c_r, rfl, hs_r, hr_r⟩ := h_r.open_
 have hbs_r := hs_r.big; have hcs_r := hs_r.cap
 refine zY (vs := [_, _]) func22 rfl rfl rfl fun a0 hfr0 => ?_
 have hst0 := zX hA (zw [] _ w m)
 have hM : MLe m m := MLe.refl m
 have hxw := hw.lookR r.var
 obtain ⟨x, hx⟩ : ∃ x, x = (zP r.var s.rs).getD zDM := ⟨_, rfl⟩
 obtain ⟨b, hbx⟩ : ∃ x, x = (zP r.var s.rs).isSome := ⟨_, rfl⟩
 rw [← hx] at hxw
 refine zE fun _ hK1 => ?_
 replace hst0 := hst0.more (r := .free) trivial List.nodup_nil (by simp [Res.blocks])
 refine ra0 (tch := [(2, 0, (fun v => .blk v _))]) hst0 hfr0 (.cons rfl (ZA rfl rfl) <| .cons rfl (ZA rfl rfl) <| .consT rfl rfl (fun _ => rfl) rfl (zj zeroValue43 rfl) <| .nil) fun a1 w1 m1 hst1 hle1 hk1 => ?_
 have hfr1 := hk1.fr (.nil)
 obtain ⟨g2, e2, hc2⟩ := hk1.ex 2 rfl
 replace hfr1 := hfr1.cons e2
 obtain ⟨g3, e3, hc3⟩ := hk1.ex 3 rfl
 replace hfr1 := hfr1.cons e3
 obtain ⟨g4, e4, _⟩ := hk1.ex 4 rfl
 replace hfr1 := hfr1.cons e4
 replace hst1 := hst1.fin (L' := [_]) (.cons e4 <| .nil)
 replace h_s := h_s.mono hle1
 replace h_r := h_r.mono hle1
 replace hs_r := hs_r.mono hle1
 clear hst0 hfr0 hk1
 refine hK1 _ _ ?_
 refine zE fun _ hK5 => ?_
 replace hst1 := hst1.more (r := .free) trivial List.nodup_nil (by simp [Res.blocks])
 refine ra0 (tch := [(7, 1, (fun v => .blk v _)), (8, 1, (fun v => .blkx v _ _))]) hst1 hfr1 (.cons rfl (zS rfl hc2 isAgg36 sizeOf36 rfl rfl) <| .cons rfl (zF (off := 1) rfl underlying43 rfl rfl sizeOf3 rfl) <| .cons rfl (zK rfl hc3 isAgg3 rfl) <| .cons rfl (zZ (φ := MP.rwb x b) rfl (.cons rfl <| .cons rfl <| .nil) call45 (fun w m hK => by have hle_ := KC.le hK; have hA := KC.agree hK; have h_s := h_s.mono hle_; exact FnG.mono (rrow_x (s := s) (n := r.var) hA h_s hx hbx) fun _ _ _ _ h => h)) <| .cons rfl (ZK 11 rfl rfl rfl fun y11 => zG rfl) <| .cons rfl (ZK 7 rfl rfl rfl fun y7 => zk rfl rfl) <| .cons rfl (ZI 7 rfl rfl rfl fun y7 => zk rfl rfl) <| .consT rfl rfl (fun _ => rfl) rfl (zj zeroValue43 rfl) <| .consT rfl rfl (fun _ => rfl) rfl (ze 5 rfl rfl rfl fun y5 => ZL 12 rfl rfl rfl fun y12 => ZD rfl rfl rfl rfl rfl sizeOf43 rfl rfl rfl) <| .cons rfl (zH rfl) <| .nil) fun a2 w2 m2 hst2 hle2 hk2 => ?_
 have hfr2 := hk2.fr (.o 3 <| .o 4 <| .n 6 <| .nil)
 obtain ⟨g6, e6, _⟩ := hk2.ex 5 rfl
 replace hfr2 := hfr2.cons e6
 replace hst2 := hst2.fin (L' := [_, _]) (.cons e6 <| .cons e6 <| .nil)
 try simp only [List.take_succ_cons, List.take_zero, List.drop_succ_cons, List.drop_zero, List.cons_append, List.nil_append, List.append_nil, List.length_cons, List.length_nil, Nat.zero_add, Nat.reduceAdd] at hst2
 obtain ⟨⟨ox, cx⟩, hQ, hst2⟩ := hst2.unx (k := 1) rfl (fun _ => rfl)
 replace h_r := h_r.mono hle2
 replace hs_r := hs_r.mono hle2
 replace hc3 := hc3.mono hle2
 clear hst1 hfr1 hk2
 have hxs := (zAF hQ).1
 have hxi := (zAF hQ).2
 refine hK5 _ _ ?_
 refine zE fun _ hK8 => ?_
 refine zE fun _ hK9 => ?_
 refine rp0 hst2 hfr2 (.cons rfl (zG rfl) <| .cons rfl (zBJ rfl) <| .cons rfl (zG rfl) <| .cons rfl (zF (off := 1) rfl underlying43 rfl rfl sizeOf3 rfl) <| .cons rfl (zK rfl hc3 isAgg3 rfl) <| .cons rfl (zq rfl rfl) <| .cons rfl (zAq rfl rfl rfl) <| .nil) fun a3 w3 m3 hst3 hle3 hk3 => ?_
 have hfr3 := hk3.fr (.o 3 <| .o 4 <| .o 5 <| .n 20 <| .nil)
 replace h_r := h_r.mono hle3
 replace hs_r := hs_r.mono hle3
 replace hc3 := hc3.mono hle3
 replace hxs := hxs.mono hle3
 clear hst2 hfr2 hk3
 refine hK9 _ _ ?_
 refine zJ hfr3 rfl rfl (fun hb20 => ?_) (fun hb20 => ?_)
 ·try simp only [nqs] at hb20
  refine zE fun _ hK10 => ?_
  have heq : zQ s r = ⟨ZT r.labels, r.var⟩ := Z3 (by rw [← hbx]; exact hb20)
  refine ra0 (tch := [(2, 0, (fun _ => .blkx _ _ _))]) hst3 hfr3 (.cons rfl (zS rfl hc3 isAgg43 sizeOf43 rfl rfl) <| .cons rfl (zZ (φ := MP.rw ⟨ZT r.labels, r.var⟩) rfl (.cons rfl <| .nil) call46 (fun w m hK => by have hle_ := KC.le hK; have hA := KC.agree hK; have h_r := h_r.mono hle_; exact FnG.mono (sortedF_c (r := r) hA h_r (by omega)) fun _ _ _ _ h => h)) <| .consT rfl rfl (fun _ => rfl) rfl (ZL 22 rfl rfl rfl fun y22 => zm rfl rfl rfl sizeOf43 rfl rfl rfl) <| .nil) fun a4 w4 m4 hst4 hle4 hk4 => ?_
  have hfr4 := hk4.fr (.o 4 <| .nil)
  replace hst4 := hst4.fin (L' := [_, _]) (.cons rfl <| .nil)
  try simp only [List.take_succ_cons, List.take_zero, List.drop_succ_cons, List.drop_zero, List.cons_append, List.nil_append, List.append_nil, List.length_cons, List.length_nil, Nat.zero_add, Nat.reduceAdd] at hst4
  obtain ⟨⟨oq, cq⟩, hout, hst4⟩ := hst4.unx (k := 0) rfl (fun _ => rfl)
  clear hst3 hfr3 hk4
  refine hK10 _ _ ?_
  refine zU ?_
  repeat (with_reducible first | refine zL ?_ | refine zI ?_)
  exact zV hst4 hfr4 rfl (.cell rfl (ZO (ZJ (hst4.loc.at_ (k := 0) rfl)) isAgg43 sizeOf43) <| .nil) (⟨(oq, cq), by rw [heq]; rfl, by rw [heq]; exact hout⟩)
 ·try simp only [nqs] at hb20
  refine zR ?_
  refine hK8 _ _ ?_
  refine zE fun _ hK13 => ?_
  have heq : zQ s r = ⟨ZT (r.labels ++ x.labels), x.var⟩ := by rw [hx]; exact applyR_in (by rw [← hbx]; exact hb20.1) hb20.2
  obtain ⟨cs_14, hrw_14, hrd_14, hcl_14⟩ := hs_r.reads
  obtain ⟨cs_15, hrw_15, hrd_15, hcl_15⟩ := hxs.reads
  replace hst3 := hst3.more (r := .free) trivial List.nodup_nil (by simp [Res.blocks])
  refine zn (tch := [(3, 2, (fun v => .row (nz v) _ _ _ _)), (6, 2, (fun v => .row (nz v) _ _ _ _)), (11, 0, (fun _ => .blkx _ _ _))]) (fun _ => mixed) hst3 hfr3 (by kernel_rfl) (by kernel_rfl) (by kernel_rfl) (.cons rfl (zAG underlying41 sizeOf9) <| .cons rfl (zF (off := 0) rfl underlying43 rfl rfl sizeOf41 rfl) <| .cons rfl (zK rfl hc3 isAgg41 rfl) <| .consT rfl rfl (fun _ => rfl) rfl (ze 23 rfl rfl rfl fun y23 => Zt (size := 1) (bytes := 16) rfl rfl (fun _ => .inr ⟨rfl, rfl, rfl, rfl⟩) underlying41 type9 rfl rfl rfl rfl (fun w m hK => hrw_14.mono (KC.le hK)) hcl_14 (by decide) hrd_14.one (by simp only [maxLen]; omega) (by omega)) <| .cons rfl (zF (off := 0) rfl underlying43 rfl rfl sizeOf41 rfl) <| .cons rfl (zW (j := 1) rfl rfl isAgg41 rfl) <| .consT rfl rfl (fun _ => rfl) rfl (ze 26 rfl rfl rfl fun y26 => Zt (size := 1) (bytes := 16) rfl rfl (fun _ => .inl rfl) underlying41 type9 rfl rfl rfl rfl (fun w m hK => hrw_15.mono (KC.le hK)) hcl_15 (by decide) hrd_15.one (by simp only [maxLen]; omega) (by omega)) <| .cons rfl (zF (off := 1) rfl underlying43 rfl rfl sizeOf3 rfl) <| .cons rfl (zW (j := 1) rfl rfl isAgg3 rfl) <| .cons rfl (ZK 29 rfl rfl rfl fun y29 => ZM (.cons rfl <| .cons rfl <| .nil) underlying43 zeroValue43 (.cons sizeOf41 <| .cons sizeOf3 <| .nil) rfl) <| .cons rfl (ZI 32 rfl rfl rfl fun y32 => zZ (φ := MP.rw ⟨ZT (r.labels ++ x.labels), x.var⟩) rfl (.cons rfl <| .nil) call46 (fun w m hK => by have hle_ := KC.le hK; have hA := KC.agree hK; have hr0_ := hK.2; have hrd_14 := hrd_14.mono hle_; have hrd_15 := hrd_15.mono hle_; exact FnG.mono (sortedF_at (ls := r.labels ++ x.labels) (v := x.var) hA (by simp) (Reads.sl ((Reads.nil.app hrd_14).app hrd_15) hr0_.1 (by decide) (by simp) hr0_.2 (by omega)) hxi (by rw [List.length_append]; omega)) fun _ _ _ _ h => h)) <| .consT rfl rfl (fun _ => rfl) rfl (ZL 33 rfl rfl rfl fun y33 => zm rfl rfl rfl sizeOf43 rfl rfl rfl) <| .nil) fun a4 w4 m4 hst4 hle4 hk4 => ?_
  have hfr4 := hk4.fr (.o 4 <| .nil)
  obtain ⟨⟨oz14, cz14⟩, e16, hrz14, hcz14⟩ := hk4.ex 26 rfl
  replace e16 : zu a4 26 = .slice oz14 (r.labels).length cz14 := by rw [e16]; refine congrArg (fun q => Value.slice _ q _) ?_; first | omega | (simp only [List.length_append, List.length_cons, List.length_nil, List.nil_append, List.length_take, List.length_drop]; try omega)
  obtain ⟨⟨oz15, cz15⟩, e17, hrz15, hcz15⟩ := hk4.ex 29 rfl
  replace e17 : zu a4 29 = .slice oz15 ((r.labels ++ x.labels)).length cz15 := by rw [e17]; refine congrArg (fun q => Value.slice _ q _) ?_; first | omega | (simp only [List.length_append, List.length_cons, List.length_nil, List.nil_append, List.length_take, List.length_drop]; try omega)
  replace hst4 := hst4.fin (L' := [_, _, _]) (.cons e16 <| .cons e17 <| .cons rfl <| .nil)
  try simp only [List.take_succ_cons, List.take_zero, List.drop_succ_cons, List.drop_zero, List.cons_append, List.nil_append, List.append_nil, List.length_cons, List.length_nil, Nat.zero_add, Nat.reduceAdd] at hst4
  obtain ⟨⟨oq, cq⟩, hout, hst4⟩ := hst4.unx (k := 0) rfl (fun _ => rfl)
  clear hst3 hfr3 hk4
  replace hrd_14 := hrd_14.mono hle4
  replace hrd_15 := hrd_15.mono hle4
  have hsz15 : Strs m4 oz15 ((r.labels ++ x.labels)).length cz15 (r.labels ++ x.labels) := Reads.sl ((Reads.nil.app hrd_14).app hrd_15) hrz15 (by decide) rfl (by have h := hcz15; first | omega | (simp only [List.length_append, List.length_cons, List.length_nil, List.nil_append, List.length_take, List.length_drop] at h ⊢; omega)) (by first | omega | (simp only [List.length_append, List.length_cons, List.length_nil, List.nil_append, List.length_take, List.length_drop]; omega))
  refine hK13 _ _ ?_
  refine zU ?_
  repeat (with_reducible first | refine zL ?_ | refine zI ?_)
  exact zV hst4 hfr4 rfl (.cell rfl (ZO (ZJ (hst4.loc.at_ (k := 0) rfl)) isAgg43 sizeOf43) <| .nil) (⟨(oq, cq), by rw [heq]; rfl, by rw [heq]; exact hout⟩)
abbrev zGI (t : Ty) : Prop := ∀ {w : World} {m : Mem} {s : Sub} {vs_s : List Value} {vs_t : List Value} (hA : Agree w m) (h_s : RSubR m s vs_s) (h_t : TyR m t vs_t) (hw : SubW 400000000 s) (hb : wdT t ≤ 400000000), FnV Tryz.prog 19 #[.agg vs_s.toArray, .agg vs_t.toArray] w m (fun _ m v => (MP.ty (zM s t)).p m v)
set_option maxHeartbeats 3200000 in
theorem rapply_s {t : Ty} (ih : ∀ u ∈ t.args, zGI u) {w : World} {m : Mem} {s : Sub} {vs_s : List Value} {vs_t : List Value} (hA : Agree w m) (h_s : RSubR m s vs_s) (h_t : TyR m t vs_t) (hw : SubW 400000000 s) (hb : wdT t ≤ 400000000) : FnV Tryz.prog 19 #[.agg vs_s.toArray, .agg vs_t.toArray] w m (fun _ m v => (MP.ty (zM s t)).p m v) := by
 obtain ⟨⟨⟨⟨oA_s, cA_s⟩, oB_s, cB_s⟩, ⟨oC_s, cC_s⟩, oD_s, cD_s⟩, rfl, hqa_s, hqb_s, hqc_s, hqd_s⟩ := id h_s
 have hgb_s := hqa_s.big; have hgd_s := hqc_s.big; simp only [List.length_map] at hgb_s hgd_s
 obtain ⟨o_t, c_t, oL_t, cL_t, rfl, hk_t, hs_t, hi_t, hj_t, hr_t⟩ := h_t.open_
 have hbg_t := hk_t.big; have hcp_t := hk_t.cap; have hbs_t := hs_t.big; have hcs_t := hs_t.cap
 have hrw_t : RwR _ ⟨t.labels, t.rv⟩ _ := ⟨_, _, rfl, hs_t, hr_t⟩
 refine zY (vs := [_, _]) func19 rfl rfl rfl fun a0 hfr0 => ?_
 have hst0 := zX hA (zw [] _ w m)
 have hM : MLe m m := MLe.refl m
 have hbk := fun u (hu : u ∈ t.args) => zAT hu
 have hbe := zAt t
 obtain ⟨x, hx⟩ : ∃ x, x = (zP t.var s.ts).getD zAu := ⟨_, rfl⟩
 obtain ⟨b, hbx⟩ : ∃ x, x = (zP t.var s.ts).isSome := ⟨_, rfl⟩
 refine zE fun _ hK1 => ?_
 replace hst0 := hst0.more (r := .free) trivial List.nodup_nil (by simp [Res.blocks])
 refine ra0 (tch := [(2, 0, (fun v => .blk v _))]) hst0 hfr0 (.cons rfl (ZA rfl rfl) <| .cons rfl (ZA rfl rfl) <| .consT rfl rfl (fun _ => rfl) rfl (zj zeroValue45 rfl) <| .nil) fun a1 w1 m1 hst1 hle1 hk1 => ?_
 have hfr1 := hk1.fr (.nil)
 obtain ⟨g2, e2, hc2⟩ := hk1.ex 2 rfl
 replace hfr1 := hfr1.cons e2
 obtain ⟨g3, e3, hc3⟩ := hk1.ex 3 rfl
 replace hfr1 := hfr1.cons e3
 obtain ⟨g4, e4, _⟩ := hk1.ex 4 rfl
 replace hfr1 := hfr1.cons e4
 replace hst1 := hst1.fin (L' := [_]) (.cons e4 <| .nil)
 replace h_s := h_s.mono hle1
 replace h_t := h_t.mono hle1
 replace hk_t := hk_t.mono hle1
 replace hs_t := hs_t.mono hle1
 clear hst0 hfr0 hk1
 refine hK1 _ _ ?_
 refine zE fun _ hK5 => ?_
 refine zE fun _ hK6 => ?_
 refine rp0 hst1 hfr1 (.cons rfl (zF (off := 0) rfl underlying45 rfl rfl sizeOf3 rfl) <| .cons rfl (zK rfl hc3 isAgg3 rfl) <| .cons rfl (zq rfl rfl) <| .nil) fun a2 w2 m2 hst2 hle2 hk2 => ?_
 have hfr2 := hk2.fr (.o 2 <| .o 3 <| .o 4 <| .n 11 <| .nil)
 replace h_s := h_s.mono hle2
 replace h_t := h_t.mono hle2
 replace hk_t := hk_t.mono hle2
 replace hs_t := hs_t.mono hle2
 replace hc2 := hc2.mono hle2
 replace hc3 := hc3.mono hle2
 clear hst1 hfr1 hk2
 refine hK6 _ _ ?_
 refine zJ hfr2 rfl rfl (fun hb11 => ?_) (fun hb11 => ?_)
 ·try simp only [nqs] at hb11
  refine zE fun _ hK7 => ?_
  replace hst2 := hst2.more (r := .free) trivial List.nodup_nil (by simp [Res.blocks])
  refine ra0 (tch := [(7, 1, (fun v => .blk v _)), (8, 1, (fun v => .blkx v _ _))]) hst2 hfr2 (.cons rfl (zS rfl hc2 isAgg36 sizeOf36 rfl rfl) <| .cons rfl (zF (off := 2) rfl underlying45 rfl rfl sizeOf3 rfl) <| .cons rfl (zK rfl hc3 isAgg3 rfl) <| .cons rfl (zZ (φ := MP.tyb x b) rfl (.cons rfl <| .cons rfl <| .nil) call42 (fun w m hK => by have hle_ := KC.le hK; have hA := KC.agree hK; have h_s := h_s.mono hle_; exact FnG.mono (rtype_x (s := s) (n := t.var) hA h_s hx hbx) fun _ _ _ _ h => h)) <| .cons rfl (ZK 16 rfl rfl rfl fun y16 => zG rfl) <| .cons rfl (ZK 12 rfl rfl rfl fun y12 => zk rfl rfl) <| .cons rfl (ZI 12 rfl rfl rfl fun y12 => zk rfl rfl) <| .consT rfl rfl (fun _ => rfl) rfl (zj zeroValue45 rfl) <| .consT rfl rfl (fun _ => rfl) rfl (ze 5 rfl rfl rfl fun y5 => ZL 17 rfl rfl rfl fun y17 => ZD rfl rfl rfl rfl rfl sizeOf45 rfl rfl rfl) <| .cons rfl (zH rfl) <| .nil) fun a3 w3 m3 hst3 hle3 hk3 => ?_
  have hfr3 := hk3.fr (.o 3 <| .o 4 <| .n 6 <| .nil)
  obtain ⟨g8, e8, _⟩ := hk3.ex 5 rfl
  replace hfr3 := hfr3.cons e8
  replace hst3 := hst3.fin (L' := [_, _]) (.cons e8 <| .cons e8 <| .nil)
  try simp only [List.take_succ_cons, List.take_zero, List.drop_succ_cons, List.drop_zero, List.cons_append, List.nil_append, List.append_nil, List.length_cons, List.length_nil, Nat.zero_add, Nat.reduceAdd] at hst3
  obtain ⟨⟨⟨oa, ca⟩, ol, cl⟩, hT, hst3⟩ := hst3.unx (k := 1) rfl (fun _ => rfl)
  clear hst2 hfr2 hk3
  refine hK7 _ _ ?_
  refine zE fun _ hK10 => ?_
  refine zE fun _ hK11 => ?_
  refine rp0 hst3 hfr3 (.cons rfl (zG rfl) <| .nil) fun a4 w4 m4 hst4 hle4 hk4 => ?_
  have hfr4 := hk4.fr (.o 3 <| .o 4 <| .o 5 <| .n 19 <| .nil)
  clear hst3 hfr3 hk4
  refine hK11 _ _ ?_
  refine zJ hfr4 rfl rfl (fun hb19 => ?_) (fun hb19 => ?_)
  ·try simp only [nqs] at hb19
   refine zE fun _ hK12 => ?_
   have heq : zM s t = x := by rw [ZP hb11, hx]; exact zFa (by rw [← hbx]; exact hb19)
   replace hT := hT.mono hle4
   refine ra0 (tch := [(1, 0, (fun _ => .blk _ _))]) hst4 hfr4 (.cons rfl (zh (j := 1) rfl rfl isAgg45 sizeOf45 rfl) <| .consT rfl rfl (fun _ => rfl) rfl (zm rfl rfl rfl sizeOf45 rfl rfl hT.one) <| .nil) fun a5 w5 m5 hst5 hle5 hk5 => ?_
   have hfr5 := hk5.fr (.o 4 <| .nil)
   replace hst5 := hst5.fin (L' := [_, _]) (.cons rfl <| .nil)
   try simp only [List.take_succ_cons, List.take_zero, List.drop_succ_cons, List.drop_zero, List.cons_append, List.nil_append, List.append_nil, List.length_cons, List.length_nil, Nat.zero_add, Nat.reduceAdd] at hst5
   clear hst4 hfr4 hk5
   refine hK12 _ _ ?_
   refine zU ?_
   repeat (with_reducible first | refine zL ?_ | refine zI ?_)
   replace hT := hT.mono hle5
   exact zV hst5 hfr5 rfl (.cell rfl (ZO (ZJ (hst5.loc.at_ (k := 0) rfl)) isAgg45 sizeOf45) <| .nil) (⟨((oa, ca), (ol, cl)), by rw [heq]; rfl, by rw [heq]; exact hT⟩)
  ·try simp only [nqs] at hb19
   refine zR ?_
   refine hK10 _ _ ?_
   refine zE fun _ hK14 => ?_
   have heq : zM s t = t := by rw [ZP hb11]; cases hq : zP t.var s.ts with | none => rfl | some z => (rw [hq] at hbx; rw [hbx] at hb19; cases hb19)
   have zq1 := hle3.trans hle4
   replace h_t := h_t.mono zq1
   replace hc3 := hc3.mono zq1
   refine ra0 (tch := [(1, 0, (fun _ => .blk _ _))]) hst4 hfr4 (.cons rfl (zS rfl hc3 isAgg45 sizeOf45 rfl rfl) <| .consT rfl rfl (fun _ => rfl) rfl (zm rfl rfl rfl sizeOf45 rfl rfl h_t.one) <| .nil) fun a5 w5 m5 hst5 hle5 hk5 => ?_
   have hfr5 := hk5.fr (.o 4 <| .nil)
   replace hst5 := hst5.fin (L' := [_, _]) (.cons rfl <| .nil)
   try simp only [List.take_succ_cons, List.take_zero, List.drop_succ_cons, List.drop_zero, List.cons_append, List.nil_append, List.append_nil, List.length_cons, List.length_nil, Nat.zero_add, Nat.reduceAdd] at hst5
   clear hst4 hfr4 hk5
   refine hK14 _ _ ?_
   refine zU ?_
   repeat (with_reducible first | refine zL ?_ | refine zI ?_)
   replace h_t := h_t.mono hle5
   exact zV hst5 hfr5 rfl (.cell rfl (ZO (ZJ (hst5.loc.at_ (k := 0) rfl)) isAgg45 sizeOf45) <| .nil) (⟨((o_t, c_t), (oL_t, cL_t)), by rw [heq]; rfl, by rw [heq]; exact h_t⟩)
 ·try simp only [nqs] at hb11
  refine zR ?_
  refine hK5 _ _ ?_
  refine zE fun _ hK16 => ?_
  replace hst2 := hst2.more (r := .free) trivial List.nodup_nil (by simp [Res.blocks])
  refine ra0 (tch := [(1, 1, (fun v => .blk v _)), (2, 1, (fun v => .blk v _))]) hst2 hfr2 (.cons rfl (zS rfl hc3 isAgg45 sizeOf45 rfl rfl) <| .consT rfl rfl (fun _ => rfl) rfl (zj zeroValue45 rfl) <| .consT rfl rfl (fun _ => rfl) rfl (ze 7 rfl rfl rfl fun y7 => ZD rfl rfl rfl rfl rfl sizeOf45 rfl rfl h_t.one) <| .nil) fun a3 w3 m3 hst3 hle3 hk3 => ?_
  have hfr3 := hk3.fr (.o 2 <| .o 3 <| .o 4 <| .nil)
  obtain ⟨gB, e17, _⟩ := hk3.ex 7 rfl
  replace hfr3 := hfr3.cons e17
  replace hst3 := hst3.fin (L' := [_, _]) (.cons e17 <| .cons e17 <| .nil)
  try simp only [List.take_succ_cons, List.take_zero, List.drop_succ_cons, List.drop_zero, List.cons_append, List.nil_append, List.append_nil, List.length_cons, List.length_nil, Nat.zero_add, Nat.reduceAdd] at hst3
  clear hst2 hfr2 hk3
  refine hK16 _ _ ?_
  refine zE fun _ hK18 => ?_
  refine ra0 (tch := [(1, 1, (fun _ => .blk _ _))]) hst3 hfr3 (.cons rfl (zF (off := 3) rfl underlying45 rfl rfl sizeOf33 rfl) <| .consT rfl rfl (fun _ => rfl) rfl (zAH rfl rfl rfl sizeOf33 rfl rfl rfl) <| .nil) fun a4 w4 m4 hst4 hle4 hk4 => ?_
  have hfr4 := hk4.fr (.o 2 <| .o 3 <| .o 4 <| .o 7 <| .nil)
  replace hst4 := hst4.fin (L' := [_, _]) (.cons rfl <| .nil)
  try simp only [List.take_succ_cons, List.take_zero, List.drop_succ_cons, List.drop_zero, List.cons_append, List.nil_append, List.append_nil, List.length_cons, List.length_nil, Nat.zero_add, Nat.reduceAdd] at hst4
  clear hst3 hfr3 hk4
  have hst4 := hst4.more (r := .rowx (.slice none 0 0) 0 6 45 (MP.reads (fun m vs t => TyR m t vs) 6 [])) zCq List.nodup_nil (by simp [Res.blocks, Zd])
  have hsl_K : Tys m4 none ([] : List Ty).length 0 ([] : List Ty) := Sl.empty
  refine hK18 _ _ ?_
  refine zE fun _ hK19 => ?_
  refine zE fun _ hK20 => ?_
  refine rp0 hst4 hfr4 (.cons rfl (zH rfl) <| .nil) fun a5 w5 m5 hst5 hle5 hk5 => ?_
  have hfr5 := hk5.fr (.o 2 <| .o 3 <| .o 4 <| .o 7 <| .n 8 <| .nil)
  clear hst4 hfr4 hk5
  refine hK20 _ _ ?_
  refine zT ?_
  replace hsl_K := hsl_K.mono hle5
  refine z6 (T := [(2, _), (3, _), (4, _), (7, _)]) (fun (y : Nat × Option Addr × Nat × List Ty) => ([(8, .int .i64 (y.1 : Int))] : List (Nat × Value))) (fun y => [_, .blk (.pointer (some ⟨gB, 0, none⟩)) (.cells (tyV ⟨t.kind, t.name, t.var, y.2.2.2, t.labels, t.rv⟩ ((y.2.1, y.2.2.1), (oL_t, cL_t))).toArray 45), .rowx (nz (.slice y.2.1 y.2.2.2.length y.2.2.1)) y.2.2.2.length 6 45 (MP.reads (fun m vs t => TyR m t vs) 6 y.2.2.2)]) (fun (y : Nat × Option Addr × Nat × List Ty) m => (fun (y : Nat) (klo : Option Addr) (klp : Nat) (kl : List Ty) => (y ≤ t.args.length) ∧ (Tys m klo kl.length klp kl) ∧ (zo s t.args = kl ++ zo s (t.args.drop y) ∧ kl.length ≤ y)) y.1 y.2.1 y.2.2.1 y.2.2.2) (fun y => t.args.length - y.1) ((0, none, 0, ([] : List Ty))) ⟨hst5, MLe.refl _, hfr5.sub (.c <| .c <| .c <| .c <| .c <| .nil), ⟨Nat.zero_le _, hsl_K, ⟨rfl, Nat.le_refl _⟩⟩⟩ fun y a6 w6 m6 hh6 => ?_
  have hst6 := hh6.st; have hle6 := hh6.le; have hfr6 := hh6.fr; have hrel := hh6.rel; clear hh6
  clear hst5 hfr5
  obtain ⟨y, klo, klp, kl⟩ := y
  dsimp only at hrel hfr6 hst6
  obtain ⟨hyn, hsl_kl, hlen_kl⟩ := hrel
  have hlh6 := hle6
  refine zE fun _ hK22 => ?_
  refine zE fun _ hK23 => ?_
  have zq2 := hle5.trans hle6
  have zq3 := hle4.trans zq2
  have zq4 := hle3.trans zq3
  replace hc3 := hc3.mono zq4
  refine rp0 hst6 hfr6 (.cons rfl (zG rfl) <| .cons rfl (zF (off := 3) rfl underlying45 rfl rfl sizeOf33 rfl) <| .cons rfl (zK rfl hc3 isAgg33 rfl) <| .cons rfl (zt rfl underlying33) <| .cons rfl (ZG rfl rfl) <| .nil) fun a7 w7 m7 hst7 hle7 hk7 => ?_
  have hfr7 := hk7.fr (.o 8 <| .o 2 <| .o 3 <| .o 4 <| .o 7 <| .n 28 <| .nil)
  clear hst6 hfr6 hk7
  refine hK23 _ _ ?_
  refine zJ hfr7 rfl rfl (fun hb28 => ?_) (fun hb28 => ?_)
  ·try simp only [nqs] at hb28
   refine zR ?_
   refine hK22 _ _ ?_
   refine zE fun _ hK24 => ?_
   refine zT ?_
   have zq5 := zq4.trans hle7
   replace hk_t := hk_t.mono zq5
   obtain ⟨p25, vs25, x25, ho25, hd25, hm_x25, ht25, hcv25, hl25, hv25⟩ := hk_t.nth (k := y) (by omega)
   cases ho25
   obtain ⟨o25, c25, oL25, cL25, rfl, hkd25, hs25, hi25, hj25, hr25⟩ := hv25.open_
   have hbg25 := hkd25.big; have hcp25 := hkd25.cap; have hbs25 := hs25.big; have hcs25 := hs25.cap
   have hrw25 : RwR _ ⟨x25.labels, x25.rv⟩ _ := ⟨_, _, rfl, hs25, hr25⟩
   have hbx9 := hbk x25 hm_x25
   rw [hd25, zo] at hlen_kl
   have hkll := hlen_kl.2
   replace h_s := h_s.mono zq5
   replace hc2 := hc2.mono zq5
   replace hc3 := hc3.mono hle7
   refine zn (tch := [(10, 2, (fun v => .rowx (nz v) _ _ _ _)), (12, 1, (fun u => .blk _ (.cells (_ ++ [u] ++ _).toArray _)))]) (fun _ => mixed) hst7 hfr7 (by kernel_rfl) (by kernel_rfl) (by kernel_rfl) (.cons rfl (zF (off := 3) rfl underlying45 rfl rfl sizeOf33 rfl) <| .cons rfl (zW (j := 1) rfl rfl isAgg33 rfl) <| .cons rfl (zS rfl hc2 isAgg36 sizeOf36 rfl rfl) <| .cons rfl (zF (off := 3) rfl underlying45 rfl rfl sizeOf33 rfl) <| .cons rfl (zK rfl hc3 isAgg33 rfl) <| .cons rfl (zG rfl) <| .cons rfl (zN (k := y) rfl rfl underlying33 sizeOf45 rfl (by omega)) <| .cons rfl (zS rfl hcv25 isAgg45 sizeOf45 rfl rfl) <| .cons rfl (zZ (φ := MP.ty (zM s x25)) rfl (.cons rfl <| .cons rfl <| .nil) call19 (fun w m hK => by have hle_ := KC.le hK; have hA := KC.agree hK; have h_s := h_s.mono hle_; have hv25 := hv25.mono hle_; exact FnG.mono (ih _ hm_x25 hA h_s hv25 hw (by omega)) fun _ _ _ _ h => h)) <| .cons rfl (ob_imgI 39 rfl rfl rfl fun y39 => zAf rfl underlying33 sizeOf45 zeroValue45 rfl rfl rfl rfl) <| .consT rfl rfl (fun _ => rfl) rfl (ze 40 rfl rfl rfl fun y40 => zAV (size := 6) (bytes := 88) (l := kl) (l' := [zM s x25]) rfl rfl (fun _ => by first | exact .inl rfl | exact .inr (.inl rfl)) underlying33 type45 rfl rfl rfl rfl (fun w m hK => Sl.one (R := fun m vs t => TyR m t vs) hK.2.2 rfl hK.2.1) rfl (by decide) (by simp only [maxLen]; omega) (by omega)) <| .cons rfl (zF (off := 3) rfl underlying45 rfl rfl sizeOf33 rfl) <| .consT rfl rfl (fun _ => rfl) rfl (ze 41 rfl rfl rfl fun y41 => Ze rfl rfl rfl rfl rfl sizeOf33 rfl rfl rfl) <| .nil) fun a8 w8 m8 hst8 hle8 hk8 => ?_
   have hfr8 := hk8.fr (.o 8 <| .o 2 <| .o 3 <| .o 4 <| .o 7 <| .nil)
   obtain ⟨⟨K_26o, K_26p⟩, e27, hsl_K_26⟩ := hk8.ex 41 rfl
   replace hst8 := hst8.fin (L' := [_, _, _]) (.cons e27 <| .cons e27 <| .nil)
   try simp only [List.take_succ_cons, List.take_zero, List.drop_succ_cons, List.drop_zero, List.cons_append, List.nil_append, List.append_nil, List.length_cons, List.length_nil, Nat.zero_add, Nat.reduceAdd] at hst8
   clear hst7 hfr7 hk8
   replace hsl_K_26 : Tys m8 K_26o (kl ++ [zM s x25]).length K_26p (kl ++ [zM s x25]) := hsl_K_26
   refine hK24 _ _ ?_
   refine rp0 hst8 hfr8 (.cons rfl (zG rfl) <| .cons rfl (zy rfl rfl ⟨by omega, by omega⟩) <| .cons rfl (zH rfl) <| .nil) fun a9 w9 m9 hst9 hle9 hk9 => ?_
   have hfr9 := hk9.fr (.o 2 <| .o 3 <| .o 4 <| .o 7 <| .n 8 <| .nil)
   clear hst8 hfr8 hk9
   replace hsl_K_26 := hsl_K_26.mono hle9
   have zq6 := hle8.trans hle9
   have zq7 := hle7.trans zq6
   have hlh9 := hlh6.trans zq7
   exact ⟨(y + 1, K_26o, K_26p, (kl ++ [zM s x25])), m9, by show t.args.length - (y + 1) < t.args.length - y; omega, ⟨hst9, hlh9, hfr9.sub (.c <| .c <| .c <| .c <| .c <| .nil), ⟨by show y + 1 ≤ t.args.length; omega, hsl_K_26, ⟨by rw [hlen_kl.1]; show _ = (kl ++ [zM s x25]) ++ zo s (t.args.drop (y + 1)); simp, by show (kl ++ [zM s x25]).length ≤ y + 1; simp; omega⟩⟩⟩⟩
  ·try simp only [nqs] at hb28
   have hge : y = t.args.length := by omega
   rw [List.drop_of_length_le (by omega), zo, List.append_nil] at hlen_kl
   refine z7 ?_
   refine hK19 _ _ ?_
   refine zE fun _ hK28 => ?_
   refine zE fun _ hK29 => ?_
   replace hc3 := hc3.mono hle7
   refine rp0 hst7 hfr7 (.cons rfl (zF (off := 0) rfl underlying45 rfl rfl sizeOf3 rfl) <| .cons rfl (zK rfl hc3 isAgg3 rfl) <| .cons rfl (zq rfl rfl) <| .nil) fun a8 w8 m8 hst8 hle8 hk8 => ?_
   have hfr8 := hk8.fr (.o 8 <| .o 2 <| .o 3 <| .o 4 <| .o 7 <| .n 45 <| .nil)
   clear hst7 hfr7 hk8
   refine hK29 _ _ ?_
   refine zJ hfr8 rfl rfl (fun hb45 => ?_) (fun hb45 => ?_)
   ·try simp only [nqs] at hb45
    have zq8 := hle7.trans hle8
    have zq9 := zq4.trans zq8
    replace h_s := h_s.mono zq9
    replace hs_t := hs_t.mono zq9
    replace hc2 := hc2.mono zq9
    replace hc3 := hc3.mono hle8
    refine ra0 (tch := [(5, 1, (fun _ => .blkx _ _ _))]) hst8 hfr8 (.cons rfl (zS rfl hc2 isAgg36 sizeOf36 rfl rfl) <| .cons rfl (zF (off := 4) rfl underlying45 rfl rfl sizeOf43 rfl) <| .cons rfl (Zs rfl hc3 isAgg43 sizeOf43 rfl rfl) <| .cons rfl (zZ (φ := MP.rw (zQ s ⟨t.labels, t.rv⟩)) rfl (.cons rfl <| .cons rfl <| .nil) call22 (fun w m hK => by have hle_ := KC.le hK; have hA := KC.agree hK; have h_s := h_s.mono hle_; have hs_t := hs_t.mono hle_; exact FnG.mono (zCR (r := ⟨t.labels, t.rv⟩) hA h_s ⟨_, _, rfl, hs_t, hr_t⟩ hw (by show t.labels.length ≤ _; omega)) fun _ _ _ _ h => h)) <| .cons rfl (zF (off := 4) rfl underlying45 rfl rfl sizeOf43 rfl) <| .consT rfl rfl (fun _ => rfl) rfl (ZL 49 rfl rfl rfl fun y49 => zAH rfl rfl rfl sizeOf43 rfl rfl rfl) <| .nil) fun a9 w9 m9 hst9 hle9 hk9 => ?_
    have hfr9 := hk9.fr (.o 8 <| .o 4 <| .o 7 <| .nil)
    replace hst9 := hst9.fin (L' := [_, _, _]) (.cons rfl <| .nil)
    try simp only [List.take_succ_cons, List.take_zero, List.drop_succ_cons, List.drop_zero, List.cons_append, List.nil_append, List.append_nil, List.length_cons, List.length_nil, Nat.zero_add, Nat.reduceAdd] at hst9
    obtain ⟨⟨oR9, cR9⟩, hRR, hst9⟩ := hst9.unx (k := 1) rfl (fun _ => rfl)
    clear hst8 hfr8 hk9
    have hRS := (zAF hRR).1
    have hRI := (zAF hRR).2
    have zq10 := zq8.trans hle9
    replace hsl_kl := hsl_kl.mono zq10
    have h9 := TyR.build (k := t.kind) (s := t.name) (v := t.var) (ks := kl) (ls := (zQ s ⟨t.labels, t.rv⟩).labels) (r := (zQ s ⟨t.labels, t.rv⟩).var) hsl_kl hRS hi_t hj_t hRI
    have hfe : zM s t = ⟨t.kind, t.name, t.var, kl, (zQ s ⟨t.labels, t.rv⟩).labels, (zQ s ⟨t.labels, t.rv⟩).var⟩ := by rw [Zb hb11, if_pos hb45, if_pos hb45, hlen_kl.1]
    rw [← hfe] at h9
    have htv : tyV (zM s t) ((klo, klp), (oR9, cR9)) = [.int .i64 t.kind, S t.name, .int .i64 t.var, .slice klo (kl).length klp, .slice oR9 ((zQ s ⟨t.labels, t.rv⟩).labels).length cR9,   .int .i64 ((zQ s ⟨t.labels, t.rv⟩).var)] := by rw [hfe]; rfl
    refine hK28 _ _ ?_
    refine zE fun _ hK31 => ?_
    refine ra0 (tch := [(1, 0, (fun _ => .blk _ _))]) hst9 hfr9 (.cons rfl (zh (j := 1) rfl rfl isAgg45 sizeOf45 rfl) <| .consT rfl rfl (fun _ => rfl) rfl (zm rfl rfl rfl sizeOf45 rfl rfl h9.one) <| .nil) fun a10 w10 m10 hst10 hle10 hk10 => ?_
    have hfr10 := hk10.fr (.o 8 <| .o 4 <| .nil)
    replace hst10 := hst10.fin (L' := [_, _, _]) (.cons rfl <| .nil)
    try simp only [List.take_succ_cons, List.take_zero, List.drop_succ_cons, List.drop_zero, List.cons_append, List.nil_append, List.append_nil, List.length_cons, List.length_nil, Nat.zero_add, Nat.reduceAdd] at hst10
    clear hst9 hfr9 hk10
    refine hK31 _ _ ?_
    refine zU ?_
    repeat (with_reducible first | refine zL ?_ | refine zI ?_)
    replace h9 := h9.mono hle10
    exact zV hst10 hfr10 rfl (.cell rfl (ZO (ZJ (hst10.loc.at_ (k := 0) rfl)) isAgg45 sizeOf45) <| .nil) (⟨((klo, klp), (oR9, cR9)), congrArg (fun l : List Value => Value.agg l.toArray) htv.symm, by show TyR _ _ (tyV (zM s t) ((klo, klp), (oR9, cR9))); rw [htv]; exact h9⟩)
   ·try simp only [nqs] at hb45
    have zq11 := hle7.trans hle8
    have zq12 := zq4.trans zq11
    replace hs_t := hs_t.mono zq12
    replace hsl_kl := hsl_kl.mono zq11
    have h9 := TyR.build (k := t.kind) (s := t.name) (v := t.var) (ks := kl) (ls := t.labels) (r := t.rv) hsl_kl hs_t hi_t hj_t hr_t
    have hfe : zM s t = ⟨t.kind, t.name, t.var, kl, t.labels, t.rv⟩ := by rw [Zb hb11, if_neg hb45, if_neg hb45, hlen_kl.1]
    rw [← hfe] at h9
    have htv : tyV (zM s t) ((klo, klp), (oL_t, cL_t)) = [.int .i64 t.kind, S t.name, .int .i64 t.var, .slice klo (kl).length klp, .slice oL_t (t.labels).length cL_t,   .int .i64 (t.rv)] := by rw [hfe]; rfl
    refine zR ?_
    refine hK28 _ _ ?_
    refine zE fun _ hK33 => ?_
    refine ra0 (tch := [(1, 0, (fun _ => .blk _ _))]) hst8 hfr8 (.cons rfl (zh (j := 1) rfl rfl isAgg45 sizeOf45 rfl) <| .consT rfl rfl (fun _ => rfl) rfl (zm rfl rfl rfl sizeOf45 rfl rfl h9.one) <| .nil) fun a9 w9 m9 hst9 hle9 hk9 => ?_
    have hfr9 := hk9.fr (.o 8 <| .o 4 <| .nil)
    replace hst9 := hst9.fin (L' := [_, _, _]) (.cons rfl <| .nil)
    try simp only [List.take_succ_cons, List.take_zero, List.drop_succ_cons, List.drop_zero, List.cons_append, List.nil_append, List.append_nil, List.length_cons, List.length_nil, Nat.zero_add, Nat.reduceAdd] at hst9
    clear hst8 hfr8 hk9
    refine hK33 _ _ ?_
    refine zU ?_
    repeat (with_reducible first | refine zL ?_ | refine zI ?_)
    replace h9 := h9.mono hle9
    exact zV hst9 hfr9 rfl (.cell rfl (ZO (ZJ (hst9.loc.at_ (k := 0) rfl)) isAgg45 sizeOf45) <| .nil) (⟨((klo, klp), (oL_t, cL_t)), congrArg (fun l : List Value => Value.agg l.toArray) htv.symm, by show TyR _ _ (tyV (zM s t) ((klo, klp), (oL_t, cL_t))); rw [htv]; exact h9⟩)
theorem zCn (t : Ty) : zGI t := Ty.rec_ (p := zGI) (fun t ih => rapply_s ih) t
end Go.Proofs.YtlidonjpgigocaaGreat
namespace Go.Proofs.YtlidonjpgigocaaGreat
open Go.Proofs.Tryz
set_option linter.all false
set_option maxRecDepth 4000
open Go.RowKit
abbrev ZZ := ((Option Addr × Nat) × (Option Addr × Nat)) × ((Option Addr × Nat) × (Option Addr × Nat))
theorem zCv {α : Type} (n : Int) (x : α) (l : List (Int × α)) : (zAY n x l).length ≤ l.length + 1 := by unfold zAY; rw [List.length_append]; have := List.length_filter_le (fun p : Int × α => !decide (p.1 = n)) l; simp only [List.length_cons, List.length_nil]; omega
set_option maxHeartbeats 3200000 in
theorem rthen_c {w : World} {m : Mem} {a : Sub} {vs_a : List Value} {b : Sub} {vs_b : List Value} (hA : Agree w m) (h_a : RSubR m a vs_a) (h_b : RSubR m b vs_b) (hwa : ∀ p ∈ a.ts, wdT p.2 ≤ 300000000) (hra : ∀ p ∈ a.rs, p.2.labels.length ≤ 300000000) (hwb : SubW 400000000 b) (hla : a.ts.length ≤ 2000000 ∧ a.rs.length ≤ 2000000) (hlb : b.ts.length ≤ 2000000 ∧ b.rs.length ≤ 2000000) : FnV Tryz.prog 63 #[.agg vs_a.toArray, .agg vs_b.toArray] w m (fun _ m v => (MP.rsub (zAx a b)).p m v) := by
 obtain ⟨⟨⟨⟨oA_a, cA_a⟩, oB_a, cB_a⟩, ⟨oC_a, cC_a⟩, oD_a, cD_a⟩, rfl, hqa_a, hqb_a, hqc_a, hqd_a⟩ := id h_a
 have hgb_a := hqa_a.big; have hgd_a := hqc_a.big; simp only [List.length_map] at hgb_a hgd_a
 obtain ⟨⟨⟨⟨oA_b, cA_b⟩, oB_b, cB_b⟩, ⟨oC_b, cC_b⟩, oD_b, cD_b⟩, rfl, hqa_b, hqb_b, hqc_b, hqd_b⟩ := id h_b
 have hgb_b := hqa_b.big; have hgd_b := hqc_b.big; simp only [List.length_map] at hgb_b hgd_b
 refine zY (vs := [_, _]) func63 rfl rfl rfl fun a0 hfr0 => ?_
 have hst0 := zX hA (zw [] _ w m)
 have hM : MLe m m := MLe.refl m
 refine zE fun _ hK1 => ?_
 replace hst0 := hst0.more (r := .free) trivial List.nodup_nil (by simp [Res.blocks])
 refine ra0 (tch := [(2, 0, (fun v => .blk v _))]) hst0 hfr0 (.cons rfl (ZA rfl rfl) <| .cons rfl (ZA rfl rfl) <| .consT rfl rfl (fun _ => rfl) rfl (zj zeroValue36 rfl) <| .nil) fun a1 w1 m1 hst1 hle1 hk1 => ?_
 have hfr1 := hk1.fr (.nil)
 obtain ⟨g2, e2, hc2⟩ := hk1.ex 2 rfl
 replace hfr1 := hfr1.cons e2
 obtain ⟨g3, e3, hc3⟩ := hk1.ex 3 rfl
 replace hfr1 := hfr1.cons e3
 obtain ⟨g4, e4, _⟩ := hk1.ex 4 rfl
 replace hfr1 := hfr1.cons e4
 replace hst1 := hst1.fin (L' := [_]) (.cons e4 <| .nil)
 replace hqa_a := hqa_a.mono hle1
 replace hqb_a := hqb_a.mono hle1
 replace hqc_a := hqc_a.mono hle1
 replace hqd_a := hqd_a.mono hle1
 replace h_b := h_b.mono hle1
 clear hst0 hfr0 hk1
 refine hK1 _ _ ?_
 refine zE fun _ hK5 => ?_
 replace hst1 := hst1.more (r := .free) trivial List.nodup_nil (by simp [Res.blocks])
 refine ra0 (tch := [(1, 1, (fun v => .blk v _)), (2, 1, (fun v => .blk v _))]) hst1 hfr1 (.cons rfl (zS rfl hc3 isAgg36 sizeOf36 rfl rfl) <| .consT rfl rfl (fun _ => rfl) rfl (zj zeroValue36 rfl) <| .consT rfl rfl (fun _ => rfl) rfl (ze 5 rfl rfl rfl fun y5 => ZD rfl rfl rfl rfl rfl sizeOf36 rfl rfl rfl) <| .nil) fun a2 w2 m2 hst2 hle2 hk2 => ?_
 have hfr2 := hk2.fr (.o 2 <| .o 3 <| .o 4 <| .nil)
 obtain ⟨g5, e6, _⟩ := hk2.ex 5 rfl
 replace hfr2 := hfr2.cons e6
 replace hst2 := hst2.fin (L' := [_, _]) (.cons e6 <| .cons e6 <| .nil)
 try simp only [List.take_succ_cons, List.take_zero, List.drop_succ_cons, List.drop_zero, List.cons_append, List.nil_append, List.append_nil, List.length_cons, List.length_nil, Nat.zero_add, Nat.reduceAdd] at hst2
 replace hqa_a := hqa_a.mono hle2
 replace hqb_a := hqb_a.mono hle2
 replace hqc_a := hqc_a.mono hle2
 replace hqd_a := hqd_a.mono hle2
 replace h_b := h_b.mono hle2
 replace hc2 := hc2.mono hle2
 replace hc3 := hc3.mono hle2
 clear hst1 hfr1 hk2
 refine hK5 _ _ ?_
 refine zE fun _ hK7 => ?_
 refine zE fun _ hK8 => ?_
 refine rp0 hst2 hfr2 (.cons rfl (zH rfl) <| .nil) fun a3 w3 m3 hst3 hle3 hk3 => ?_
 have hfr3 := hk3.fr (.o 2 <| .o 3 <| .o 4 <| .o 5 <| .n 6 <| .nil)
 replace hqa_a := hqa_a.mono hle3
 replace hqb_a := hqb_a.mono hle3
 replace hqc_a := hqc_a.mono hle3
 replace hqd_a := hqd_a.mono hle3
 replace h_b := h_b.mono hle3
 replace hc2 := hc2.mono hle3
 replace hc3 := hc3.mono hle3
 clear hst2 hfr2 hk3
 refine hK8 _ _ ?_
 refine zT ?_
 refine z6 (T := [(2, _), (3, _), (4, _), (5, _)]) (fun (y : Nat × Sub × ZZ) => ([(6, .int .i64 (y.1 : Int))] : List (Nat × Value))) (fun y => [_, .blk (.pointer (some ⟨g5, 0, none⟩)) (.cells (rsV y.2.1 y.2.2).toArray 36)]) (fun (y : Nat × Sub × ZZ) m => (fun (y : Nat) (o : Sub) (z : ZZ) => (y ≤ (a.ts.map Prod.fst).length) ∧ (RSubR m o (rsV o z)) ∧ (o = ⟨zDO b (a.ts.take y), b.rs⟩ ∧ (zDO b (a.ts.take y)).length ≤ 2000000 + y) ∧ (o.ts.length ≤ 4000000 ∧ o.rs.length ≤ 4000000)) y.1 y.2.1 y.2.2) (fun y => (a.ts.map Prod.fst).length - y.1) ((0, b, (((oA_b, cA_b), (oB_b, cB_b)), ((oC_b, cC_b), (oD_b, cD_b))))) ⟨hst3, MLe.refl _, hfr3.sub (.c <| .c <| .c <| .c <| .c <| .nil), ⟨Nat.zero_le _, h_b, ⟨rfl, by show b.ts.length ≤ _; omega⟩, ⟨by show b.ts.length ≤ 4000000; omega, by show b.rs.length ≤ 4000000; omega⟩⟩⟩ fun y a4 w4 m4 hh4 => ?_
 have hst4 := hh4.st; have hle4 := hh4.le; have hfr4 := hh4.fr; have hrel := hh4.rel; clear hh4
 replace hqa_a := hqa_a.mono hle4
 replace hqb_a := hqb_a.mono hle4
 replace hqc_a := hqc_a.mono hle4
 replace hqd_a := hqd_a.mono hle4
 replace h_b := h_b.mono hle4
 replace hc2 := hc2.mono hle4
 replace hc3 := hc3.mono hle4
 clear hst3 hfr3
 obtain ⟨y, o, z⟩ := y
 dsimp only at hrel hfr4 hst4
 obtain ⟨hyn, hO, ho9, hol⟩ := hrel
 have hyb : a.ts.length ≤ 2000000 := hla.1
 have hlh4 := hle4
 refine zE fun _ hK10 => ?_
 refine zE fun _ hK11 => ?_
 refine rp0 hst4 hfr4 (.cons rfl (zG rfl) <| .cons rfl (zF (off := 0) rfl underlying36 rfl rfl sizeOf32 rfl) <| .cons rfl (zK rfl hc2 isAgg32 rfl) <| .cons rfl (zt rfl underlying32) <| .cons rfl (ZG rfl rfl) <| .nil) fun a5 w5 m5 hst5 hle5 hk5 => ?_
 have hfr5 := hk5.fr (.o 6 <| .o 2 <| .o 3 <| .o 4 <| .o 5 <| .n 13 <| .nil)
 replace hqa_a := hqa_a.mono hle5
 replace hqb_a := hqb_a.mono hle5
 replace hqc_a := hqc_a.mono hle5
 replace hqd_a := hqd_a.mono hle5
 replace h_b := h_b.mono hle5
 replace hc2 := hc2.mono hle5
 replace hc3 := hc3.mono hle5
 replace hO := hO.mono hle5
 have hlh5 := hlh4.trans hle5
 clear hst4 hfr4 hk5
 refine hK11 _ _ ?_
 refine zJ hfr5 rfl rfl (fun hb13 => ?_) (fun hb13 => ?_)
 ·try simp only [nqs] at hb13
  refine zR ?_
  refine hK10 _ _ ?_
  refine zE fun _ hK12 => ?_
  refine zT ?_
  have hyl : y < a.ts.length := by rw [← List.length_map (f := Prod.fst)]; omega
  obtain ⟨p9, hp9⟩ : ∃ p, a.ts[y]? = some p := ⟨_, List.getElem?_eq_getElem hyl⟩
  have hyl2 : y < (a.ts.map Prod.snd).length := by rw [List.length_map]; exact hyl
  obtain ⟨p13, vs13, x13, ho13, hd13, hm_x13, ht13, hcv13, hl13, hv13⟩ := hqa_a.nth (k := y) (by omega)
  cases ho13
  subst hv13
  obtain ⟨p14, vs14, x14, ho14, hd14, hm_x14, ht14, hcv14, hl14, hv14⟩ := hqb_a.nth (k := y) (by omega)
  cases ho14
  obtain ⟨o14, c14, oL14, cL14, rfl, hkd14, hs14, hi14, hj14, hr14⟩ := hv14.open_
  have hbg14 := hkd14.big; have hcp14 := hkd14.cap; have hbs14 := hs14.big; have hcs14 := hs14.cap
  have hrw14 : RwR _ ⟨x14.labels, x14.rv⟩ _ := ⟨_, _, rfl, hs14, hr14⟩
  have e9 := zCj hp9 hd13
  have e8 := zCj hp9 hd14
  have hwx := hwa p9 (List.mem_of_getElem? hp9)
  rw [← e8] at hwx
  refine zn (tch := [(14, 1, (fun _ => .blkx _ _ _))]) (fun _ => mixed) hst5 hfr5 (by kernel_rfl) (by kernel_rfl) (by kernel_rfl) (.cons rfl (zh (j := 1) rfl rfl isAgg36 sizeOf36 rfl) <| .cons rfl (zF (off := 0) rfl underlying36 rfl rfl sizeOf32 rfl) <| .cons rfl (zK rfl hc2 isAgg32 rfl) <| .cons rfl (zG rfl) <| .cons rfl (zN (k := y) rfl rfl underlying32 sizeOf3 rfl (by omega)) <| .cons rfl (zr rfl hcv13 isAgg3 rfl) <| .cons rfl (zS rfl hc3 isAgg36 sizeOf36 rfl rfl) <| .cons rfl (zF (off := 1) rfl underlying36 rfl rfl sizeOf33 rfl) <| .cons rfl (zK rfl hc2 isAgg33 rfl) <| .cons rfl (zG rfl) <| .cons rfl (zN (k := y) rfl rfl underlying33 sizeOf45 rfl (by omega)) <| .cons rfl (zS rfl hcv14 isAgg45 sizeOf45 rfl rfl) <| .cons rfl (zZ (φ := MP.ty (zM b x14)) rfl (.cons rfl <| .cons rfl <| .nil) call19 (fun w m hK => by have hle_ := KC.le hK; have hA := KC.agree hK; have h_b := h_b.mono hle_; have hv14 := hv14.mono hle_; exact FnG.mono (zCn x14 hA h_b hv14 hwb (by omega)) fun _ _ _ _ h => h)) <| .cons rfl (ZI 28 rfl rfl rfl fun y28 => zZ (φ := MP.rsub ⟨zAY x13 (zM b x14) o.ts, o.rs⟩) rfl (.cons rfl <| .cons rfl <| .cons rfl <| .nil) call61 (fun w m hK => by have hle_ := KC.le hK; have hA := KC.agree hK; have hr0_ := hK.2; have hO := hO.mono hle_; exact FnG.mono (zFw (s := o) (n := x13) (x := zM b x14) hA hO hr0_ (by omega)) fun _ _ _ _ h => h)) <| .consT rfl rfl (fun _ => rfl) rfl (ZL 29 rfl rfl rfl fun y29 => zm rfl rfl rfl sizeOf36 rfl rfl rfl) <| .nil) fun a6 w6 m6 hst6 hle6 hk6 => ?_
  have hfr6 := hk6.fr (.o 6 <| .o 2 <| .o 3 <| .o 4 <| .o 5 <| .nil)
  replace hst6 := hst6.fin (L' := [_, _]) (.cons rfl <| .nil)
  try simp only [List.take_succ_cons, List.take_zero, List.drop_succ_cons, List.drop_zero, List.cons_append, List.nil_append, List.append_nil, List.length_cons, List.length_nil, Nat.zero_add, Nat.reduceAdd] at hst6
  obtain ⟨z1, hR1, hst6⟩ := hst6.unx (k := 1) rfl (fun _ => rfl)
  clear hst5 hfr5 hk6
  refine hK12 _ _ ?_
  refine rp0 hst6 hfr6 (.cons rfl (zG rfl) <| .cons rfl (zy rfl rfl ⟨by omega, by omega⟩) <| .cons rfl (zH rfl) <| .nil) fun a7 w7 m7 hst7 hle7 hk7 => ?_
  have hfr7 := hk7.fr (.o 2 <| .o 3 <| .o 4 <| .o 5 <| .n 6 <| .nil)
  clear hst6 hfr6 hk7
  replace hR1 := hR1.mono hle7
  have zq1 := hle6.trans hle7
  have hlh7 := hlh5.trans zq1
  exact ⟨(y + 1, ⟨zAY x13 (zM b x14) o.ts, o.rs⟩, z1), m7, by show (a.ts.map Prod.fst).length - (y + 1) < (a.ts.map Prod.fst).length - y; omega, ⟨hst7, hlh7, hfr7.sub (.c <| .c <| .c <| .c <| .c <| .nil), ⟨by show y + 1 ≤ (a.ts.map Prod.fst).length; omega, hR1, ⟨by rw [zGZ hp9, ho9.1, e9, e8], by rw [zGZ hp9]; have h7 := zCv p9.1 (zM b p9.2) (zDO b (a.ts.take y)); omega⟩, ⟨by show (zAY x13 (zM b x14) o.ts).length ≤ 4000000; have h7 := zCv x13 (zM b x14) o.ts; have h6 : o.ts = zDO b (a.ts.take y) := (by rw [ho9.1]); have h5 := ho9.2; rw [← h6] at h5; omega, hol.2⟩⟩⟩⟩
 ·try simp only [nqs] at hb13
  have hlm : (a.ts.map Prod.fst).length = a.ts.length := List.length_map _
  have hge : y = a.ts.length := by omega
  rw [List.take_of_length_le (by omega)] at ho9
  refine z7 ?_
  refine hK7 _ _ ?_
  refine zE fun _ hK16 => ?_
  refine zE fun _ hK17 => ?_
  have hoT := ho9.1
  refine rp0 hst5 hfr5 (.cons rfl (zH rfl) <| .nil) fun a6 w6 m6 hst6 hle6 hk6 => ?_
  have hfr6 := hk6.fr (.o 6 <| .o 2 <| .o 3 <| .o 4 <| .o 5 <| .n 7 <| .nil)
  clear hst5 hfr5 hk6
  refine hK17 _ _ ?_
  refine zT ?_
  have hlh6 := hlh5.trans hle6
  have hlq18 := hlh6
  replace hO := hO.mono hle6
  refine z6 (T := [(6, _), (2, _), (3, _), (4, _), (5, _)]) (fun (y : Nat × Sub × ZZ) => ([(7, .int .i64 (y.1 : Int))] : List (Nat × Value))) (fun y => [_, .blk (.pointer (some ⟨g5, 0, none⟩)) (.cells (rsV y.2.1 y.2.2).toArray 36)]) (fun (y : Nat × Sub × ZZ) m => (fun (y : Nat) (o : Sub) (z : ZZ) => (y ≤ (a.rs.map Prod.fst).length) ∧ (RSubR m o (rsV o z)) ∧ (o = ⟨zDO b a.ts, zCX b (a.rs.take y)⟩ ∧ (zCX b (a.rs.take y)).length ≤ 2000000 + y) ∧ (o.ts.length ≤ 4000000 ∧ o.rs.length ≤ 4000000)) y.1 y.2.1 y.2.2) (fun y => (a.rs.map Prod.fst).length - y.1) ((0, o, z)) ⟨hst6, MLe.refl _, hfr6.sub (.c <| .c <| .c <| .c <| .c <| .c <| .nil), ⟨Nat.zero_le _, hO, ⟨by rw [hoT]; rfl, by show b.rs.length ≤ _; omega⟩, hol⟩⟩ fun y a7 w7 m7 hh7 => ?_
  have hst7 := hh7.st; have hle7 := hh7.le; have hfr7 := hh7.fr; have hrel := hh7.rel; clear hh7
  clear hst6 hfr6
  obtain ⟨y, o, z⟩ := y
  dsimp only at hrel hfr7 hst7
  replace hO := hO.mono hle7
  obtain ⟨hyn, hO, ho9, hol⟩ := hrel
  have hyb : a.rs.length ≤ 2000000 := hla.2
  have hlh7 := hle7
  refine zE fun _ hK19 => ?_
  refine zE fun _ hK20 => ?_
  have zq2 := hle6.trans hle7
  replace hc2 := hc2.mono zq2
  refine rp0 hst7 hfr7 (.cons rfl (zG rfl) <| .cons rfl (zF (off := 2) rfl underlying36 rfl rfl sizeOf32 rfl) <| .cons rfl (zK rfl hc2 isAgg32 rfl) <| .cons rfl (zt rfl underlying32) <| .cons rfl (ZG rfl rfl) <| .nil) fun a8 w8 m8 hst8 hle8 hk8 => ?_
  have hfr8 := hk8.fr (.o 7 <| .o 6 <| .o 2 <| .o 3 <| .o 4 <| .o 5 <| .n 34 <| .nil)
  clear hst7 hfr7 hk8
  refine hK20 _ _ ?_
  refine zJ hfr8 rfl rfl (fun hb34 => ?_) (fun hb34 => ?_)
  ·try simp only [nqs] at hb34
   refine zR ?_
   refine hK19 _ _ ?_
   refine zE fun _ hK21 => ?_
   refine zT ?_
   have hyl : y < a.rs.length := by rw [← List.length_map (f := Prod.fst)]; omega
   obtain ⟨p9, hp9⟩ : ∃ p, a.rs[y]? = some p := ⟨_, List.getElem?_eq_getElem hyl⟩
   have hyl2 : y < (a.rs.map Prod.snd).length := by rw [List.length_map]; exact hyl
   have zq3 := zq2.trans hle8
   replace hqc_a := hqc_a.mono zq3
   obtain ⟨p22, vs22, x22, ho22, hd22, hm_x22, ht22, hcv22, hl22, hv22⟩ := hqc_a.nth (k := y) (by omega)
   cases ho22
   subst hv22
   replace hqd_a := hqd_a.mono zq3
   obtain ⟨p23, vs23, x23, ho23, hd23, hm_x23, ht23, hcv23, hl23, hv23⟩ := hqd_a.nth (k := y) (by omega)
   cases ho23
   obtain ⟨o23, c23, rfl, hs23, hr23⟩ := hv23.open_
   have hbs23 := hs23.big; have hcs23 := hs23.cap
   have e9 := zCj hp9 hd22
   have e8 := zCj hp9 hd23
   have hwx := hra p9 (List.mem_of_getElem? hp9)
   rw [← e8] at hwx
   replace h_b := h_b.mono zq3
   replace hc3 := hc3.mono zq3
   replace hc2 := hc2.mono hle8
   replace hO := hO.mono hle8
   refine zn (tch := [(14, 1, (fun _ => .blkx _ _ _))]) (fun _ => mixed) hst8 hfr8 (by kernel_rfl) (by kernel_rfl) (by kernel_rfl) (.cons rfl (zh (j := 1) rfl rfl isAgg36 sizeOf36 rfl) <| .cons rfl (zF (off := 2) rfl underlying36 rfl rfl sizeOf32 rfl) <| .cons rfl (zK rfl hc2 isAgg32 rfl) <| .cons rfl (zG rfl) <| .cons rfl (zN (k := y) rfl rfl underlying32 sizeOf3 rfl (by omega)) <| .cons rfl (zr rfl hcv22 isAgg3 rfl) <| .cons rfl (zS rfl hc3 isAgg36 sizeOf36 rfl rfl) <| .cons rfl (zF (off := 3) rfl underlying36 rfl rfl sizeOf34 rfl) <| .cons rfl (zK rfl hc2 isAgg34 rfl) <| .cons rfl (zG rfl) <| .cons rfl (zN (k := y) rfl rfl underlying34 sizeOf43 rfl (by omega)) <| .cons rfl (zS rfl hcv23 isAgg43 sizeOf43 rfl rfl) <| .cons rfl (zZ (φ := MP.rw (zQ b x23)) rfl (.cons rfl <| .cons rfl <| .nil) call22 (fun w m hK => by have hle_ := KC.le hK; have hA := KC.agree hK; have h_b := h_b.mono hle_; have hv23 := hv23.mono hle_; exact FnG.mono (zCR (r := x23) hA h_b hv23 hwb (by omega)) fun _ _ _ _ h => h)) <| .cons rfl (ZI 49 rfl rfl rfl fun y49 => zZ (φ := MP.rsub ⟨o.ts, zAY x22 (zQ b x23) o.rs⟩) rfl (.cons rfl <| .cons rfl <| .cons rfl <| .nil) call86 (fun w m hK => by have hle_ := KC.le hK; have hA := KC.agree hK; have hr0_ := hK.2; have hO := hO.mono hle_; exact FnG.mono (rsetRow_c (s := o) (n := x22) (x := zQ b x23) hA hO hr0_ (by omega)) fun _ _ _ _ h => h)) <| .consT rfl rfl (fun _ => rfl) rfl (ZL 50 rfl rfl rfl fun y50 => zm rfl rfl rfl sizeOf36 rfl rfl rfl) <| .nil) fun a9 w9 m9 hst9 hle9 hk9 => ?_
   have hfr9 := hk9.fr (.o 7 <| .o 6 <| .o 2 <| .o 3 <| .o 4 <| .o 5 <| .nil)
   replace hst9 := hst9.fin (L' := [_, _]) (.cons rfl <| .nil)
   try simp only [List.take_succ_cons, List.take_zero, List.drop_succ_cons, List.drop_zero, List.cons_append, List.nil_append, List.append_nil, List.length_cons, List.length_nil, Nat.zero_add, Nat.reduceAdd] at hst9
   obtain ⟨z1, hR1, hst9⟩ := hst9.unx (k := 1) rfl (fun _ => rfl)
   clear hst8 hfr8 hk9
   refine hK21 _ _ ?_
   refine rp0 hst9 hfr9 (.cons rfl (zG rfl) <| .cons rfl (zy rfl rfl ⟨by omega, by omega⟩) <| .cons rfl (zH rfl) <| .nil) fun a10 w10 m10 hst10 hle10 hk10 => ?_
   have hfr10 := hk10.fr (.o 6 <| .o 2 <| .o 3 <| .o 4 <| .o 5 <| .n 7 <| .nil)
   clear hst9 hfr9 hk10
   replace hR1 := hR1.mono hle10
   have zq4 := hle9.trans hle10
   have zq5 := hle8.trans zq4
   have hlh10 := hlh7.trans zq5
   exact ⟨(y + 1, ⟨o.ts, zAY x22 (zQ b x23) o.rs⟩, z1), m10, by show (a.rs.map Prod.fst).length - (y + 1) < (a.rs.map Prod.fst).length - y; omega, ⟨hst10, hlh10, hfr10.sub (.c <| .c <| .c <| .c <| .c <| .c <| .nil), ⟨by show y + 1 ≤ (a.rs.map Prod.fst).length; omega, hR1, ⟨by rw [zFb hp9, ho9.1, e9, e8], by rw [zFb hp9]; have h7 := zCv p9.1 (zQ b p9.2) (zCX b (a.rs.take y)); omega⟩, ⟨hol.1, by show (zAY x22 (zQ b x23) o.rs).length ≤ 4000000; have h7 := zCv x22 (zQ b x23) o.rs; have h6 : o.rs = zCX b (a.rs.take y) := (by rw [ho9.1]); have h5 := ho9.2; rw [← h6] at h5; omega⟩⟩⟩⟩
  ·try simp only [nqs] at hb34
   have hlm : (a.rs.map Prod.fst).length = a.rs.length := List.length_map _
   have hge : y = a.rs.length := by omega
   rw [List.take_of_length_le (by omega)] at ho9
   refine z7 ?_
   refine hK16 _ _ ?_
   refine zE fun _ hK25 => ?_
   refine ra0 (tch := [(1, 0, (fun _ => .blk _ _))]) hst8 hfr8 (.cons rfl (zh (j := 1) rfl rfl isAgg36 sizeOf36 rfl) <| .consT rfl rfl (fun _ => rfl) rfl (zm rfl rfl rfl sizeOf36 rfl rfl rfl) <| .nil) fun a9 w9 m9 hst9 hle9 hk9 => ?_
   have hfr9 := hk9.fr (.o 7 <| .o 6 <| .o 4 <| .nil)
   replace hst9 := hst9.fin (L' := [_, _]) (.cons rfl <| .nil)
   try simp only [List.take_succ_cons, List.take_zero, List.drop_succ_cons, List.drop_zero, List.cons_append, List.nil_append, List.append_nil, List.length_cons, List.length_nil, Nat.zero_add, Nat.reduceAdd] at hst9
   clear hst8 hfr8 hk9
   refine hK25 _ _ ?_
   refine zU ?_
   repeat (with_reducible first | refine zL ?_ | refine zI ?_)
   have zq6 := hle8.trans hle9
   replace hO := hO.mono zq6
   exact zV hst9 hfr9 rfl (.cell rfl (ZO (ZJ (hst9.loc.at_ (k := 0) rfl)) isAgg36 sizeOf36) <| .nil) (⟨z, by have h7 : zAx a b = o := ho9.1.symm; rw [h7]; rfl, by have h7 : zAx a b = o := ho9.1.symm; rw [h7]; exact hO⟩)
end Go.Proofs.YtlidonjpgigocaaGreat
namespace Go.Proofs.YtlidonjpgigocaaGreat
set_option linter.all false
set_option maxRecDepth 4000
open Go.RowKit
theorem ZU {ls : List Str} {rv : Int} (h : ZW ls rv = true) : ZT ls = ls ∧ 0 ≤ rv := by
 unfold ZW at h
 simp only [Bool.and_eq_true, decide_eq_true_eq] at h
 exact ⟨sortS_id h.1.2, h.1.1⟩
theorem outU_fst (r : Int × USt) (U : USt) : (zDY r U).1 = r.1 := by
 unfold zDY; split
 ·rfl
 ·rename_i h; simp at h; exact h.symm
end Go.Proofs.YtlidonjpgigocaaGreat
