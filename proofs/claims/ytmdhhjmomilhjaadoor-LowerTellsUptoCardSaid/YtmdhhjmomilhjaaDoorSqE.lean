/-
  Texts that the law rests on: Low5, Low6, Low7, Low8. Conditions: those of each theorem.
-/
import Derived.Test.YtmdhhjmomilhjaaDoorSqD
namespace Go.Proofs.YtmdhhjmomilhjaaDoor
open Go.Proofs.Tryd
set_option linter.all false
set_option maxRecDepth 4000
open Go.RowKit
theorem kindsN_neg {t : Tm} (h : zAW t.kind < 0) : ze t = t.kids.length := by
 unfold zAW at h; unfold ze
 split at h
 ·omega
 ·rename_i h2; rw [if_neg h2]
theorem kindsN_pos {t : Tm} (h : ¬ zAW t.kind < 0) : zAW t.kind = ((ze t : Nat) : Int) := by
 unfold zAW at h ⊢; unfold ze
 split at h
 ·rename_i h2; rw [if_pos h2, if_pos h2]; rfl
 ·omega
theorem from_le {t : Tm} (h : headL t) : ze t ≤ t.kids.length := by
 obtain ⟨h1, h2, h3, h4, h5⟩ := h.lens
 unfold ze
 split
 ·rename_i hk; rcases hk with hk | hk
  ·have := h3 hk; omega
  ·have := h4 (.inl hk); omega
 ·omega
theorem out_named {k : Int} (h : (zAH k = 11 ∨ zAH k = 12) ∨ zAH k = 14) : k = 10 ∨ k = 11 ∨ k = 13 := by
 unfold zAH at h
 repeat' split at h
 all_goals omega
theorem zEE {k : Int} (h : (¬ zAH k = 11 ∧ ¬ zAH k = 12) ∧ ¬ zAH k = 14) : ¬ (k = 10 ∨ k = 11 ∨ k = 13) := fun h2 => by
 unfold zAH at h
 rcases h2 with rfl | rfl | rfl <;> simp at h
theorem zCO {t : Tm} {k : Nat} {u : Tm} (h : u ∈ (t.kids.take k).drop 0) : u ∈ t.kids := List.mem_of_mem_take (List.mem_of_mem_drop h)
theorem mem_cut2 {t : Tm} {k j : Nat} {u : Tm} (h : u ∈ (t.kids.take k).drop j) : u ∈ t.kids := List.mem_of_mem_take (List.mem_of_mem_drop h)
theorem zDR (g : Gen) : ∀ (l : List Tm) (n : Nat), (ZS g l n).length = l.length
 | [], _ => rfl
 | t :: ts, n => by rw [ZS, List.length_cons, zDR g ts]; rfl
theorem prompt_t {f : Nat} (ih : zBm f) {w : World} {m : Mem} {sel tl : Bool} {r n : Nat} {t : Tm} {vs : List Value} (hA : Agree w m) (hr : (Res.blk (.pointer (some ⟨r, 0, none⟩)) (.cells #[.bool sel, .bool tl, .int .i64 ((n : Nat) : Int)] 75)).holds w m) (h : TmR m t vs) (hT : Tab w) (hk14 : t.kind = 14) (hL : LwT t) (hf : zS t ≤ f + 1) (hbk : ZG t ≤ 1000000000) (hnb : n + zS t ≤ 1000000000) (hNT : zAF r) :
  Calls Tryd.prog 39 #[.pointer (some ⟨r, 0, none⟩), .agg vs.toArray] w fun e w' => ∃ v m', e = .returned v ∧ Touch (Res.blk (.pointer (some ⟨r, 0, none⟩)) (.cells #[.bool sel, .bool tl, .int .i64 ((n : Nat) : Int)] 75)) (Res.blk (.pointer (some ⟨r, 0, none⟩)) (.cells #[.bool sel, .bool tl, .int .i64 (((ZT sel tl (zO sel tl f) t n).2 : Nat) : Int)] 75)) w m w' m' ∧ (Kn.ex (MP.cd (ZT sel tl (zO sel tl f) t n).1)).holds m' v :=
 Calls.mono (prompt_g hA hr h hT ih hk14 hL hf hbk hnb hNT) fun e w' ⟨v, m', e1, hE, hl, hv⟩ => ⟨v, m', e1, zBQ hE hl, hv⟩
set_option maxHeartbeats 3200000 in
theorem code_s {w : World} {m : Mem} {sel tl : Bool} {r n : Nat} {t : Tm} {vs_t : List Value} {f : Nat} (hA : Agree w m) (hr : (Res.blk (.pointer (some ⟨r, 0, none⟩)) (.cells #[.bool sel, .bool tl, .int .i64 ((n : Nat) : Int)] 75)).holds w m) (h_t : TmR m t vs_t) (hT : Tab w) (ih : zBm f) (hL : LwT t) (hf : zS t ≤ f + 1) (hbk : ZG t ≤ 1000000000) (hnb : n + zS t ≤ 1000000000) (hNT : zAF r) : FnG Tryd.prog 31 #[.pointer (some ⟨r, 0, none⟩), .agg vs_t.toArray] [r] w m (fun w' m' v => Loc [r] w.heap.size [.blk (.pointer (some ⟨r, 0, none⟩)) (.cells #[.bool sel, .bool tl, .int .i64 (((ZT sel tl (zO sel tl f) t n).2 : Nat) : Int)] 75)] w' m' ∧ (MP.cd (ZT sel tl (zO sel tl f) t n).1).p m' v) := by
 obtain ⟨⟨oK_t, cK_t, oA_t, cA_t, oR_t, cR_t, t0_t, t1_t, t2_t, t3_t, t4_t, t5_t, u0_t, u1_t, u2_t, u3_t, u4_t, u5_t⟩, rfl, hon_t, hkk_t, haa_t, hrr_t⟩ := h_t.open_
 dsimp only at hkk_t haa_t hrr_t
 have hbg_t := hkk_t.big; have hcp_t := hkk_t.cap; have hbh_t := haa_t.big; have hcq_t := haa_t.cap
 refine za (vs := [_, _]) func31 rfl rfl rfl fun a0 hfr0 => ?_
 have hst0 := zX hA (zAY hr (by simp [Res.blocks, zt]))
 have hM : MLe m m := MLe.refl m
 have hNTs : ∀ q ∈ [r], zAF q := fun q hq => by rw [List.mem_singleton] at hq; rw [hq]; exact hNT
 have hce := z7 t
 have hbe := Zm t
 have hln := hL.here.lens
 refine zB fun _ hK1 => ?_
 replace hst0 := hst0.more (r := .free) trivial List.nodup_nil (by simp [Res.blocks])
 refine ra0 (tch := [(1, 1, (fun v => .blk v _))]) hst0 hfr0 (.cons rfl (zx rfl rfl) <| .consT rfl rfl (fun _ => rfl) rfl (zQ zeroValue46 rfl) <| .nil) fun a1 w1 m1 hst1 hle1 hk1 => ?_
 have hfr1 := hk1.fr (.o 0 <| .nil)
 obtain ⟨g2, e2, hc3⟩ := hk1.ex 3 rfl
 replace hfr1 := hfr1.cons e2
 obtain ⟨g3, e3, _⟩ := hk1.ex 4 rfl
 replace hfr1 := hfr1.cons e3
 replace hst1 := hst1.fin (L' := [_, _]) (.cons e3 <| .nil)
 replace h_t := h_t.mono hle1
 replace hkk_t := hkk_t.mono hle1
 replace haa_t := haa_t.mono hle1
 replace hrr_t := hrr_t.mono hle1
 replace hM := hM.trans hle1
 clear hst0 hfr0 hk1
 refine hK1 _ _ ?_
 refine zB fun _ hK4 => ?_
 refine zB fun _ hK5 => ?_
 refine rp0 hst1 hfr1 (.cons rfl (zA (off := 0) rfl underlying33 rfl rfl sizeOf3 rfl) <| .cons rfl (zE rfl hc3 isAgg3 rfl) <| .nil) fun a2 w2 m2 hst2 hle2 hk2 => ?_
 have hfr2 := hk2.fr (.o 0 <| .o 3 <| .o 4 <| .n 19 <| .nil)
 replace h_t := h_t.mono hle2
 replace hkk_t := hkk_t.mono hle2
 replace haa_t := haa_t.mono hle2
 replace hrr_t := hrr_t.mono hle2
 replace hc3 := hc3.mono hle2
 replace hM := hM.trans hle2
 clear hst1 hfr1 hk2
 refine hK5 _ _ ?_
 refine zL ?_
 refine zB fun _ hK6 => ?_
 refine rp0 hst2 hfr2 (.cons rfl (zY rfl rfl) <| .cons rfl (zC rfl) <| .nil) fun a3 w3 m3 hst3 hle3 hk3 => ?_
 have hfr3 := hk3.fr (.o 0 <| .o 3 <| .o 4 <| .o 19 <| .n 20 <| .nil)
 replace h_t := h_t.mono hle3
 replace hkk_t := hkk_t.mono hle3
 replace haa_t := haa_t.mono hle3
 replace hrr_t := hrr_t.mono hle3
 replace hc3 := hc3.mono hle3
 replace hM := hM.trans hle3
 clear hst2 hfr2 hk3
 refine hK6 _ _ ?_
 refine zF hfr3 rfl rfl (fun hb20 => ?_) (fun hb20 => ?_)
 ·try simp only [nqs] at hb20
  have hbd := body7 (sel := sel) (tl := tl) (g := (zO sel tl f)) (t := t) (n := n) hb20
  refine zB fun _ hK7 => ?_
  obtain ⟨p8, vs8, x8, ho8, hd8, hm_x8, ht8, hcv8, hl8, hv8⟩ := hkk_t.nth (k := 0) (by omega)
  cases ho8
  obtain ⟨⟨oK8, cK8, oA8, cA8, oR8, cR8, t08, t18, t28, t38, t48, t58, u08, u18, u28, u38, u48, u58⟩, rfl, hon8, hkk8, haa8, hrr8⟩ := hv8.open_
  dsimp only at hkk8 haa8 hrr8
  have hbg8 := hkk8.big; have hcp8 := hkk8.cap; have hbh8 := haa8.big; have hcq8 := haa8.cap
  have hk0 : kid t 0 = x8 := ZM hd8
  obtain ⟨p9, vs9, x9, ho9, hd9, hm_x9, ht9, hcv9, hl9, hv9⟩ := hkk_t.nth (k := 1) (by omega)
  cases ho9
  obtain ⟨⟨oK9, cK9, oA9, cA9, oR9, cR9, t09, t19, t29, t39, t49, t59, u09, u19, u29, u39, u49, u59⟩, rfl, hon9, hkk9, haa9, hrr9⟩ := hv9.open_
  dsimp only at hkk9 haa9 hrr9
  have hbg9 := hkk9.big; have hcp9 := hkk9.cap; have hbh9 := haa9.big; have hcq9 := haa9.cap
  have hk1 : kid t 1 = x9 := ZM hd9
  have hba := ZO hm_x8; have hbb := ZO hm_x9
  have hca := z6 hm_x8; have hcb := z6 hm_x9
  have hc2 : zS x8 + zS x9 = zR t.kids := by rw [← List.drop_zero (l := t.kids), hd8, zR]; rw [hd9, zR, List.drop_of_length_le (by omega), zR]; omega
  have hga := zAJ sel tl f x8 n (hL.kid hm_x8) (by omega)
  replace hst3 := hst3.more (r := .free) trivial List.nodup_nil (by simp [Res.blocks])
  replace hst3 := hst3.more (r := .free) trivial List.nodup_nil (by simp [Res.blocks])
  refine ZD (tch := [(5, 0, (fun _ => .blk (.pointer (some ⟨r, 0, none⟩)) (.cells #[.bool sel, .bool tl, .int .i64 ((((zO sel tl f) x8 (n)).2 : Nat) : Int)] 75))), (11, 0, (fun _ => .blk (.pointer (some ⟨r, 0, none⟩)) (.cells #[.bool sel, .bool tl, .int .i64 ((((zO sel tl f) x9 (((zO sel tl f) x8 n).2)).2 : Nat) : Int)] 75))), (12, 2, (fun v => .blk v _)), (13, 3, (fun v => .blk v _)), (14, 2, (fun v => .blkx v _ _)), (15, 3, (fun v => .blkx v _ _))]) (fun _ => mixed) hst3 hfr3 (by kernel_rfl) (by kernel_rfl) (by kernel_rfl) (.cons rfl (zD rfl) <| .cons rfl (zA (off := 5) rfl underlying33 rfl rfl sizeOf24 rfl) <| .cons rfl (zE rfl hc3 isAgg24 rfl) <| .cons rfl (zH (k := 0) rfl rfl underlying24 sizeOf33 rfl (by omega)) <| .cons rfl (zN rfl hcv8 isAgg33 sizeOf33 rfl rfl) <| .consT rfl rfl (fun _ => rfl) rfl (ZF rfl (.cons rfl <| .cons rfl <| .nil) call31 (κ := .ex (MP.cd ((zO sel tl f) x8 (n)).1)) (fun σ w m hK hr hkn => by have hle_ := KC.le hK; have hA := KC.agree hK; have hM := hM.trans hle_; have h_t := h_t.mono hle_; have hkk_t := hkk_t.mono hle_; have haa_t := haa_t.mono hle_; have hrr_t := hrr_t.mono hle_; have hc3 := hc3.mono hle_; have hcv8 := hcv8.mono hle_; have hv8 := hv8.mono hle_; have hkk8 := hkk8.mono hle_; have haa8 := haa8.mono hle_; have hrr8 := hrr8.mono hle_; have hcv9 := hcv9.mono hle_; have hv9 := hv9.mono hle_; have hkk9 := hkk9.mono hle_; have haa9 := haa9.mono hle_; have hrr9 := hrr9.mono hle_; have hT := ZY hT hK.st.ext hNTs; exact zBB ih hA hr hv8 hT (hL.kid hm_x8) (by omega) (by omega) (by omega) hNT)) <| .cons rfl (zD rfl) <| .cons rfl (zA (off := 5) rfl underlying33 rfl rfl sizeOf24 rfl) <| .cons rfl (zE rfl hc3 isAgg24 rfl) <| .cons rfl (zH (k := 1) rfl rfl underlying24 sizeOf33 rfl (by omega)) <| .cons rfl (zN rfl hcv9 isAgg33 sizeOf33 rfl rfl) <| .consT rfl rfl (fun _ => rfl) rfl (ZF rfl (.cons rfl <| .cons rfl <| .nil) call31 (κ := .ex (MP.cd ((zO sel tl f) x9 (((zO sel tl f) x8 n).2)).1)) (fun σ w m hK hr hkn => by have hle_ := KC.le hK; have hA := KC.agree hK; have hM := hM.trans hle_; have h_t := h_t.mono hle_; have hkk_t := hkk_t.mono hle_; have haa_t := haa_t.mono hle_; have hrr_t := hrr_t.mono hle_; have hc3 := hc3.mono hle_; have hcv8 := hcv8.mono hle_; have hv8 := hv8.mono hle_; have hkk8 := hkk8.mono hle_; have haa8 := haa8.mono hle_; have hrr8 := hrr8.mono hle_; have hcv9 := hcv9.mono hle_; have hv9 := hv9.mono hle_; have hkk9 := hkk9.mono hle_; have haa9 := haa9.mono hle_; have hrr9 := hrr9.mono hle_; have hT := ZY hT hK.st.ext hNTs; exact zBB ih hA hr hv9 hT (hL.kid hm_x9) (by omega) (by omega) (by omega) hNT)) <| .consT rfl rfl (fun _ => rfl) rfl (zQ zeroValue46 rfl) <| .consT rfl rfl (fun _ => rfl) rfl (zQ zeroValue46 rfl) <| .consT rfl rfl (fun _ => rfl) rfl (zT 5 rfl rfl rfl fun y5 => ZH 27 rfl rfl rfl fun y27 => ZU rfl rfl rfl rfl rfl sizeOf46 rfl rfl (fun w m hK => hK.2.one)) <| .consT rfl rfl (fun _ => rfl) rfl (zT 6 rfl rfl rfl fun y6 => ZH 33 rfl rfl rfl fun y33 => ZU rfl rfl rfl rfl rfl sizeOf46 rfl rfl (fun w m hK => hK.2.one)) <| .nil) fun a4 w4 m4 hst4 hle4 hk4 => ?_
  have hfr4 := hk4.fr (.o 0 <| .o 3 <| .o 4 <| .nil)
  obtain ⟨y10, e10, hy10⟩ := hk4.ex 27 rfl
  obtain ⟨y11, e11, hy11⟩ := hk4.ex 33 rfl
  obtain ⟨g12, e12, _⟩ := hk4.ex 5 rfl
  replace hfr4 := hfr4.cons e12
  obtain ⟨g13, e13, _⟩ := hk4.ex 6 rfl
  replace hfr4 := hfr4.cons e13
  replace hst4 := hst4.fin (L' := [_, _, _, _]) (.cons e10 <| .cons e11 <| .cons e12 <| .cons e13 <| .cons e12 <| .cons e13 <| .nil)
  try simp only [List.take_succ_cons, List.take_zero, List.drop_succ_cons, List.drop_zero, List.cons_append, List.nil_append, List.append_nil, List.length_cons, List.length_nil, Nat.zero_add, Nat.reduceAdd] at hst4
  obtain ⟨ya9, hya9, hst4⟩ := hst4.unx (k := 2) rfl (fun _ => rfl)
  obtain ⟨yb9, hyb9, hst4⟩ := hst4.unx (k := 3) rfl (fun _ => rfl)
  clear hst3 hfr3 hk4
  refine hK7 _ _ ?_
  refine zB fun _ hK16 => ?_
  replace h_t := h_t.mono hle4
  replace hkk_t := hkk_t.mono hle4
  replace haa_t := haa_t.mono hle4
  replace hrr_t := hrr_t.mono hle4
  replace hc3 := hc3.mono hle4
  replace hcv8 := hcv8.mono hle4
  replace hv8 := hv8.mono hle4
  replace hkk8 := hkk8.mono hle4
  replace haa8 := haa8.mono hle4
  replace hrr8 := hrr8.mono hle4
  replace hcv9 := hcv9.mono hle4
  replace hv9 := hv9.mono hle4
  replace hkk9 := hkk9.mono hle4
  replace haa9 := haa9.mono hle4
  replace hrr9 := hrr9.mono hle4
  replace hM := hM.trans hle4
  refine ZD (tch := [(5, 0, (fun _ => .blk (.pointer (some ⟨r, 0, none⟩)) (.cells #[.bool sel, .bool tl, .int .i64 ((((zO sel tl f) x9 ((zO sel tl f) x8 n).2).2 : Nat) : Int)] 75))), (12, 1, (fun _ => .blkx _ _ _))]) (fun _ => mixed) hst4 hfr4 (by kernel_rfl) (by kernel_rfl) (by kernel_rfl) (.cons rfl (zD rfl) <| .cons rfl (zA (off := 5) rfl underlying33 rfl rfl sizeOf24 rfl) <| .cons rfl (zE rfl hc3 isAgg24 rfl) <| .cons rfl (zH (k := 0) rfl rfl underlying24 sizeOf33 rfl (by omega)) <| .cons rfl (zN rfl hcv8 isAgg33 sizeOf33 rfl rfl) <| .consT rfl rfl (fun _ => rfl) rfl (ZF rfl (.cons rfl <| .cons rfl <| .nil) call38 (κ := .eq (.int .i64 (zAB sel x8))) (fun σ w m hK hr hkn => by have hle_ := KC.le hK; have hA := KC.agree hK; have hM := hM.trans hle_; have h_t := h_t.mono hle_; have hkk_t := hkk_t.mono hle_; have haa_t := haa_t.mono hle_; have hrr_t := hrr_t.mono hle_; have hc3 := hc3.mono hle_; have hcv8 := hcv8.mono hle_; have hv8 := hv8.mono hle_; have hkk8 := hkk8.mono hle_; have haa8 := haa8.mono hle_; have hrr8 := hrr8.mono hle_; have hcv9 := hcv9.mono hle_; have hv9 := hv9.mono hle_; have hkk9 := hkk9.mono hle_; have haa9 := haa9.mono hle_; have hrr9 := hrr9.mono hle_; have hya9 := hya9.mono hle_; have hyb9 := hyb9.mono hle_; have hT := ZY hT hK.st.ext hNTs; exact binds_t hA hr hv8 (by omega))) <| .cons rfl (zA (off := 2) rfl underlying33 rfl rfl sizeOf9 rfl) <| .cons rfl (zE rfl hc3 isAgg9 rfl) <| .cons rfl (zV (j := 2) rfl rfl isAgg46 sizeOf46 rfl) <| .cons rfl (zV (j := 3) rfl rfl isAgg46 sizeOf46 rfl) <| .cons rfl (Zr rfl rfl underlying43 sizeOf46 zeroValue46 rfl rfl rfl rfl rfl) <| .cons rfl (zv 44 rfl rfl rfl fun y44 => zm (.cons rfl <| .cons rfl <| .cons rfl <| .nil) underlying46 zeroValue46 (.cons sizeOf3 <| .cons sizeOf9 <| .cons sizeOf9 <| .cons sizeOf3 <| .cons sizeOf43 <| .cons sizeOf44 <| .nil) rfl) <| .consT rfl rfl (fun _ => rfl) rfl (ZH 45 rfl rfl rfl fun y45 => zZ rfl rfl rfl sizeOf46 rfl rfl rfl) <| .nil) fun a5 w5 m5 hst5 hle5 hk5 => ?_
  have hfr5 := hk5.fr (.o 4 <| .nil)
  replace hst5 := hst5.fin (L' := [_, _, _, _]) (.cons rfl <| .cons rfl <| .nil)
  try simp only [List.take_succ_cons, List.take_zero, List.drop_succ_cons, List.drop_zero, List.cons_append, List.nil_append, List.append_nil, List.length_cons, List.length_nil, Nat.zero_add, Nat.reduceAdd] at hst5
  obtain ⟨g44, h44, hst5⟩ := hst5.unx (k := 1) rfl (fun _ => rfl)
  clear hst4 hfr4 hk5
  refine hK16 _ _ ?_
  refine zK ?_
  repeat (with_reducible first | refine zI ?_ | refine zG ?_)
  replace hya9 := hya9.mono hle5
  replace hyb9 := hyb9.mono hle5
  exact zM hst5 hfr5 rfl (.cell rfl (zj (zh (hst5.loc.at_ (k := 1) rfl)) isAgg46 sizeOf46) <| .nil) (⟨by rw [hbd, hk0, hk1]; exact (hst5.take 1).loc, ⟨_, _, none, 0⟩, by rw [hbd, hk0, hk1]; rfl, by rw [hbd, hk0, hk1]; exact cd2_R (by exact h44) hya9 hyb9⟩)
 ·try simp only [nqs] at hb20
  refine zB fun _ hK19 => ?_
  refine rp0 hst3 hfr3 (.cons rfl (zY rfl rfl) <| .cons rfl (zC rfl) <| .nil) fun a4 w4 m4 hst4 hle4 hk4 => ?_
  have hfr4 := hk4.fr (.o 0 <| .o 3 <| .o 4 <| .o 19 <| .n 46 <| .nil)
  clear hst3 hfr3 hk4
  refine hK19 _ _ ?_
  refine zF hfr4 rfl rfl (fun hb46 => ?_) (fun hb46 => ?_)
  ·try simp only [nqs] at hb46
   have hbd := body8 (sel := sel) (tl := tl) (g := (zO sel tl f)) (t := t) (n := n) hb46
   refine zB fun _ hK20 => ?_
   replace hkk_t := hkk_t.mono hle4
   obtain ⟨p21, vs21, x21, ho21, hd21, hm_x21, ht21, hcv21, hl21, hv21⟩ := hkk_t.nth (k := 0) (by omega)
   cases ho21
   obtain ⟨⟨oK21, cK21, oA21, cA21, oR21, cR21, t021, t121, t221, t321, t421, t521, u021, u121, u221, u321, u421, u521⟩, rfl, hon21, hkk21, haa21, hrr21⟩ := hv21.open_
   dsimp only at hkk21 haa21 hrr21
   have hbg21 := hkk21.big; have hcp21 := hkk21.cap; have hbh21 := haa21.big; have hcq21 := haa21.cap
   have hk0 : kid t 0 = x21 := ZM hd21
   obtain ⟨p22, vs22, x22, ho22, hd22, hm_x22, ht22, hcv22, hl22, hv22⟩ := hkk_t.nth (k := 1) (by omega)
   cases ho22
   obtain ⟨⟨oK22, cK22, oA22, cA22, oR22, cR22, t022, t122, t222, t322, t422, t522, u022, u122, u222, u322, u422, u522⟩, rfl, hon22, hkk22, haa22, hrr22⟩ := hv22.open_
   dsimp only at hkk22 haa22 hrr22
   have hbg22 := hkk22.big; have hcp22 := hkk22.cap; have hbh22 := haa22.big; have hcq22 := haa22.cap
   have hk1 : kid t 1 = x22 := ZM hd22
   have hba := ZO hm_x21; have hbb := ZO hm_x22
   have hca := z6 hm_x21; have hcb := z6 hm_x22
   have hc2 : zS x21 + zS x22 = zR t.kids := by rw [← List.drop_zero (l := t.kids), hd21, zR]; rw [hd22, zR, List.drop_of_length_le (by omega), zR]; omega
   have hga := zAJ sel tl f x21 n (hL.kid hm_x21) (by omega)
   replace hst4 := hst4.more (r := .free) trivial List.nodup_nil (by simp [Res.blocks])
   replace hst4 := hst4.more (r := .free) trivial List.nodup_nil (by simp [Res.blocks])
   replace h_t := h_t.mono hle4
   replace haa_t := haa_t.mono hle4
   replace hrr_t := hrr_t.mono hle4
   replace hc3 := hc3.mono hle4
   replace hM := hM.trans hle4
   refine ZD (tch := [(5, 0, (fun _ => .blk (.pointer (some ⟨r, 0, none⟩)) (.cells #[.bool sel, .bool tl, .int .i64 ((((zO sel tl f) x21 (n)).2 : Nat) : Int)] 75))), (11, 0, (fun _ => .blk (.pointer (some ⟨r, 0, none⟩)) (.cells #[.bool sel, .bool tl, .int .i64 ((((zO sel tl f) x22 (((zO sel tl f) x21 n).2)).2 : Nat) : Int)] 75))), (12, 2, (fun v => .blk v _)), (13, 3, (fun v => .blk v _)), (14, 2, (fun v => .blkx v _ _)), (15, 3, (fun v => .blkx v _ _))]) (fun _ => mixed) hst4 hfr4 (by kernel_rfl) (by kernel_rfl) (by kernel_rfl) (.cons rfl (zD rfl) <| .cons rfl (zA (off := 5) rfl underlying33 rfl rfl sizeOf24 rfl) <| .cons rfl (zE rfl hc3 isAgg24 rfl) <| .cons rfl (zH (k := 0) rfl rfl underlying24 sizeOf33 rfl (by omega)) <| .cons rfl (zN rfl hcv21 isAgg33 sizeOf33 rfl rfl) <| .consT rfl rfl (fun _ => rfl) rfl (ZF rfl (.cons rfl <| .cons rfl <| .nil) call31 (κ := .ex (MP.cd ((zO sel tl f) x21 (n)).1)) (fun σ w m hK hr hkn => by have hle_ := KC.le hK; have hA := KC.agree hK; have hM := hM.trans hle_; have h_t := h_t.mono hle_; have hkk_t := hkk_t.mono hle_; have haa_t := haa_t.mono hle_; have hrr_t := hrr_t.mono hle_; have hc3 := hc3.mono hle_; have hcv21 := hcv21.mono hle_; have hv21 := hv21.mono hle_; have hkk21 := hkk21.mono hle_; have haa21 := haa21.mono hle_; have hrr21 := hrr21.mono hle_; have hcv22 := hcv22.mono hle_; have hv22 := hv22.mono hle_; have hkk22 := hkk22.mono hle_; have haa22 := haa22.mono hle_; have hrr22 := hrr22.mono hle_; have hT := ZY hT hK.st.ext hNTs; exact zBB ih hA hr hv21 hT (hL.kid hm_x21) (by omega) (by omega) (by omega) hNT)) <| .cons rfl (zD rfl) <| .cons rfl (zA (off := 5) rfl underlying33 rfl rfl sizeOf24 rfl) <| .cons rfl (zE rfl hc3 isAgg24 rfl) <| .cons rfl (zH (k := 1) rfl rfl underlying24 sizeOf33 rfl (by omega)) <| .cons rfl (zN rfl hcv22 isAgg33 sizeOf33 rfl rfl) <| .consT rfl rfl (fun _ => rfl) rfl (ZF rfl (.cons rfl <| .cons rfl <| .nil) call31 (κ := .ex (MP.cd ((zO sel tl f) x22 (((zO sel tl f) x21 n).2)).1)) (fun σ w m hK hr hkn => by have hle_ := KC.le hK; have hA := KC.agree hK; have hM := hM.trans hle_; have h_t := h_t.mono hle_; have hkk_t := hkk_t.mono hle_; have haa_t := haa_t.mono hle_; have hrr_t := hrr_t.mono hle_; have hc3 := hc3.mono hle_; have hcv21 := hcv21.mono hle_; have hv21 := hv21.mono hle_; have hkk21 := hkk21.mono hle_; have haa21 := haa21.mono hle_; have hrr21 := hrr21.mono hle_; have hcv22 := hcv22.mono hle_; have hv22 := hv22.mono hle_; have hkk22 := hkk22.mono hle_; have haa22 := haa22.mono hle_; have hrr22 := hrr22.mono hle_; have hT := ZY hT hK.st.ext hNTs; exact zBB ih hA hr hv22 hT (hL.kid hm_x22) (by omega) (by omega) (by omega) hNT)) <| .consT rfl rfl (fun _ => rfl) rfl (zQ zeroValue46 rfl) <| .consT rfl rfl (fun _ => rfl) rfl (zQ zeroValue46 rfl) <| .consT rfl rfl (fun _ => rfl) rfl (zT 7 rfl rfl rfl fun y7 => ZH 53 rfl rfl rfl fun y53 => ZU rfl rfl rfl rfl rfl sizeOf46 rfl rfl (fun w m hK => hK.2.one)) <| .consT rfl rfl (fun _ => rfl) rfl (zT 8 rfl rfl rfl fun y8 => ZH 59 rfl rfl rfl fun y59 => ZU rfl rfl rfl rfl rfl sizeOf46 rfl rfl (fun w m hK => hK.2.one)) <| .nil) fun a5 w5 m5 hst5 hle5 hk5 => ?_
   have hfr5 := hk5.fr (.o 3 <| .o 4 <| .nil)
   obtain ⟨y23, e23, hy23⟩ := hk5.ex 53 rfl
   obtain ⟨y24, e24, hy24⟩ := hk5.ex 59 rfl
   obtain ⟨g25, e25, _⟩ := hk5.ex 7 rfl
   replace hfr5 := hfr5.cons e25
   obtain ⟨g26, e26, _⟩ := hk5.ex 8 rfl
   replace hfr5 := hfr5.cons e26
   replace hst5 := hst5.fin (L' := [_, _, _, _]) (.cons e23 <| .cons e24 <| .cons e25 <| .cons e26 <| .cons e25 <| .cons e26 <| .nil)
   try simp only [List.take_succ_cons, List.take_zero, List.drop_succ_cons, List.drop_zero, List.cons_append, List.nil_append, List.append_nil, List.length_cons, List.length_nil, Nat.zero_add, Nat.reduceAdd] at hst5
   obtain ⟨ya9, hya9, hst5⟩ := hst5.unx (k := 2) rfl (fun _ => rfl)
   obtain ⟨yb9, hyb9, hst5⟩ := hst5.unx (k := 3) rfl (fun _ => rfl)
   clear hst4 hfr4 hk5
   refine hK20 _ _ ?_
   refine zB fun _ hK29 => ?_
   refine zq 7 (by kernel_rfl) ?_
   replace hc3 := hc3.mono hle5
   refine zf (tch := []) hst5 hfr5 (by kernel_rfl) (by kernel_rfl) (by kernel_rfl) (.cons rfl (zA (off := 2) rfl underlying33 rfl rfl sizeOf9 rfl) <| .cons rfl (zE rfl hc3 isAgg9 rfl) <| .cons rfl (zA (off := 3) rfl underlying33 rfl rfl sizeOf9 rfl) <| .cons rfl (zE rfl hc3 isAgg9 rfl) <| .cons rfl (zV (j := 2) rfl rfl isAgg46 sizeOf46 rfl) <| .cons rfl (zV (j := 3) rfl rfl isAgg46 sizeOf46 rfl) <| .cons rfl (Zr rfl rfl underlying43 sizeOf46 zeroValue46 rfl rfl rfl rfl rfl) <| .nil) fun a6 w6 m6 hst6 hle6 hk6 => ?_
   have hfr6 := hk6.fr (.o 3 <| .o 4 <| .o 7 <| .o 8 <| .n 61 <| .n 63 <| .nil)
   obtain ⟨g66, e30, h66⟩ := hk6.ex 66 rfl
   replace hfr6 := hfr6.cons e30
   clear hst5 hfr5 hk6
   refine zf (tch := [(1, 1, (fun _ => .blk _ _))]) hst6 hfr6 (by kernel_rfl) (by kernel_rfl) (by kernel_rfl) (.cons rfl (zm (.cons rfl <| .cons rfl <| .cons rfl <| .cons rfl <| .nil) underlying46 zeroValue46 (.cons sizeOf3 <| .cons sizeOf9 <| .cons sizeOf9 <| .cons sizeOf3 <| .cons sizeOf43 <| .cons sizeOf44 <| .nil) rfl) <| .consT rfl rfl (fun _ => rfl) rfl (zZ rfl rfl rfl sizeOf46 rfl rfl rfl) <| .nil) fun a7 w7 m7 hst7 hle7 hk7 => ?_
   have hfr7 := hk7.fr (.o 3 <| .o 4 <| .o 7 <| .o 8 <| .o 61 <| .o 63 <| .o 66 <| .nil)
   replace hst7 := hst7.fin (L' := [_, _, _, _]) (.cons rfl <| .nil)
   try simp only [List.take_succ_cons, List.take_zero, List.drop_succ_cons, List.drop_zero, List.cons_append, List.nil_append, List.append_nil, List.length_cons, List.length_nil, Nat.zero_add, Nat.reduceAdd] at hst7
   clear hst6 hfr6 hk7
   refine hK29 _ _ ?_
   refine zK ?_
   repeat (with_reducible first | refine zI ?_ | refine zG ?_)
   have zq1 := hle6.trans hle7
   replace hya9 := hya9.mono zq1
   replace hyb9 := hyb9.mono zq1
   replace h66 := h66.mono hle7
   exact zM hst7 hfr7 rfl (.cell rfl (zj (zh (hst7.loc.at_ (k := 1) rfl)) isAgg46 sizeOf46) <| .nil) (⟨by rw [hbd, hk0, hk1]; exact (hst7.take 1).loc, ⟨_, _, none, 0⟩, by rw [hbd, hk0, hk1]; rfl, by rw [hbd, hk0, hk1]; exact cd2_R h66 hya9 hyb9⟩)
  ·try simp only [nqs] at hb46
   refine zB fun _ hK32 => ?_
   refine rp0 hst4 hfr4 (.cons rfl (zY rfl rfl) <| .cons rfl (zC rfl) <| .nil) fun a5 w5 m5 hst5 hle5 hk5 => ?_
   have hfr5 := hk5.fr (.o 0 <| .o 3 <| .o 4 <| .n 68 <| .nil)
   clear hst4 hfr4 hk5
   refine hK32 _ _ ?_
   refine zF hfr5 rfl rfl (fun hb68 => ?_) (fun hb68 => ?_)
   ·try simp only [nqs] at hb68
    refine zB fun _ hK33 => ?_
    refine zq 3 (by kernel_rfl) ?_
    have zq2 := hle4.trans hle5
    replace h_t := h_t.mono zq2
    replace hkk_t := hkk_t.mono zq2
    replace haa_t := haa_t.mono zq2
    replace hrr_t := hrr_t.mono zq2
    replace hc3 := hc3.mono zq2
    replace hM := hM.trans zq2
    refine zf (tch := [(2, 0, (fun _ => .blk (.pointer (some ⟨r, 0, none⟩)) (.cells #[.bool sel, .bool tl, .int .i64 (((ZT sel tl (zO sel tl f) t n).2 : Nat) : Int)] 75)))]) hst5 hfr5 (by kernel_rfl) (by kernel_rfl) (by kernel_rfl) (.cons rfl (zD rfl) <| .cons rfl (zN rfl hc3 isAgg33 sizeOf33 rfl rfl) <| .consT rfl rfl (fun _ => rfl) rfl (ZF rfl (.cons rfl <| .cons rfl <| .nil) call39 (κ := .ex (MP.cd (ZT sel tl (zO sel tl f) t n).1)) (fun σ w m hK hr hkn => by have hle_ := KC.le hK; have hA := KC.agree hK; have hM := hM.trans hle_; have h_t := h_t.mono hle_; have hkk_t := hkk_t.mono hle_; have haa_t := haa_t.mono hle_; have hrr_t := hrr_t.mono hle_; have hc3 := hc3.mono hle_; have hT := ZY hT hK.st.ext hNTs; exact prompt_t ih hA hr h_t hT hb68 hL hf hbk hnb hNT)) <| .nil) fun a6 w6 m6 hst6 hle6 hk6 => ?_
    have hfr6 := hk6.fr (.o 0 <| .o 3 <| .o 4 <| .nil)
    obtain ⟨yp, e34, hyp⟩ := hk6.ex 72 rfl
    replace hfr6 := hfr6.cons e34
    replace hst6 := hst6.fin (L' := [_, _]) (.cons e34 <| .nil)
    clear hst5 hfr5 hk6
    refine zf (tch := [(0, 1, (fun _ => .blk _ _))]) hst6 hfr6 (by kernel_rfl) (by kernel_rfl) (by kernel_rfl) (.consT rfl rfl (fun _ => rfl) rfl (zZ rfl rfl rfl sizeOf46 rfl rfl rfl) <| .nil) fun a7 w7 m7 hst7 hle7 hk7 => ?_
    have hfr7 := hk7.fr (.o 0 <| .o 3 <| .o 4 <| .o 72 <| .nil)
    replace hst7 := hst7.fin (L' := [_, _]) (.cons rfl <| .nil)
    try simp only [List.take_succ_cons, List.take_zero, List.drop_succ_cons, List.drop_zero, List.cons_append, List.nil_append, List.append_nil, List.length_cons, List.length_nil, Nat.zero_add, Nat.reduceAdd] at hst7
    clear hst6 hfr6 hk7
    refine hK33 _ _ ?_
    refine zK ?_
    repeat (with_reducible first | refine zI ?_ | refine zG ?_)
    replace hyp := hyp.mono hle7
    exact zM hst7 hfr7 rfl (.cell rfl (zj (zh (hst7.loc.at_ (k := 1) rfl)) isAgg46 sizeOf46) <| .nil) (⟨(hst7.take 1).loc, yp, rfl, hyp⟩)
   ·try simp only [nqs] at hb68
    refine zJ ?_
    refine hK4 _ _ ?_
    refine zB fun _ hK36 => ?_
    refine zB fun _ hK37 => ?_
    have zq3 := hle4.trans hle5
    replace h_t := h_t.mono zq3
    replace hc3 := hc3.mono zq3
    refine rp0 hst5 hfr5 (.cons rfl (zN rfl hc3 isAgg33 sizeOf33 rfl rfl) <| .cons rfl (zd rfl (.cons rfl <| .nil) call40 (fun w m hK => by have hle_ := KC.le hK; have hA := KC.agree hK; have h_t := h_t.mono hle_; exact light_c (t := t) hA h_t)) <| .nil) fun a6 w6 m6 hst6 hle6 hk6 => ?_
    have hfr6 := hk6.fr (.o 0 <| .o 3 <| .o 4 <| .n 74 <| .nil)
    clear hst5 hfr5 hk6
    refine hK37 _ _ ?_
    refine zF hfr6 rfl rfl (fun hb74 => ?_) (fun hb74 => ?_)
    ·try simp only [nqs] at hb74
     refine zB fun _ hK38 => ?_
     refine zq 3 (by kernel_rfl) ?_
     have zq4 := zq3.trans hle6
     replace hkk_t := hkk_t.mono zq4
     replace haa_t := haa_t.mono zq4
     replace hrr_t := hrr_t.mono zq4
     replace hM := hM.trans zq4
     replace h_t := h_t.mono hle6
     replace hc3 := hc3.mono hle6
     refine zf (tch := [(2, 0, (fun _ => .blk (.pointer (some ⟨r, 0, none⟩)) (.cells #[.bool sel, .bool tl, .int .i64 (((ZT sel tl (zO sel tl f) t n).2 : Nat) : Int)] 75)))]) hst6 hfr6 (by kernel_rfl) (by kernel_rfl) (by kernel_rfl) (.cons rfl (zD rfl) <| .cons rfl (zN rfl hc3 isAgg33 sizeOf33 rfl rfl) <| .consT rfl rfl (fun _ => rfl) rfl (ZF rfl (.cons rfl <| .cons rfl <| .nil) call41 (κ := .ex (MP.cd (ZT sel tl (zO sel tl f) t n).1)) (fun σ w m hK hr hkn => by have hle_ := KC.le hK; have hA := KC.agree hK; have hM := hM.trans hle_; have h_t := h_t.mono hle_; have hkk_t := hkk_t.mono hle_; have haa_t := haa_t.mono hle_; have hrr_t := hrr_t.mono hle_; have hc3 := hc3.mono hle_; have hT := ZY hT hK.st.ext hNTs; exact atom_t ih hA hr h_t hT hb74 hL hf hbk hnb hNT)) <| .nil) fun a7 w7 m7 hst7 hle7 hk7 => ?_
     have hfr7 := hk7.fr (.o 0 <| .o 3 <| .o 4 <| .nil)
     obtain ⟨yp, e39, hyp⟩ := hk7.ex 77 rfl
     replace hfr7 := hfr7.cons e39
     replace hst7 := hst7.fin (L' := [_, _]) (.cons e39 <| .nil)
     clear hst6 hfr6 hk7
     refine zf (tch := [(0, 1, (fun _ => .blk _ _))]) hst7 hfr7 (by kernel_rfl) (by kernel_rfl) (by kernel_rfl) (.consT rfl rfl (fun _ => rfl) rfl (zZ rfl rfl rfl sizeOf46 rfl rfl rfl) <| .nil) fun a8 w8 m8 hst8 hle8 hk8 => ?_
     have hfr8 := hk8.fr (.o 0 <| .o 3 <| .o 4 <| .o 77 <| .nil)
     replace hst8 := hst8.fin (L' := [_, _]) (.cons rfl <| .nil)
     try simp only [List.take_succ_cons, List.take_zero, List.drop_succ_cons, List.drop_zero, List.cons_append, List.nil_append, List.append_nil, List.length_cons, List.length_nil, Nat.zero_add, Nat.reduceAdd] at hst8
     clear hst7 hfr7 hk8
     refine hK38 _ _ ?_
     refine zK ?_
     repeat (with_reducible first | refine zI ?_ | refine zG ?_)
     replace hyp := hyp.mono hle8
     exact zM hst8 hfr8 rfl (.cell rfl (zj (zh (hst8.loc.at_ (k := 1) rfl)) isAgg46 sizeOf46) <| .nil) (⟨(hst8.take 1).loc, yp, rfl, hyp⟩)
    ·try simp only [nqs] at hb74
     refine zJ ?_
     refine hK36 _ _ ?_
     refine zB fun _ hK41 => ?_
     have hlt9 : ¬ ZW t = true := by simpa using hb74
     have hbd := bodyC (sel := sel) (tl := tl) (g := (zO sel tl f)) (t := t) (n := n) hb20 hb46 hb68 (fun h => hlt9 (by unfold ZW; rw [h]; rfl)) hlt9
     have hfl := from_le hL.here
     have htk9 : (t.kids.take (ze t)).length = ze t := by rw [List.length_take]; omega
     replace hc3 := hc3.mono hle6
     refine rp0 hst6 hfr6 (.cons rfl (zA (off := 0) rfl underlying33 rfl rfl sizeOf3 rfl) <| .cons rfl (zE rfl hc3 isAgg3 rfl) <| .cons rfl (zd rfl (.cons rfl <| .nil) call42 (fun w m hK => by have hle_ := KC.le hK; have hA := KC.agree hK; exact kinds_c (k := t.kind) hA)) <| .cons rfl (zD rfl) <| .cons rfl (zW rfl rfl) <| .cons rfl (zW rfl rfl) <| .cons rfl (zC rfl) <| .cons rfl (zC rfl) <| .nil) fun a7 w7 m7 hst7 hle7 hk7 => ?_
     have hfr7 := hk7.fr (.o 0 <| .o 3 <| .o 4 <| .n 9 <| .n 10 <| .nil)
     clear hst6 hfr6 hk7
     refine hK41 _ _ ?_
     refine zAQ (T := [(0, _), (3, _), (4, _), (9, _)]) (fun (y : Int) => ([(10, .int .i64 y)] : List (Nat × Value))) (fun y => [_, _]) (fun (y : Int) m => (fun (nf : Int) => (nf = ((ze t : Nat) : Int))) y) ((zAW t.kind)) ⟨hst7, MLe.refl _, hfr7.sub (.c <| .c <| .c <| .c <| .c <| .nil), trivial⟩ (fun y a8 w8 m8 hh8 => ?_) (fun K42 hj42 => ?_)
     ·have hst8 := hh8.st; have hle8 := hh8.le; have hfr8 := hh8.fr; have hrel := hh8.rel; clear hh8
      clear hst7 hfr7
      obtain ⟨nf, rfl⟩ : ∃ z, z = y := ⟨_, rfl⟩
      try dsimp only at hrel
      try dsimp only at hfr8
      try dsimp only at hst8
      have hnf := hrel
      subst hnf
      refine zB fun _ hK43 => ?_
      replace hst8 := hst8.more (r := .free) trivial List.nodup_nil (by simp [Res.blocks])
      refine ra0 (tch := [(2, 2, (fun v => .blk v _)), (3, 2, (fun v => .blk v _))]) hst8 hfr8 (.cons rfl (zD rfl) <| .cons rfl (zm (.cons rfl <| .nil) underlying46 zeroValue46 (.cons sizeOf3 <| .cons sizeOf9 <| .cons sizeOf9 <| .cons sizeOf3 <| .cons sizeOf43 <| .cons sizeOf44 <| .nil) rfl) <| .consT rfl rfl (fun _ => rfl) rfl (zQ zeroValue46 rfl) <| .consT rfl rfl (fun _ => rfl) rfl (zT 11 rfl rfl rfl fun y11 => zc rfl rfl rfl rfl rfl sizeOf46 rfl rfl rfl) <| .nil) fun a9 w9 m9 hst9 hle9 hk9 => ?_
      have hfr9 := hk9.fr (.o 10 <| .o 0 <| .o 3 <| .o 4 <| .o 9 <| .nil)
      obtain ⟨g11, e44, _⟩ := hk9.ex 11 rfl
      replace hfr9 := hfr9.cons e44
      replace hst9 := hst9.fin (L' := [_, _, _]) (.cons e44 <| .cons e44 <| .nil)
      try simp only [List.take_succ_cons, List.take_zero, List.drop_succ_cons, List.drop_zero, List.cons_append, List.nil_append, List.append_nil, List.length_cons, List.length_nil, Nat.zero_add, Nat.reduceAdd] at hst9
      clear hst8 hfr8 hk9
      refine hK43 _ _ ?_
      refine zAQ (T := [(10, _), (0, _), (3, _), (4, _), (11, _)]) (fun (y : Str) => ([] : List (Nat × Value))) (fun y => [_, _, .blk (.pointer (some ⟨g11, 0, none⟩)) (.cells (cdV ⟨zAH t.kind, y, [], 0, [], []⟩ ⟨none, 0, none, 0⟩).toArray 46)]) (fun (y : Str) m => (fun (nm : Str) => (nm = zBE t)) y) ((([] : Str))) ⟨hst9, MLe.refl _, hfr9.sub (.c <| .c <| .c <| .c <| .c <| .nil), trivial⟩ (fun y a10 w10 m10 hh10 => ?_) (fun K45 hj45 => ?_)
      ·have hst10 := hh10.st; have hle10 := hh10.le; have hfr10 := hh10.fr; have hrel := hh10.rel; clear hh10
       clear hst9 hfr9
       obtain ⟨nm, rfl⟩ : ∃ z, z = y := ⟨_, rfl⟩
       try dsimp only at hrel
       try dsimp only at hfr10
       try dsimp only at hst10
       have hnm := hrel
       subst hnm
       refine zB fun _ hK46 => ?_
       refine zq 6 (by kernel_rfl) ?_
       refine zEA 5 (by kernel_rfl) ?_
       have zq5 := hle9.trans hle10
       have zq6 := hle8.trans zq5
       have zq7 := hle7.trans zq6
       have zq8 := hle6.trans zq7
       have zq9 := zq3.trans zq8
       replace hkk_t := hkk_t.mono zq9
       have hct47 : Tms _ _ _ _ ((t.kids.take (ze t)).drop (0)) := hkk_t.cut (l := 0) (k := ze t) (by omega) (by omega)
       have hcl47 : (ze t) - (0) = (((t.kids.take (ze t)).drop (0))).length := hct47.len.symm
       have hcu47 : Tms _ _ _ _ ((t.kids.take (ze t)).drop (0)) := hct47.lenL
       replace hc3 := hc3.mono zq7
       refine zf (tch := []) hst10 hfr10 (by kernel_rfl) (by kernel_rfl) (by kernel_rfl) (.cons rfl (zD rfl) <| .cons rfl (zA (off := 5) rfl underlying33 rfl rfl sizeOf24 rfl) <| .cons rfl (zE rfl hc3 isAgg24 rfl) <| .cons rfl (zD rfl) <| .cons rfl (zBN (l := 0) (h := ze t) rfl .none (.some rfl (by omega)) underlying24 sizeOf33 (by first | omega | (dsimp only; omega)) (by first | omega | (dsimp only; omega))) <| .nil) fun a11 w11 m11 hst11 hle11 hk11 => ?_
       have hfr11 := hk11.fr (.o 10 <| .o 0 <| .o 3 <| .o 4 <| .o 11 <| .n 105 <| .n 109 <| .nil)
       clear hst10 hfr10 hk11
       replace hct47 := hct47.mono hle11
       refine call_res [] [_, _] [_] hst11 hfr11 rfl (.cons rfl <| .cons rfl <| .nil) call43 (take_r ih hst11.agree (hst11.loc.at_ (k := 0) rfl) hct47 (ZY hT hst11.ext hNTs) (fun u hu => hL.kid (zCO hu)) (fun u hu => by have := z6 (zCO hu); omega) (fun u hu => by have := ZO (zCO hu); omega) (by rw [List.drop_zero]; have := zAD t.kids (ze t); omega) hNT) ?_
       intro vr12 w12 m12 rs12 hst12 hle12 hp12
       obtain ⟨o12, c12, o13, c13, rfl, hvq9, hta, htb⟩ := hp12
       simp only [List.nil_append, List.cons_append, List.drop_zero] at hst12
       rw [List.drop_zero] at hta htb
       have hfr12 := (hfr11.sub (T' := [(10, _), (0, _), (3, _), (4, _), (11, _), (105, _), (109, _)]) (.cons rfl <| .cons rfl <| .cons rfl <| .cons rfl <| .cons rfl <| .cons rfl <| .cons rfl <| .nil)).put (d := 110) (v := vr12) (by kernel_rfl) rfl
       clear hst11 hfr11
       subst hvq9
       refine zf (tch := []) hst12 hfr12 (by kernel_rfl) (by kernel_rfl) (by kernel_rfl) (.cons rfl (zD rfl) <| .cons rfl (zW rfl rfl) <| .cons rfl (zW rfl rfl) <| .cons rfl (zC rfl) <| .cons rfl (zC rfl) <| .nil) fun a13 w13 m13 hst13 hle13 hk13 => ?_
       have hfr13 := hk13.fr (.o 110 <| .o 10 <| .o 0 <| .o 3 <| .o 4 <| .o 11 <| .o 105 <| .o 109 <| .n 12 <| .n 13 <| .nil)
       clear hst12 hfr12 hk13
       rw [List.drop_zero] at hfr13
       refine hK46 _ _ ?_
       refine zB fun _ hK48 => ?_
       refine ra0 (tch := [(2, 3, (fun _ => .blk _ _))]) hst13 hfr13 (.cons rfl (zD rfl) <| .cons rfl (zA (off := 4) rfl underlying46 rfl rfl sizeOf43 rfl) <| .consT rfl rfl (fun _ => rfl) rfl (zy rfl rfl rfl sizeOf43 rfl rfl rfl) <| .nil) fun a14 w14 m14 hst14 hle14 hk14 => ?_
       have hfr14 := hk14.fr (.o 10 <| .o 0 <| .o 3 <| .o 4 <| .o 11 <| .o 13 <| .nil)
       replace hst14 := hst14.fin (L' := [_, _, _, _]) (.cons rfl <| .nil)
       try simp only [List.take_succ_cons, List.take_zero, List.drop_succ_cons, List.drop_zero, List.cons_append, List.nil_append, List.append_nil, List.length_cons, List.length_nil, Nat.zero_add, Nat.reduceAdd] at hst14
       clear hst13 hfr13 hk14
       have hst14 := hst14.more (r := .rowx (.slice none 0 0) 0 9 78 (MP.reads (fun m vs t => CaR m t vs) 9 [])) Zy List.nodup_nil (by simp [Res.blocks, ZA])
       have hsl_ar : Cas m14 none ([] : List Ca).length 0 ([] : List Ca) := Sl.empty
       refine hK48 _ _ ?_
       refine zB fun _ hK49 => ?_
       refine zB fun _ hK50 => ?_
       have hgt := zDE (zAJ sel tl f) (t.kids.take (ze t)) n (fun u hu => ⟨hL.kid (List.mem_of_mem_take hu), by have := z6 (List.mem_of_mem_take hu); omega⟩)
       have hsp := zAD t.kids (ze t)
       have htl := zDR (zO sel tl f) (t.kids.take (ze t)) n
       have zq10 := hle13.trans hle14
       have zq11 := hle12.trans zq10
       have zq12 := hle11.trans zq11
       replace hkk_t := hkk_t.mono zq12
       have hct51 : Tms _ _ _ _ ((t.kids.take (t.kids.length)).drop (ze t)) := hkk_t.cut (l := ze t) (k := t.kids.length) (by omega) (by omega)
       have hcl51 : (t.kids.length) - (ze t) = (((t.kids.take (t.kids.length)).drop (ze t))).length := hct51.len.symm
       have hcu51 : Tms _ _ _ _ ((t.kids.take (t.kids.length)).drop (ze t)) := hct51.lenL
       replace hc3 := hc3.mono zq12
       refine rp0 hst14 hfr14 (.cons rfl (zA (off := 5) rfl underlying33 rfl rfl sizeOf24 rfl) <| .cons rfl (zE rfl hc3 isAgg24 rfl) <| .cons rfl (zD rfl) <| .cons rfl (zBN (l := ze t) (h := t.kids.length) rfl (.some rfl (by omega)) .none underlying24 sizeOf33 (by first | omega | (dsimp only; omega)) (by first | omega | (dsimp only; omega))) <| .cons rfl (zb rfl underlying24) <| .cons rfl (zD rfl) <| .nil) fun a15 w15 m15 hst15 hle15 hk15 => ?_
       have hfr15 := hk15.fr (.o 10 <| .o 0 <| .o 3 <| .o 4 <| .o 11 <| .o 13 <| .n 118 <| .n 119 <| .n 120 <| .nil)
       clear hst14 hfr14 hk15
       replace hct51 := hct51.mono hle15
       replace hcu51 := hcu51.mono hle15
       generalize (if cK_t = ze t then oK_t else oK_t.map (·.add (ze t * 21))) = oq9 at hct51 hcu51 hfr15
       have hks9 : ((t.kids.take (t.kids.length)).drop (ze t)) = t.kids.drop (ze t) := by rw [List.take_length]
       rw [← hks9] at hsp
       have hkl9 := Z0 ((t.kids.take (t.kids.length)).drop (ze t))
       have hkl8 := Z0 t.kids
       refine hK50 _ _ ?_
       refine zL ?_
       have zq13 := zq10.trans hle15
       replace hta := hta.mono zq13
       refine zg (T := [(10, _), (0, _), (3, _), (4, _), (11, _), (13, _), (118, _), (119, _)]) (fun (y : Nat × Nat × Option Addr × Nat × List Cd) => ([(120, .int .i64 (y.1 : Int))] : List (Nat × Value))) (fun y => [.blk (.pointer (some ⟨r, 0, none⟩)) (.cells #[.bool sel, .bool tl, .int .i64 ((y.2.1 : Nat) : Int)] 75), .rowx (nz (.slice y.2.2.1 y.2.2.2.2.length y.2.2.2.1)) y.2.2.2.2.length 6 46 (MP.reads (fun m vs t => CdR m t vs) 6 y.2.2.2.2), _, .blk (.pointer (some ⟨g11, 0, none⟩)) (.cells (cdV ⟨zAH t.kind, zBE t, [], 0, y.2.2.2.2, []⟩ ⟨y.2.2.1, y.2.2.2.1, none, 0⟩).toArray 46), _]) (fun (y : Nat × Nat × Option Addr × Nat × List Cd) m => (fun (y : Nat) (nq : Nat) (gao : Option Addr) (gap : Nat) (ga : List Cd) => (y ≤ (((t.kids.take (t.kids.length)).drop (ze t))).length) ∧ (Cds m gao ga.length gap ga) ∧ ((ZS (zO sel tl f) (t.kids.take (ze t)) n) ++ zCQ (zO sel tl f) ((t.kids.take (t.kids.length)).drop (ze t)) (Zq (zO sel tl f) (t.kids.take (ze t)) n) = ga ++ zCQ (zO sel tl f) (((t.kids.take (t.kids.length)).drop (ze t)).drop y) nq ∧ ga.length ≤ ze t + y) ∧ (zDQ (zO sel tl f) ((t.kids.take (t.kids.length)).drop (ze t)) (Zq (zO sel tl f) (t.kids.take (ze t)) n) = zDQ (zO sel tl f) (((t.kids.take (t.kids.length)).drop (ze t)).drop y) nq) ∧ (nq + zR (((t.kids.take (t.kids.length)).drop (ze t)).drop y) ≤ (Zq (zO sel tl f) (t.kids.take (ze t)) n) + zR ((t.kids.take (t.kids.length)).drop (ze t)))) y.1 y.2.1 y.2.2.1 y.2.2.2.1 y.2.2.2.2) (fun y => (((t.kids.take (t.kids.length)).drop (ze t))).length - y.1) ((0, (Zq (zO sel tl f) (t.kids.take (ze t)) n), o12, c12, (ZS (zO sel tl f) (t.kids.take (ze t)) n))) ⟨hst15, MLe.refl _, hfr15.sub (.c <| .c <| .c <| .c <| .c <| .c <| .c <| .c <| .c <| .nil), ⟨Nat.zero_le _, hta, ⟨rfl, by show (ZS _ _ _).length ≤ _; omega⟩, rfl, Nat.le_refl _⟩⟩ fun y a16 w16 m16 hh16 => ?_
       have hst16 := hh16.st; have hle16 := hh16.le; have hfr16 := hh16.fr; have hrel := hh16.rel; clear hh16
       clear hst15 hfr15
       obtain ⟨y, nq, gao, gap, ga⟩ := y
       dsimp only at hrel hfr16 hst16
       obtain ⟨hyn, hsl_ga, hlen_ga, hj1, hj2⟩ := hrel
       have hlh16 := hle16
       refine zB fun _ hK53 => ?_
       refine rp0 hst16 hfr16 (.cons rfl (z1 rfl rfl) <| .nil) fun a17 w17 m17 hst17 hle17 hk17 => ?_
       have hfr17 := hk17.fr (.o 120 <| .o 10 <| .o 0 <| .o 3 <| .o 4 <| .o 11 <| .o 13 <| .o 118 <| .o 119 <| .n 121 <| .nil)
       clear hst16 hfr16 hk17
       refine hK53 _ _ ?_
       refine zB fun _ hK54 => ?_
       refine zF hfr17 rfl rfl (fun hb121 => ?_) (fun hb121 => ?_)
       ·try simp only [nqs] at hb121
        refine zJ ?_
        refine hK54 _ _ ?_
        refine zB fun _ hK55 => ?_
        refine zL ?_
        refine zB fun _ hK56 => ?_
        have zq14 := hle16.trans hle17
        replace hct51 := hct51.mono zq14
        obtain ⟨p57, vs57, x57, ho57, hd57, hm_x57, ht57, hcv57, hl57, hv57⟩ := hct51.nth (k := y) (by omega)
        cases ho57
        obtain ⟨⟨oK57, cK57, oA57, cA57, oR57, cR57, t057, t157, t257, t357, t457, t557, u057, u157, u257, u357, u457, u557⟩, rfl, hon57, hkk57, haa57, hrr57⟩ := hv57.open_
        dsimp only at hkk57 haa57 hrr57
        have hbg57 := hkk57.big; have hcp57 := hkk57.cap; have hbh57 := haa57.big; have hcq57 := haa57.cap
        rw [hd57] at hlen_ga hj1 hj2
        rw [zCQ] at hlen_ga; rw [zDQ] at hj1; rw [zR] at hj2
        have hmk := mem_cut2 hm_x57
        have hLx := hL.kid hmk; have hfx := z6 hmk; have hbx := ZO hmk
        have hgn := zAJ sel tl f x57 nq hLx (by omega)
        have hlg := hlen_ga.2
        replace hst17 := hst17.more (r := .free) trivial List.nodup_nil (by simp [Res.blocks])
        refine ra0 (tch := [(2, 5, (fun v => .blk v _)), (3, 5, (fun v => .blk v _))]) hst17 hfr17 (.cons rfl (zH (k := y) rfl rfl underlying24 sizeOf33 rfl (by omega)) <| .cons rfl (zN rfl hcv57 isAgg33 sizeOf33 rfl rfl) <| .consT rfl rfl (fun _ => rfl) rfl (zQ zeroValue33 rfl) <| .consT rfl rfl (fun _ => rfl) rfl (zT 15 rfl rfl rfl fun y15 => zc rfl rfl rfl rfl rfl sizeOf33 rfl rfl hv57.one) <| .nil) fun a18 w18 m18 hst18 hle18 hk18 => ?_
        have hfr18 := hk18.fr (.o 120 <| .o 10 <| .o 0 <| .o 3 <| .o 4 <| .o 11 <| .o 13 <| .o 118 <| .o 119 <| .nil)
        obtain ⟨g58, e58, _⟩ := hk18.ex 15 rfl
        replace hfr18 := hfr18.cons e58
        replace hst18 := hst18.fin (L' := [_, _, _, _, _, _]) (.cons e58 <| .cons e58 <| .nil)
        try simp only [List.take_succ_cons, List.take_zero, List.drop_succ_cons, List.drop_zero, List.cons_append, List.nil_append, List.append_nil, List.length_cons, List.length_nil, Nat.zero_add, Nat.reduceAdd] at hst18
        clear hst17 hfr17 hk18
        refine hK56 _ _ ?_
        have zq15 := zq14.trans hle18
        have zq16 := hle15.trans zq15
        have zq17 := zq12.trans zq16
        have zq18 := zq9.trans zq17
        replace haa_t := haa_t.mono zq18
        replace hrr_t := hrr_t.mono zq18
        replace hM := hM.trans zq18
        have zq19 := zq8.trans zq17
        replace h_t := h_t.mono zq19
        replace hcu47 := hcu47.mono zq17
        have zq20 := zq11.trans zq16
        replace hct47 := hct47.mono zq20
        have zq21 := zq13.trans zq15
        replace htb := htb.mono zq21
        replace hkk_t := hkk_t.mono zq16
        replace hc3 := hc3.mono zq16
        replace hsl_ar := hsl_ar.mono zq16
        replace hta := hta.mono zq15
        replace hcu51 := hcu51.mono zq15
        have zq22 := hle17.trans hle18
        replace hsl_ga := hsl_ga.mono zq22
        replace hct51 := hct51.mono hle18
        replace hcv57 := hcv57.mono hle18
        replace hv57 := hv57.mono hle18
        replace hkk57 := hkk57.mono hle18
        replace haa57 := haa57.mono hle18
        replace hrr57 := hrr57.mono hle18
        refine ZD (tch := [(4, 0, (fun _ => .blk (.pointer (some ⟨r, 0, none⟩)) (.cells #[.bool sel, .bool tl, .int .i64 ((((zO sel tl f) x57 (nq)).2 : Nat) : Int)] 75))), (6, 1, (fun v => .rowx (nz v) _ _ _ _)), (8, 3, (fun u => .blk _ (.cells (_ ++ [u] ++ _).toArray _)))]) (fun _ => mixed) hst18 hfr18 (by kernel_rfl) (by kernel_rfl) (by kernel_rfl) (.cons rfl (zA (off := 4) rfl underlying46 rfl rfl sizeOf43 rfl) <| .cons rfl (zP (j := 3) rfl rfl isAgg43 rfl) <| .cons rfl (zD rfl) <| .cons rfl (zV (j := 5) rfl rfl isAgg33 sizeOf33 rfl) <| .consT rfl rfl (fun _ => rfl) rfl (ZF rfl (.cons rfl <| .cons rfl <| .nil) call31 (κ := .ex (MP.cd ((zO sel tl f) x57 (nq)).1)) (fun σ w m hK hr hkn => by have hle_ := KC.le hK; have hA := KC.agree hK; have hM := hM.trans hle_; have h_t := h_t.mono hle_; have hkk_t := hkk_t.mono hle_; have haa_t := haa_t.mono hle_; have hrr_t := hrr_t.mono hle_; have hc3 := hc3.mono hle_; have hct47 := hct47.mono hle_; have hcu47 := hcu47.mono hle_; have hta := hta.mono hle_; have htb := htb.mono hle_; have hsl_ar := hsl_ar.mono hle_; have hct51 := hct51.mono hle_; have hcu51 := hcu51.mono hle_; have hsl_ga := hsl_ga.mono hle_; have hcv57 := hcv57.mono hle_; have hv57 := hv57.mono hle_; have hkk57 := hkk57.mono hle_; have haa57 := haa57.mono hle_; have hrr57 := hrr57.mono hle_; have hT := ZY hT hK.st.ext hNTs; exact zBB ih hA hr hv57 hT hLx (by omega) (by omega) (by omega) hNT)) <| .cons rfl (zCJ 128 rfl rfl rfl fun y128 => zp rfl underlying43 sizeOf46 zeroValue46 rfl rfl rfl rfl) <| .consT rfl rfl (fun _ => rfl) rfl (zT 129 rfl rfl rfl fun y129 => ZN (size := 6) (bytes := 96) (l := ga) (l' := [((zO sel tl f) x57 nq).1]) rfl rfl (fun _ => by first | exact .inl rfl | exact .inr (.inl rfl)) underlying43 type46 rfl rfl rfl rfl (fun w m hK => Sl.one (R := fun m vs t => CdR m t vs) hK.2.2 hK.2.1.len hK.2.1) rfl (by decide) (by simp only [maxLen]; omega) (by omega)) <| .cons rfl (zA (off := 4) rfl underlying46 rfl rfl sizeOf43 rfl) <| .consT rfl rfl (fun _ => rfl) rfl (zT 130 rfl rfl rfl fun y130 => Zx rfl rfl rfl rfl rfl sizeOf43 rfl rfl rfl) <| .nil) fun a19 w19 m19 hst19 hle19 hk19 => ?_
        have hfr19 := hk19.fr (.o 120 <| .o 10 <| .o 0 <| .o 3 <| .o 4 <| .o 11 <| .o 13 <| .o 118 <| .o 119 <| .nil)
        obtain ⟨y60, e60, hy60⟩ := hk19.ex 128 rfl
        obtain ⟨⟨ks_59o, ks_59p⟩, e61, hsl_ks_59⟩ := hk19.ex 130 rfl
        replace hst19 := hst19.fin (L' := [_, _, _, _, _, _]) (.cons e60 <| .cons e61 <| .cons e61 <| .nil)
        try simp only [List.take_succ_cons, List.take_zero, List.drop_succ_cons, List.drop_zero, List.cons_append, List.nil_append, List.append_nil, List.length_cons, List.length_nil, Nat.zero_add, Nat.reduceAdd] at hst19
        clear hst18 hfr18 hk19
        replace hsl_ks_59 : Cds m19 ks_59o (ga ++ [((zO sel tl f) x57 nq).1]).length ks_59p (ga ++ [((zO sel tl f) x57 nq).1]) := hsl_ks_59
        refine hK55 _ _ ?_
        refine rp0 hst19 hfr19 (.cons rfl (zk rfl rfl ⟨by omega, by omega⟩) <| .cons rfl (zD rfl) <| .nil) fun a20 w20 m20 hst20 hle20 hk20 => ?_
        have hfr20 := hk20.fr (.o 10 <| .o 0 <| .o 3 <| .o 4 <| .o 11 <| .o 13 <| .o 118 <| .o 119 <| .n 120 <| .nil)
        clear hst19 hfr19 hk20
        have hst20 := hst20.take 5
        replace hsl_ks_59 := hsl_ks_59.mono hle20
        have zq23 := hle19.trans hle20
        have zq24 := zq22.trans zq23
        have hlh20 := hlh16.trans zq24
        exact ⟨(y + 1, ((zO sel tl f) x57 nq).2, ks_59o, ks_59p, (ga ++ [((zO sel tl f) x57 nq).1])), m20, by show (((t.kids.take (t.kids.length)).drop (ze t))).length - (y + 1) < (((t.kids.take (t.kids.length)).drop (ze t))).length - y; omega, ⟨hst20, hlh20, hfr20.sub (.c <| .c <| .c <| .c <| .c <| .c <| .c <| .c <| .c <| .nil), ⟨by show y + 1 ≤ (((t.kids.take (t.kids.length)).drop (ze t))).length; omega, hsl_ks_59, ⟨by rw [hlen_ga.1]; simp, by show (ga ++ [_]).length ≤ ze t + (y + 1); simp; have := hlen_ga.2; omega⟩, hj1, by show ((zO sel tl f) x57 nq).2 + zR (((t.kids.take (t.kids.length)).drop (ze t)).drop (y + 1)) ≤ _; omega⟩⟩⟩
       ·try simp only [nqs] at hb121
        have hge : y = (((t.kids.take (t.kids.length)).drop (ze t))).length := by omega
        rw [show ((t.kids.take (t.kids.length)).drop (ze t)).drop y = [] from List.drop_of_length_le (by omega)] at hlen_ga hj1 hj2
        rw [zCQ, List.append_nil] at hlen_ga
        rw [zDQ] at hj1
        have hnr : nq = zCS (zO sel tl f) t n := by rw [← hj1, hks9]; rfl
        have hgk : ga = (ZS (zO sel tl f) (t.kids.take (ze t)) n) ++ zCQ (zO sel tl f) (t.kids.drop (ze t)) (Zq (zO sel tl f) (t.kids.take (ze t)) n) := by rw [← hlen_ga.1, hks9]
        refine zi ?_
        refine hK49 _ _ ?_
        refine zB fun _ hK62 => ?_
        refine zB fun _ hK63 => ?_
        have zq25 := hle16.trans hle17
        have zq26 := hle15.trans zq25
        replace hc3 := hc3.mono zq26
        refine rp0 hst17 hfr17 (.cons rfl (zA (off := 6) rfl underlying33 rfl rfl sizeOf25 rfl) <| .cons rfl (zE rfl hc3 isAgg25 rfl) <| .cons rfl (zb rfl underlying25) <| .cons rfl (zD rfl) <| .nil) fun a18 w18 m18 hst18 hle18 hk18 => ?_
        have hfr18 := hk18.fr (.o 120 <| .o 10 <| .o 0 <| .o 4 <| .o 11 <| .o 13 <| .n 134 <| .n 135 <| .n 136 <| .nil)
        clear hst17 hfr17 hk18
        refine hK63 _ _ ?_
        refine zL ?_
        have zq27 := hle17.trans hle18
        have hlh18 := hlh16.trans zq27
        have hlq64 := hlh18
        have zq28 := zq26.trans hle18
        replace hsl_ar := hsl_ar.mono zq28
        refine zg (T := [(120, _), (10, _), (0, _), (4, _), (11, _), (13, _), (134, _), (135, _)]) (fun (y : Nat × Nat × Option Addr × Nat × List Ca) => ([(136, .int .i64 (y.1 : Int))] : List (Nat × Value))) (fun y => [.blk (.pointer (some ⟨r, 0, none⟩)) (.cells #[.bool sel, .bool tl, .int .i64 ((y.2.1 : Nat) : Int)] 75), _, _, .blk (.pointer (some ⟨g11, 0, none⟩)) (.cells (cdV ⟨zAH t.kind, zBE t, [], 0, ga, y.2.2.2.2⟩ ⟨gao, gap, y.2.2.1, y.2.2.2.1⟩).toArray 46), .rowx (nz (.slice y.2.2.1 y.2.2.2.2.length y.2.2.2.1)) y.2.2.2.2.length 9 78 (MP.reads (fun m vs t => CaR m t vs) 9 y.2.2.2.2)]) (fun (y : Nat × Nat × Option Addr × Nat × List Ca) m => (fun (y : Nat) (nr : Nat) (gco : Option Addr) (gcp : Nat) (gc : List Ca) => (y ≤ t.arms.length) ∧ (Cas m gco gc.length gcp gc) ∧ (zDF (zO sel tl f) t.arms nq = gc ++ zDF (zO sel tl f) (t.arms.drop y) nr ∧ gc.length = y) ∧ (zCh (zO sel tl f) t.arms nq = zCh (zO sel tl f) (t.arms.drop y) nr) ∧ (nr + zr (t.arms.drop y) ≤ nq + zr t.arms)) y.1 y.2.1 y.2.2.1 y.2.2.2.1 y.2.2.2.2) (fun y => t.arms.length - y.1) ((0, nq, none, 0, ([] : List Ca))) ⟨hst18, MLe.refl _, hfr18.sub (.c <| .c <| .c <| .c <| .c <| .c <| .c <| .c <| .c <| .nil), ⟨Nat.zero_le _, hsl_ar, ⟨rfl, rfl⟩, rfl, Nat.le_refl _⟩⟩ fun y a19 w19 m19 hh19 => ?_
        have hst19 := hh19.st; have hle19 := hh19.le; have hfr19 := hh19.fr; have hrel := hh19.rel; clear hh19
        clear hst18 hfr18
        obtain ⟨y, nr, gco, gcp, gc⟩ := y
        dsimp only at hrel hfr19 hst19
        obtain ⟨hyn, hsl_gc, hlen_gc, hj3, hj4⟩ := hrel
        have hlh19 := hle19
        refine zB fun _ hK65 => ?_
        refine rp0 hst19 hfr19 (.cons rfl (z1 rfl rfl) <| .nil) fun a20 w20 m20 hst20 hle20 hk20 => ?_
        have hfr20 := hk20.fr (.o 136 <| .o 120 <| .o 10 <| .o 0 <| .o 4 <| .o 11 <| .o 13 <| .o 134 <| .o 135 <| .n 137 <| .nil)
        clear hst19 hfr19 hk20
        refine hK65 _ _ ?_
        refine zB fun _ hK66 => ?_
        refine zF hfr20 rfl rfl (fun hb137 => ?_) (fun hb137 => ?_)
        ·try simp only [nqs] at hb137
         refine zJ ?_
         refine hK66 _ _ ?_
         refine zB fun _ hK67 => ?_
         refine zL ?_
         refine zB fun _ hK68 => ?_
         have zq29 := hle19.trans hle20
         have zq30 := zq28.trans zq29
         have zq31 := zq12.trans zq30
         have zq32 := zq9.trans zq31
         replace haa_t := haa_t.mono zq32
         obtain ⟨p69, vs69, x69, ho69, hd69, hm_x69, ht69, hcv69, hl69, hv69⟩ := haa_t.nth (k := y) (by omega)
         cases ho69
         obtain ⟨oV69, cV69, bs69, rfl, hva69, hbd69⟩ := hv69.open_
         have hbv69 := hva69.big; have hcv69_ := hva69.cap
         obtain ⟨⟨oK69b, cK69b, oA69b, cA69b, oR69b, cR69b, t069b, t169b, t269b, t369b, t469b, t569b, u069b, u169b, u269b, u369b, u469b, u569b⟩, rfl, hon69b, hkk69b, haa69b, hrr69b⟩ := hbd69.open_
         dsimp only at hkk69b haa69b hrr69b
         have hbg69b := hkk69b.big; have hcp69b := hkk69b.cap; have hbh69b := haa69b.big; have hcq69b := haa69b.cap
         rw [hd69] at hlen_gc hj3 hj4
         rw [zDF] at hlen_gc; rw [zCh] at hj3; rw [z8] at hj4
         have hLa := hL.arm hm_x69; have hcx := Zs hm_x69; have hbx := zAq hm_x69; have hsl9 := zDr x69.vars; have hal9 := Z9 t.arms
         have hgn := zAJ sel tl f x69.body nr hLa (by omega)
         replace hst20 := hst20.more (r := .free) trivial List.nodup_nil (by simp [Res.blocks])
         refine ra0 (tch := [(2, 5, (fun v => .blk v _)), (3, 5, (fun v => .blk v _))]) hst20 hfr20 (.cons rfl (zH (k := y) rfl rfl underlying25 sizeOf72 rfl (by omega)) <| .cons rfl (zN rfl hcv69 isAgg72 sizeOf72 rfl rfl) <| .consT rfl rfl (fun _ => rfl) rfl (zQ zeroValue72 rfl) <| .consT rfl rfl (fun _ => rfl) rfl (zT 17 rfl rfl rfl fun y17 => zc rfl rfl rfl rfl rfl sizeOf72 rfl rfl hv69.one) <| .nil) fun a21 w21 m21 hst21 hle21 hk21 => ?_
         have hfr21 := hk21.fr (.o 136 <| .o 120 <| .o 10 <| .o 0 <| .o 4 <| .o 11 <| .o 13 <| .o 134 <| .o 135 <| .nil)
         obtain ⟨g70, e70, _⟩ := hk21.ex 17 rfl
         replace hfr21 := hfr21.cons e70
         replace hst21 := hst21.fin (L' := [_, _, _, _, _, _]) (.cons e70 <| .cons e70 <| .nil)
         try simp only [List.take_succ_cons, List.take_zero, List.drop_succ_cons, List.drop_zero, List.cons_append, List.nil_append, List.append_nil, List.length_cons, List.length_nil, Nat.zero_add, Nat.reduceAdd] at hst21
         clear hst20 hfr20 hk21
         refine hK68 _ _ ?_
         have zq33 := zq32.trans hle21
         replace hrr_t := hrr_t.mono zq33
         replace hM := hM.trans zq33
         have zq34 := zq31.trans hle21
         have zq35 := zq8.trans zq34
         replace h_t := h_t.mono zq35
         replace hcu47 := hcu47.mono zq34
         have zq36 := zq30.trans hle21
         have zq37 := zq11.trans zq36
         replace hct47 := hct47.mono zq37
         have zq38 := zq29.trans hle21
         have zq39 := hle18.trans zq38
         have zq40 := zq25.trans zq39
         have zq41 := zq13.trans zq40
         replace htb := htb.mono zq41
         replace hkk_t := hkk_t.mono zq36
         replace hta := hta.mono zq40
         replace hct51 := hct51.mono zq40
         replace hcu51 := hcu51.mono zq40
         have zq42 := zq27.trans zq38
         replace hsl_ga := hsl_ga.mono zq42
         replace hc3 := hc3.mono zq39
         replace hsl_ar := hsl_ar.mono zq38
         have zq43 := hle20.trans hle21
         replace hsl_gc := hsl_gc.mono zq43
         replace haa_t := haa_t.mono hle21
         replace hcv69 := hcv69.mono hle21
         replace hv69 := hv69.mono hle21
         replace hva69 := hva69.mono hle21
         replace hbd69 := hbd69.mono hle21
         replace hkk69b := hkk69b.mono hle21
         replace haa69b := haa69b.mono hle21
         replace hrr69b := hrr69b.mono hle21
         refine ZD (tch := [(10, 0, (fun _ => .blk (.pointer (some ⟨r, 0, none⟩)) (.cells #[.bool sel, .bool tl, .int .i64 ((((zO sel tl f) x69.body (nr)).2 : Nat) : Int)] 75))), (13, 4, (fun v => .rowx (nz v) _ _ _ _)), (15, 3, (fun u => .blk _ (.cells (_ ++ [u] ++ _).toArray _)))]) (fun _ => mixed) hst21 hfr21 (by kernel_rfl) (by kernel_rfl) (by kernel_rfl) (.cons rfl (zA (off := 5) rfl underlying46 rfl rfl sizeOf44 rfl) <| .cons rfl (zP (j := 3) rfl rfl isAgg44 rfl) <| .cons rfl (zA (off := 0) rfl underlying72 rfl rfl sizeOf9 rfl) <| .cons rfl (zP (j := 5) rfl rfl isAgg9 rfl) <| .cons rfl (zA (off := 1) rfl underlying72 rfl rfl sizeOf27 rfl) <| .cons rfl (zP (j := 5) rfl rfl isAgg27 rfl) <| .cons rfl (zw (φ := MP.strs (x69.vars)) rfl (.cons rfl <| .nil) call44 (fun w m hK => by have hle_ := KC.le hK; have hA := KC.agree hK; have hva69 := hva69.mono hle_; exact FnG.mono (cloneF_c hA hva69 (by omega)) fun _ _ _ _ h => h)) <| .cons rfl (zD rfl) <| .cons rfl (zA (off := 2) rfl underlying72 rfl rfl sizeOf33 rfl) <| .cons rfl (Zf (j := 5) rfl rfl isAgg33 sizeOf33 rfl rfl) <| .consT rfl rfl (fun _ => rfl) rfl (ZF rfl (.cons rfl <| .cons rfl <| .nil) call31 (κ := .ex (MP.cd ((zO sel tl f) x69.body (nr)).1)) (fun σ w m hK hr hkn => by have hle_ := KC.le hK; have hA := KC.agree hK; have hM := hM.trans hle_; have h_t := h_t.mono hle_; have hkk_t := hkk_t.mono hle_; have haa_t := haa_t.mono hle_; have hrr_t := hrr_t.mono hle_; have hc3 := hc3.mono hle_; have hct47 := hct47.mono hle_; have hcu47 := hcu47.mono hle_; have hta := hta.mono hle_; have htb := htb.mono hle_; have hsl_ar := hsl_ar.mono hle_; have hct51 := hct51.mono hle_; have hcu51 := hcu51.mono hle_; have hsl_ga := hsl_ga.mono hle_; have hsl_gc := hsl_gc.mono hle_; have hcv69 := hcv69.mono hle_; have hv69 := hv69.mono hle_; have hva69 := hva69.mono hle_; have hbd69 := hbd69.mono hle_; have hkk69b := hkk69b.mono hle_; have haa69b := haa69b.mono hle_; have hrr69b := hrr69b.mono hle_; have hT := ZY hT hK.st.ext hNTs; exact zBB ih hA hr hbd69 hT hLa (by omega) (by omega) (by omega) hNT)) <| .cons rfl (zCJ 146 rfl rfl rfl fun y146 => zv 150 rfl rfl rfl fun y150 => zm (.cons rfl <| .cons rfl <| .cons rfl <| .nil) underlying78 zeroValue78 (.cons sizeOf9 <| .cons sizeOf27 <| .cons sizeOf4 <| .cons sizeOf46 <| .nil) rfl) <| .cons rfl (zCJ 151 rfl rfl rfl fun y151 => zp rfl underlying44 sizeOf78 zeroValue78 rfl rfl rfl rfl) <| .consT rfl rfl (fun _ => rfl) rfl (zT 152 rfl rfl rfl fun y152 => ZN (size := 9) (bytes := 144) (l := gc) (l' := [armC (zO sel tl f) x69 nr]) rfl rfl (fun _ => by first | exact .inl rfl | exact .inr (.inl rfl)) underlying44 type78 rfl rfl rfl rfl (fun w m hK => Sl.one (R := fun m vs t => CaR m t vs) (vs := S x69.name :: .slice y152.1.1.1 x69.vars.length y152.1.1.2 :: .bool false :: cdV ((zO sel tl f) x69.body nr).1 y152.1.2) (by exact hK.2.2) rfl (zCZ hK.2.1.1 hK.2.1.2)) rfl (by decide) (by simp only [maxLen]; omega) (by omega)) <| .cons rfl (zA (off := 5) rfl underlying46 rfl rfl sizeOf44 rfl) <| .consT rfl rfl (fun _ => rfl) rfl (zT 153 rfl rfl rfl fun y153 => Zx rfl rfl rfl rfl rfl sizeOf44 rfl rfl rfl) <| .nil) fun a22 w22 m22 hst22 hle22 hk22 => ?_
         have hfr22 := hk22.fr (.o 136 <| .o 120 <| .o 10 <| .o 0 <| .o 4 <| .o 11 <| .o 13 <| .o 134 <| .o 135 <| .nil)
         obtain ⟨y72, e72, hy72⟩ := hk22.ex 150 rfl
         obtain ⟨⟨ar_71o, ar_71p⟩, e73, hsl_ar_71⟩ := hk22.ex 153 rfl
         replace hst22 := hst22.fin (L' := [_, _, _, _, _, _]) (.cons e72 <| .cons e73 <| .cons e73 <| .nil)
         try simp only [List.take_succ_cons, List.take_zero, List.drop_succ_cons, List.drop_zero, List.cons_append, List.nil_append, List.append_nil, List.length_cons, List.length_nil, Nat.zero_add, Nat.reduceAdd] at hst22
         clear hst21 hfr21 hk22
         replace hsl_ar_71 : Cas m22 ar_71o (gc ++ [armC (zO sel tl f) x69 nr]).length ar_71p (gc ++ [armC (zO sel tl f) x69 nr]) := hsl_ar_71
         refine hK67 _ _ ?_
         refine rp0 hst22 hfr22 (.cons rfl (zk rfl rfl ⟨by omega, by omega⟩) <| .cons rfl (zD rfl) <| .nil) fun a23 w23 m23 hst23 hle23 hk23 => ?_
         have hfr23 := hk23.fr (.o 120 <| .o 10 <| .o 0 <| .o 4 <| .o 11 <| .o 13 <| .o 134 <| .o 135 <| .n 136 <| .nil)
         clear hst22 hfr22 hk23
         have hst23 := hst23.take 5
         replace hsl_ar_71 := hsl_ar_71.mono hle23
         have zq44 := hle22.trans hle23
         have zq45 := zq43.trans zq44
         have hlh23 := hlh19.trans zq45
         exact ⟨(y + 1, ((zO sel tl f) x69.body nr).2, ar_71o, ar_71p, (gc ++ [armC (zO sel tl f) x69 nr])), m23, by show t.arms.length - (y + 1) < t.arms.length - y; omega, ⟨hst23, hlh23, hfr23.sub (.c <| .c <| .c <| .c <| .c <| .c <| .c <| .c <| .c <| .nil), ⟨by show y + 1 ≤ t.arms.length; omega, hsl_ar_71, ⟨by rw [hlen_gc.1]; simp, by show (gc ++ [_]).length = y + 1; simp; exact hlen_gc.2⟩, hj3, by show ((zO sel tl f) x69.body nr).2 + zr (t.arms.drop (y + 1)) ≤ _; omega⟩⟩⟩
        ·try simp only [nqs] at hb137
         have hge : y = t.arms.length := by omega
         rw [List.drop_of_length_le (by omega)] at hlen_gc hj3
         rw [zDF, List.append_nil] at hlen_gc
         rw [zCh] at hj3
         refine zi ?_
         refine hK62 _ _ ?_
         refine zB fun _ hK74 => ?_
         refine zq 3 (by kernel_rfl) ?_
         have hce9 : zBd (zO sel tl f) t n = ⟨zAH t.kind, zBE t, [], 0, ga, gc⟩ := by unfold zBd; rw [← hgk, ← hnr, hlen_gc.1]
         have zq46 := hle19.trans hle20
         have zq47 := zq27.trans zq46
         replace hsl_ga := hsl_ga.mono zq47
         replace hsl_gc := hsl_gc.mono hle20
         have hcore : CdR m20 (zBd (zO sel tl f) t n) (cdV ⟨zAH t.kind, zBE t, [], 0, ga, gc⟩ ⟨gao, gap, gco, gcp⟩) := by rw [hce9]; exact CdR.build trivial trivial hsl_ga hsl_gc
         have zq48 := hle18.trans zq46
         have zq49 := zq25.trans zq48
         have zq50 := zq13.trans zq49
         replace htb := htb.mono zq50
         refine zf (tch := []) hst20 hfr20 (by kernel_rfl) (by kernel_rfl) (by kernel_rfl) (.cons rfl (zV (j := 3) rfl rfl isAgg46 sizeOf46 rfl) <| .cons rfl (zD rfl) <| .cons rfl (zw (φ := MP.cd (ZX (Zu sel (zO sel tl f) (t.kids.take (ze t)) n) (zBd (zO sel tl f) t n))) rfl (.cons rfl <| .cons rfl <| .nil) call45 (fun w m hK => by have hle_ := KC.le hK; have hA := KC.agree hK; have htb := htb.mono hle_; have hcore := hcore.mono hle_; exact FnG.mono (around_c hA (by exact hcore) htb) fun _ _ _ _ h => h)) <| .nil) fun a21 w21 m21 hst21 hle21 hk21 => ?_
         have hfr21 := hk21.fr (.o 136 <| .o 120 <| .o 10 <| .o 0 <| .o 4 <| .o 11 <| .o 13 <| .o 134 <| .o 135 <| .nil)
         obtain ⟨yp, e75, hyp⟩ := hk21.ex 158 rfl
         replace hfr21 := hfr21.cons e75
         clear hst20 hfr20 hk21
         refine zf (tch := [(0, 2, (fun _ => .blk _ _))]) hst21 hfr21 (by kernel_rfl) (by kernel_rfl) (by kernel_rfl) (.consT rfl rfl (fun _ => rfl) rfl (zZ rfl rfl rfl sizeOf46 rfl rfl rfl) <| .nil) fun a22 w22 m22 hst22 hle22 hk22 => ?_
         have hfr22 := hk22.fr (.o 136 <| .o 120 <| .o 10 <| .o 0 <| .o 4 <| .o 11 <| .o 13 <| .o 134 <| .o 135 <| .o 158 <| .nil)
         replace hst22 := hst22.fin (L' := [_, _, _, _, _]) (.cons rfl <| .nil)
         try simp only [List.take_succ_cons, List.take_zero, List.drop_succ_cons, List.drop_zero, List.cons_append, List.nil_append, List.append_nil, List.length_cons, List.length_nil, Nat.zero_add, Nat.reduceAdd] at hst22
         clear hst21 hfr21 hk22
         refine hK74 _ _ ?_
         refine zK ?_
         repeat (with_reducible first | refine zI ?_ | refine zG ?_)
         replace hyp := hyp.mono hle22
         exact zM hst22 hfr22 rfl (.cell rfl (zj (zh (hst22.loc.at_ (k := 2) rfl)) isAgg46 sizeOf46) <| .nil) (⟨by rw [hbd, ← hnr, hj3]; exact (hst22.take 1).loc, yp, by rw [hbd]; rfl, by rw [hbd]; exact hyp⟩)
      ·have hlj45 : MLe m9 m9 := MLe.refl _
       refine zB fun _ hK77 => ?_
       refine rp0 hst9 hfr9 (.cons rfl (zD rfl) <| .cons rfl (zY rfl rfl) <| .cons rfl (zD rfl) <| .cons rfl (zD rfl) <| .cons rfl (zY rfl rfl) <| .cons rfl (zu rfl rfl rfl) <| .cons rfl (zD rfl) <| .cons rfl (zD rfl) <| .cons rfl (zY rfl rfl) <| .cons rfl (zu rfl rfl rfl) <| .nil) fun a10 w10 m10 hst10 hle10 hk10 => ?_
       have hfr10 := hk10.fr (.o 10 <| .o 0 <| .o 3 <| .o 4 <| .o 11 <| .n 100 <| .nil)
       clear hst9 hfr9 hk10
       refine hK77 _ _ ?_
       refine zF hfr10 rfl rfl (fun hb100 => ?_) (fun hb100 => ?_)
       ·try simp only [nqs] at hb100
        have zq51 := hle9.trans hle10
        have zq52 := hle8.trans zq51
        have zq53 := hle7.trans zq52
        replace hc3 := hc3.mono zq53
        refine ra0 (tch := [(3, 2, (fun _ => .blk _ _))]) hst10 hfr10 (.cons rfl (zA (off := 2) rfl underlying33 rfl rfl sizeOf9 rfl) <| .cons rfl (zE rfl hc3 isAgg9 rfl) <| .cons rfl (zA (off := 1) rfl underlying46 rfl rfl sizeOf9 rfl) <| .consT rfl rfl (fun _ => rfl) rfl (zy rfl rfl rfl sizeOf9 rfl rfl rfl) <| .nil) fun a11 w11 m11 hst11 hle11 hk11 => ?_
        have hfr11 := hk11.fr (.o 10 <| .o 0 <| .o 3 <| .o 4 <| .o 11 <| .nil)
        replace hst11 := hst11.fin (L' := [_, _, _]) (.cons rfl <| .nil)
        try simp only [List.take_succ_cons, List.take_zero, List.drop_succ_cons, List.drop_zero, List.cons_append, List.nil_append, List.append_nil, List.length_cons, List.length_nil, Nat.zero_add, Nat.reduceAdd] at hst11
        clear hst10 hfr10 hk11
        repeat (with_reducible first | refine ZB ?_ | refine zz ?_ | refine zo ?_)
        have zq54 := hle10.trans hle11
        replace hlj45 := hlj45.trans zq54
        exact hj45 (t.name) _ _ _ ⟨hst11, hlj45, hfr11.sub (.c <| .c <| .c <| .c <| .c <| .nil), by unfold zBE; dsimp only; first | rw [if_pos (out_named hb100)] | rw [if_neg (zEE hb100)]⟩
       ·try simp only [nqs] at hb100
        refine zJ ?_
        repeat (with_reducible first | refine ZB ?_ | refine zz ?_ | refine zo ?_)
        replace hlj45 := hlj45.trans hle10
        exact hj45 (([] : Str)) _ _ _ ⟨hst10, hlj45, hfr10.sub (.c <| .c <| .c <| .c <| .c <| .nil), by unfold zBE; dsimp only; first | rw [if_pos (out_named hb100)] | rw [if_neg (zEE hb100)]⟩
     ·have hlj42 : MLe m7 m7 := MLe.refl _
      refine zB fun _ hK78 => ?_
      refine rp0 hst7 hfr7 (.cons rfl (zD rfl) <| .cons rfl (z1 rfl rfl) <| .nil) fun a8 w8 m8 hst8 hle8 hk8 => ?_
      have hfr8 := hk8.fr (.o 0 <| .o 3 <| .o 4 <| .o 9 <| .o 10 <| .n 85 <| .nil)
      clear hst7 hfr7 hk8
      refine hK78 _ _ ?_
      refine zF hfr8 rfl rfl (fun hb85 => ?_) (fun hb85 => ?_)
      ·try simp only [nqs] at hb85
       have zq55 := hle7.trans hle8
       replace hc3 := hc3.mono zq55
       refine rp0 hst8 hfr8 (.cons rfl (zA (off := 5) rfl underlying33 rfl rfl sizeOf24 rfl) <| .cons rfl (zE rfl hc3 isAgg24 rfl) <| .cons rfl (zb rfl underlying24) <| .cons rfl (zC rfl) <| .nil) fun a9 w9 m9 hst9 hle9 hk9 => ?_
       have hfr9 := hk9.fr (.o 0 <| .o 3 <| .o 4 <| .o 9 <| .n 10 <| .nil)
       clear hst8 hfr8 hk9
       repeat (with_reducible first | refine ZB ?_ | refine zz ?_ | refine zo ?_)
       have zq56 := hle8.trans hle9
       replace hlj42 := hlj42.trans zq56
       exact hj42 ((t.kids.length : Int)) _ _ _ ⟨hst9, hlj42, hfr9.sub (.c <| .c <| .c <| .c <| .c <| .nil), by rw [kindsN_neg hb85]⟩
      ·try simp only [nqs] at hb85
       refine zJ ?_
       repeat (with_reducible first | refine ZB ?_ | refine zz ?_ | refine zo ?_)
       replace hlj42 := hlj42.trans hle8
       exact hj42 (zAW t.kind) _ _ _ ⟨hst8, hlj42, hfr8.sub (.c <| .c <| .c <| .c <| .c <| .nil), kindsN_pos hb85⟩
end Go.Proofs.YtmdhhjmomilhjaaDoor
namespace Go.Proofs.YtmdhhjmomilhjaaDoor
open Go.Proofs.Tryd
set_option linter.all false
set_option maxRecDepth 4000
open Go.RowKit
open Go.Lib (itoa decDigits)
theorem own_new {W w : World} {mE m : Mem} {L : List Res} {k g : Nat} {o : Obj} (h : St [] W mE L w m) (hk : L[k]? = some (.blk (.pointer (some ⟨g, 0, none⟩)) o)) : W.heap.size ≤ g := by
 rcases h.loc.own g (List.mem_flatMap.2 ⟨_, List.mem_of_getElem? hk, by simp [Res.blocks, zt]⟩) with h1 | h1
 ·cases h1
 ·exact h1
theorem zEO (t : Tm) : 0 < zS t := by have := z7 t; omega
theorem code_c : ∀ f, zBm f
 | 0 => fun _ _ _ _ _ hf _ _ _ => absurd hf (Nat.not_le_of_gt (zEO _))
 | f + 1 => fun hA hr h hT hL hf hbk hnb hNT => code_s hA hr h hT (code_c f) hL hf hbk hnb hNT
mutual
/-- How many pieces of a kind. -/
def nK (k : Int) : Cd → Nat
 | ⟨kd, _, _, _, ks, az⟩ => (if kd = k then 1 else 0) + (nKs k ks + nAs k az)
def nKs (k : Int) : List Cd → Nat
 | [] => 0
 | t :: ts => nK k t + nKs k ts
def nAs (k : Int) : List Ca → Nat
 | [] => 0
 | ⟨_, _, _, b⟩ :: ts => nK k b + nAs k ts
end
theorem nK_eq (k : Int) (t : Cd) : nK k t = (if t.kind = k then 1 else 0) + (nKs k t.kids + nAs k t.arms) := by obtain ⟨kd, s, p, n, ks, az⟩ := t; rw [nK]; rfl
theorem dec_eq (n : Nat) : decDigits n = if n < 10 then [UInt8.ofNat (48 + n)] else decDigits (n / 10) ++ [UInt8.ofNat (48 + n % 10)] := by
 rw [decDigits]; split <;> rfl
theorem dec_len : ∀ (k n : Nat), n < 10 ^ (k + 1) → (decDigits n).length ≤ k + 1
 | 0, n, h => by rw [dec_eq, if_pos (by simpa using h)]; simp
 | k + 1, n, h => by
  rw [dec_eq]
  split
  ·simp
  ·have := dec_len k (n / 10) (by rw [Nat.pow_succ] at h; omega)
   simp only [List.length_append, List.length_cons, List.length_nil]; omega
theorem dec_len20 {n : Nat} (h : n ≤ 9223372036854775808) : (decDigits n).length ≤ 20 := dec_len 19 n (by omega)
theorem digit_byte {k : Nat} (h : k < 10) : UInt8.ofNat (IntKind.u8.wrap (48 + (k : Int))).toNat = UInt8.ofNat (48 + k) := by
 have : k = 0 ∨ k = 1 ∨ k = 2 ∨ k = 3 ∨ k = 4 ∨ k = 5 ∨ k = 6 ∨ k = 7 ∨ k = 8 ∨ k = 9 := by omega
 rcases this with rfl | rfl | rfl | rfl | rfl | rfl | rfl | rfl | rfl | rfl <;> rfl
theorem dec_step (n : Nat) : decDigits n = (if n / 10 = 0 then [] else decDigits (n / 10)) ++ [UInt8.ofNat (48 + n % 10)] := by
 rw [dec_eq]
 by_cases h : n < 10
 ·rw [if_pos h, if_pos (by omega), Nat.mod_eq_of_lt h]; rfl
 ·rw [if_neg h, if_neg (by omega)]
theorem zEc (k : Int) (a : Ca) (ts : List Ca) : nAs k (a :: ts) = nK k a.body + nAs k ts := by obtain ⟨x, v, l, b⟩ := a; rw [nAs]; rfl
set_option maxHeartbeats 400000 in
theorem lower_c {w : World} {m : Mem} {t : Tm} {vs_t : List Value} {sel tl : Bool} (hA : Agree w m) (h_t : TmR m t vs_t) (hT : Tab w) (hL : LwT t) (hf : zS t ≤ 100000000) (hbk : ZG t ≤ 1000000000) : FnV Tryd.prog 12 #[.agg vs_t.toArray, .agg #[.bool sel, .bool tl]] w m (fun _ m v => (MP.cd (zDA sel tl t)).p m v) := by
 obtain ⟨⟨oK_t, cK_t, oA_t, cA_t, oR_t, cR_t, t0_t, t1_t, t2_t, t3_t, t4_t, t5_t, u0_t, u1_t, u2_t, u3_t, u4_t, u5_t⟩, rfl, hon_t, hkk_t, haa_t, hrr_t⟩ := h_t.open_
 dsimp only at hkk_t haa_t hrr_t
 have hbg_t := hkk_t.big; have hcp_t := hkk_t.cap; have hbh_t := haa_t.big; have hcq_t := haa_t.cap
 refine za (vs := [_, _]) func12 rfl rfl rfl fun a0 hfr0 => ?_
 have hst0 := zX hA (zl [] _ w m)
 have hM : MLe m m := MLe.refl m
 refine zB fun _ hK1 => ?_
 replace hst0 := hst0.more (r := .free) trivial List.nodup_nil (by simp [Res.blocks])
 refine ra0 (tch := [(2, 0, (fun v => .blk v _))]) hst0 hfr0 (.cons rfl (zx rfl rfl) <| .cons rfl (zx rfl rfl) <| .consT rfl rfl (fun _ => rfl) rfl (zQ zeroValue46 rfl) <| .nil) fun a1 w1 m1 hst1 hle1 hk1 => ?_
 have hfr1 := hk1.fr (.nil)
 obtain ⟨g2, e2, hc2⟩ := hk1.ex 2 rfl
 replace hfr1 := hfr1.cons e2
 obtain ⟨g3, e3, hc3⟩ := hk1.ex 3 rfl
 replace hfr1 := hfr1.cons e3
 obtain ⟨g4, e4, _⟩ := hk1.ex 4 rfl
 replace hfr1 := hfr1.cons e4
 replace hst1 := hst1.fin (L' := [_]) (.cons e4 <| .nil)
 replace h_t := h_t.mono hle1
 replace hkk_t := hkk_t.mono hle1
 replace haa_t := haa_t.mono hle1
 replace hrr_t := hrr_t.mono hle1
 replace hM := hM.trans hle1
 clear hst0 hfr0 hk1
 refine hK1 _ _ ?_
 refine zB fun _ hK5 => ?_
 replace hst1 := hst1.more (r := .free) trivial List.nodup_nil (by simp [Res.blocks])
 refine ra0 (tch := [(2, 1, (fun v => .blk v _))]) hst1 hfr1 (.cons rfl (zN rfl hc3 isAgg38 sizeOf38 rfl rfl) <| .cons rfl (zm (.cons rfl <| .nil) underlying75 zeroValue75 (.cons sizeOf38 <| .cons sizeOf3 <| .nil) rfl) <| .consT rfl rfl (fun _ => rfl) rfl (zDy rfl rfl) <| .consA 8 rfl rfl <| .nil) fun a2 w2 m2 hst2 hle2 hk2 => ?_
 have hfr2 := hk2.fr (.o 2 <| .o 4 <| .nil)
 obtain ⟨g8, e6, _⟩ := hk2.ex 8 rfl
 replace hfr2 := hfr2.cons (hk2.same 5 rfl e6)
 replace hst2 := hst2.fin (L' := [_, _]) (.cons e6 <| .nil)
 replace h_t := h_t.mono hle2
 replace hkk_t := hkk_t.mono hle2
 replace haa_t := haa_t.mono hle2
 replace hrr_t := hrr_t.mono hle2
 replace hc2 := hc2.mono hle2
 replace hc3 := hc3.mono hle2
 replace hM := hM.trans hle2
 clear hst1 hfr1 hk2
 refine hK5 _ _ ?_
 refine zB fun _ hK7 => ?_
 refine zq 3 (by kernel_rfl) ?_
 have hNT8 : zAF g8 := notTab_new hT (own_new hst2 (k := 1) rfl)
 refine zf (tch := [(2, 1, (fun _ => .blk (.pointer (some ⟨g8, 0, none⟩)) (.cells #[.bool sel, .bool tl, .int .i64 (((zO sel tl (zS t) t 0).2 : Nat) : Int)] 75)))]) hst2 hfr2 (by kernel_rfl) (by kernel_rfl) (by kernel_rfl) (.cons rfl (zD rfl) <| .cons rfl (zN rfl hc2 isAgg33 sizeOf33 rfl rfl) <| .consT rfl rfl (fun _ => rfl) rfl (ZF rfl (.cons rfl <| .cons rfl <| .nil) call31 (κ := .ex (MP.cd (zDA sel tl t))) (fun σ w m hK hr hkn => by have hle_ := KC.le hK; have hA := KC.agree hK; have hM := hM.trans hle_; have h_t := h_t.mono hle_; have hkk_t := hkk_t.mono hle_; have haa_t := haa_t.mono hle_; have hrr_t := hrr_t.mono hle_; have hc2 := hc2.mono hle_; have hc3 := hc3.mono hle_; have hT := zDG hT hK.st.ext; exact zBB (n := 0) (code_c (zS t)) hA hr h_t hT hL (Nat.le_refl _) hbk (by omega) hNT8)) <| .nil) fun a3 w3 m3 hst3 hle3 hk3 => ?_
 have hfr3 := hk3.fr (.o 2 <| .o 4 <| .o 5 <| .nil)
 obtain ⟨yp, e8, hyp⟩ := hk3.ex 11 rfl
 replace hfr3 := hfr3.cons e8
 replace hst3 := hst3.fin (L' := [_, _]) (.cons e8 <| .nil)
 clear hst2 hfr2 hk3
 refine zf (tch := [(0, 0, (fun _ => .blk _ _))]) hst3 hfr3 (by kernel_rfl) (by kernel_rfl) (by kernel_rfl) (.consT rfl rfl (fun _ => rfl) rfl (zZ rfl rfl rfl sizeOf46 rfl rfl rfl) <| .nil) fun a4 w4 m4 hst4 hle4 hk4 => ?_
 have hfr4 := hk4.fr (.o 2 <| .o 4 <| .o 5 <| .o 11 <| .nil)
 replace hst4 := hst4.fin (L' := [_, _]) (.cons rfl <| .nil)
 try simp only [List.take_succ_cons, List.take_zero, List.drop_succ_cons, List.drop_zero, List.cons_append, List.nil_append, List.append_nil, List.length_cons, List.length_nil, Nat.zero_add, Nat.reduceAdd] at hst4
 replace hyp := hyp.mono hle4
 clear hst3 hfr3 hk4
 refine hK7 _ _ ?_
 refine zK ?_
 repeat (with_reducible first | refine zI ?_ | refine zG ?_)
 exact zM hst4 hfr4 rfl (.cell rfl (zj (zh (hst4.loc.at_ (k := 0) rfl)) isAgg46 sizeOf46) <| .nil) (⟨yp, rfl, hyp⟩)
abbrev zDD (t : Cd) : Prop := ∀ {w : World} {m : Mem} {vs_t : List Value} {k : Int} (hA : Agree w m) (h_t : CdR m t vs_t) (hb : nK k t ≤ 1000000000), FnV Tryd.prog 16 #[.agg vs_t.toArray, .int .i64 k] w m (fun _ _ v => v = .int .i64 (nK k t : Int))
set_option maxHeartbeats 800000 in
theorem lcount_s {t : Cd} (ihk : ∀ u ∈ t.kids, zDD u) (iha : ∀ a ∈ t.arms, zDD a.body) {w : World} {m : Mem} {vs_t : List Value} {k : Int} (hA : Agree w m) (h_t : CdR m t vs_t) (hb : nK k t ≤ 1000000000) : FnV Tryd.prog 16 #[.agg vs_t.toArray, .int .i64 k] w m (fun _ _ v => v = .int .i64 (nK k t : Int)) := by
 obtain ⟨⟨oK_t, cK_t, oA_t, cA_t⟩, rfl, ⟨hik_t, hin_t⟩, hkk_t, haa_t⟩ := h_t.open_
 dsimp only at hkk_t haa_t
 have hbg_t := hkk_t.big; have hcp_t := hkk_t.cap; have hbh_t := haa_t.big; have hcq_t := haa_t.cap
 refine za (vs := [_, _]) func16 rfl rfl rfl fun a0 hfr0 => ?_
 have hst0 := zX hA (zl [] _ w m)
 have hM : MLe m m := MLe.refl m
 have hce := nK_eq k t
 refine zB fun _ hK1 => ?_
 refine rp0 hst0 hfr0 (.cons rfl (zx rfl rfl) <| .cons rfl (zC rfl) <| .nil) fun a1 w1 m1 hst1 hle1 hk1 => ?_
 have hfr1 := hk1.fr (.o 1 <| .nil)
 obtain ⟨g2, e2, hc2⟩ := hk1.ex 2 rfl
 replace hfr1 := hfr1.cons e2
 replace h_t := h_t.mono hle1
 replace hkk_t := hkk_t.mono hle1
 replace haa_t := haa_t.mono hle1
 clear hst0 hfr0 hk1
 refine hK1 _ _ ?_
 refine zB fun _ hK3 => ?_
 refine rp0 hst1 hfr1 (.cons rfl (zC rfl) <| .nil) fun a2 w2 m2 hst2 hle2 hk2 => ?_
 have hfr2 := hk2.fr (.o 1 <| .o 2 <| .n 5 <| .nil)
 replace h_t := h_t.mono hle2
 replace hkk_t := hkk_t.mono hle2
 replace haa_t := haa_t.mono hle2
 replace hc2 := hc2.mono hle2
 clear hst1 hfr1 hk2
 refine hK3 _ _ ?_
 refine zAQ (T := [(1, _), (2, _)]) (fun (y : Int) => ([(5, .int .i64 y)] : List (Nat × Value))) (fun y => []) (fun (y : Int) m => (fun (c0 : Int) => (c0 = if t.kind = k then 1 else 0)) y) ((0)) ⟨hst2, MLe.refl _, hfr2.sub (.c <| .c <| .c <| .nil), trivial⟩ (fun y a3 w3 m3 hh3 => ?_) (fun K4 hj4 => ?_)
 ·have hst3 := hh3.st; have hle3 := hh3.le; have hfr3 := hh3.fr; have hrel := hh3.rel; clear hh3
  clear hst2 hfr2
  obtain ⟨c0, rfl⟩ : ∃ z, z = y := ⟨_, rfl⟩
  try dsimp only at hrel
  try dsimp only at hfr3
  try dsimp only at hst3
  have hc0 := hrel
  subst hc0
  refine zB fun _ hK5 => ?_
  refine zB fun _ hK6 => ?_
  replace hc2 := hc2.mono hle3
  refine rp0 hst3 hfr3 (.cons rfl (zA (off := 4) rfl underlying46 rfl rfl sizeOf43 rfl) <| .cons rfl (zE rfl hc2 isAgg43 rfl) <| .cons rfl (zb rfl underlying43) <| .cons rfl (zD rfl) <| .nil) fun a4 w4 m4 hst4 hle4 hk4 => ?_
  have hfr4 := hk4.fr (.o 5 <| .o 1 <| .o 2 <| .n 17 <| .n 18 <| .n 19 <| .nil)
  clear hst3 hfr3 hk4
  refine hK6 _ _ ?_
  refine zL ?_
  refine zg (T := [(1, _), (2, _), (17, _), (18, _)]) (fun (y : Nat × Int) => ([(5, .int .i64 y.2), (19, .int .i64 (y.1 : Int))] : List (Nat × Value))) (fun _ => _) (fun (y : Nat × Int) m => (fun (y : Nat) (a : Int) => (y ≤ t.kids.length) ∧ (a + nKs k (t.kids.drop y) = (((if t.kind = k then 1 else 0) + nKs k t.kids : Nat) : Int)) ∧ (0 ≤ a)) y.1 y.2) (fun y => t.kids.length - y.1) ((0, (if t.kind = k then 1 else 0))) ⟨hst4, MLe.refl _, hfr4.sub (.c <| .c <| .c <| .c <| .c <| .c <| .nil), ⟨Nat.zero_le _, by rw [List.drop_zero]; split <;> simp_all <;> omega, by split <;> omega⟩⟩ fun y a5 w5 m5 hh5 => ?_
  have hst5 := hh5.st; have hle5 := hh5.le; have hfr5 := hh5.fr; have hrel := hh5.rel; clear hh5
  clear hst4 hfr4
  obtain ⟨y, a⟩ := y
  dsimp only at hrel hfr5 hst5
  obtain ⟨hyn, ha, ha0⟩ := hrel
  have hlh5 := hle5
  refine zB fun _ hK8 => ?_
  refine rp0 hst5 hfr5 (.cons rfl (z1 rfl rfl) <| .nil) fun a6 w6 m6 hst6 hle6 hk6 => ?_
  have hfr6 := hk6.fr (.o 5 <| .o 19 <| .o 1 <| .o 2 <| .o 17 <| .o 18 <| .n 20 <| .nil)
  clear hst5 hfr5 hk6
  refine hK8 _ _ ?_
  refine zB fun _ hK9 => ?_
  refine zF hfr6 rfl rfl (fun hb20 => ?_) (fun hb20 => ?_)
  ·try simp only [nqs] at hb20
   refine zJ ?_
   refine hK9 _ _ ?_
   refine zB fun _ hK10 => ?_
   refine zL ?_
   refine zB fun _ hK11 => ?_
   have zq1 := hle5.trans hle6
   have zq2 := hle4.trans zq1
   have zq3 := hle3.trans zq2
   replace hkk_t := hkk_t.mono zq3
   obtain ⟨p12, vs12, x12, ho12, hd12, hm_x12, ht12, hcv12, hl12, hv12⟩ := hkk_t.nth (k := y) (by omega)
   cases ho12
   obtain ⟨⟨oK12, cK12, oA12, cA12⟩, rfl, ⟨hik12, hin12⟩, hkk12, haa12⟩ := hv12.open_
   dsimp only at hkk12 haa12
   have hbg12 := hkk12.big; have hcp12 := hkk12.cap; have hbh12 := haa12.big; have hcq12 := haa12.cap
   rw [hd12, nKs] at ha
   replace hst6 := hst6.more (r := .free) trivial List.nodup_nil (by simp [Res.blocks])
   refine ra0 (tch := [(2, 0, (fun v => .blk v _)), (3, 0, (fun v => .blk v _))]) hst6 hfr6 (.cons rfl (zH (k := y) rfl rfl underlying43 sizeOf46 rfl (by omega)) <| .cons rfl (zN rfl hcv12 isAgg46 sizeOf46 rfl rfl) <| .consT rfl rfl (fun _ => rfl) rfl (zQ zeroValue46 rfl) <| .consT rfl rfl (fun _ => rfl) rfl (zT 7 rfl rfl rfl fun y7 => zc rfl rfl rfl rfl rfl sizeOf46 rfl rfl hv12.one) <| .nil) fun a7 w7 m7 hst7 hle7 hk7 => ?_
   have hfr7 := hk7.fr (.o 5 <| .o 19 <| .o 1 <| .o 2 <| .o 17 <| .o 18 <| .nil)
   obtain ⟨g13, e13, _⟩ := hk7.ex 7 rfl
   replace hfr7 := hfr7.cons e13
   replace hst7 := hst7.fin (L' := [_]) (.cons e13 <| .cons e13 <| .nil)
   try simp only [List.take_succ_cons, List.take_zero, List.drop_succ_cons, List.drop_zero, List.cons_append, List.nil_append, List.append_nil, List.length_cons, List.length_nil, Nat.zero_add, Nat.reduceAdd] at hst7
   clear hst6 hfr6 hk7
   refine hK11 _ _ ?_
   have zq4 := zq3.trans hle7
   replace h_t := h_t.mono zq4
   replace haa_t := haa_t.mono zq4
   have zq5 := zq2.trans hle7
   replace hc2 := hc2.mono zq5
   replace hkk_t := hkk_t.mono hle7
   replace hcv12 := hcv12.mono hle7
   replace hv12 := hv12.mono hle7
   replace hkk12 := hkk12.mono hle7
   replace haa12 := haa12.mono hle7
   refine rp0 hst7 hfr7 (.cons rfl (zD rfl) <| .cons rfl (zV (j := 0) rfl rfl isAgg46 sizeOf46 rfl) <| .cons rfl (zD rfl) <| .cons rfl (zd rfl (.cons rfl <| .cons rfl <| .nil) call16 (fun w m hK => by have hle_ := KC.le hK; have hA := KC.agree hK; have h_t := h_t.mono hle_; have hkk_t := hkk_t.mono hle_; have haa_t := haa_t.mono hle_; have hc2 := hc2.mono hle_; have hcv12 := hcv12.mono hle_; have hv12 := hv12.mono hle_; have hkk12 := hkk12.mono hle_; have haa12 := haa12.mono hle_; exact ihk _ (by assumption) hA hv12 (by omega))) <| .cons rfl (zk rfl rfl ⟨by omega, by omega⟩) <| .cons rfl (zC rfl) <| .nil) fun a8 w8 m8 hst8 hle8 hk8 => ?_
   have hfr8 := hk8.fr (.o 19 <| .o 1 <| .o 2 <| .o 17 <| .o 18 <| .n 5 <| .nil)
   clear hst7 hfr7 hk8
   refine hK10 _ _ ?_
   refine rp0 hst8 hfr8 (.cons rfl (zk rfl rfl ⟨by omega, by omega⟩) <| .cons rfl (zD rfl) <| .nil) fun a9 w9 m9 hst9 hle9 hk9 => ?_
   have hfr9 := hk9.fr (.o 1 <| .o 2 <| .o 17 <| .o 18 <| .o 5 <| .n 19 <| .nil)
   clear hst8 hfr8 hk9
   have hst9 := hst9.take 0
   have zq6 := hle8.trans hle9
   have zq7 := hle7.trans zq6
   have zq8 := hle6.trans zq7
   have hlh9 := hlh5.trans zq8
   exact ⟨(y + 1, (a + (nK k x12 : Int))), m9, by show t.kids.length - (y + 1) < t.kids.length - y; omega, ⟨hst9, hlh9, hfr9.sub (.c <| .c <| .c <| .c <| .c <| .c <| .nil), ⟨by show y + 1 ≤ t.kids.length; omega, by show a + (nK k x12 : Int) + ((nKs k (t.kids.drop (y + 1)) : Nat) : Int) = _; omega, by show 0 ≤ a + (nK k x12 : Int); omega⟩⟩⟩
  ·try simp only [nqs] at hb20
   have hge : y = t.kids.length := by omega
   rw [List.drop_of_length_le (by omega), nKs] at ha
   refine zi ?_
   refine hK5 _ _ ?_
   refine zB fun _ hK14 => ?_
   refine zB fun _ hK15 => ?_
   have zq9 := hle5.trans hle6
   have zq10 := hle4.trans zq9
   replace hc2 := hc2.mono zq10
   refine rp0 hst6 hfr6 (.cons rfl (zA (off := 5) rfl underlying46 rfl rfl sizeOf44 rfl) <| .cons rfl (zE rfl hc2 isAgg44 rfl) <| .cons rfl (zb rfl underlying44) <| .cons rfl (zD rfl) <| .nil) fun a7 w7 m7 hst7 hle7 hk7 => ?_
   have hfr7 := hk7.fr (.o 5 <| .o 19 <| .o 1 <| .n 30 <| .n 31 <| .n 32 <| .nil)
   clear hst6 hfr6 hk7
   refine hK15 _ _ ?_
   refine zL ?_
   have zq11 := hle6.trans hle7
   have hlh7 := hlh5.trans zq11
   have hlq16 := hlh7
   refine zg (T := [(19, _), (1, _), (30, _), (31, _)]) (fun (y : Nat × Int) => ([(5, .int .i64 y.2), (32, .int .i64 (y.1 : Int))] : List (Nat × Value))) (fun _ => _) (fun (y : Nat × Int) m => (fun (y : Nat) (b : Int) => (y ≤ t.arms.length) ∧ (b + nAs k (t.arms.drop y) = (nK k t : Int)) ∧ (0 ≤ b)) y.1 y.2) (fun y => t.arms.length - y.1) ((0, a)) ⟨hst7, MLe.refl _, hfr7.sub (.c <| .c <| .c <| .c <| .c <| .c <| .nil), ⟨Nat.zero_le _, by rw [List.drop_zero]; omega, by omega⟩⟩ fun y a8 w8 m8 hh8 => ?_
   have hst8 := hh8.st; have hle8 := hh8.le; have hfr8 := hh8.fr; have hrel := hh8.rel; clear hh8
   clear hst7 hfr7
   obtain ⟨y, b⟩ := y
   dsimp only at hrel hfr8 hst8
   obtain ⟨hyn, hb_, hb0⟩ := hrel
   have hlh8 := hle8
   refine zB fun _ hK17 => ?_
   refine rp0 hst8 hfr8 (.cons rfl (z1 rfl rfl) <| .nil) fun a9 w9 m9 hst9 hle9 hk9 => ?_
   have hfr9 := hk9.fr (.o 5 <| .o 32 <| .o 19 <| .o 1 <| .o 30 <| .o 31 <| .n 33 <| .nil)
   clear hst8 hfr8 hk9
   refine hK17 _ _ ?_
   refine zB fun _ hK18 => ?_
   refine zF hfr9 rfl rfl (fun hb33 => ?_) (fun hb33 => ?_)
   ·try simp only [nqs] at hb33
    refine zJ ?_
    refine hK18 _ _ ?_
    refine zB fun _ hK19 => ?_
    refine zL ?_
    refine zB fun _ hK20 => ?_
    have zq12 := hle8.trans hle9
    have zq13 := hle7.trans zq12
    have zq14 := zq10.trans zq13
    have zq15 := hle3.trans zq14
    replace haa_t := haa_t.mono zq15
    obtain ⟨p21, vs21, x21, ho21, hd21, hm_x21, ht21, hcv21, hl21, hv21⟩ := haa_t.nth (k := y) (by omega)
    cases ho21
    obtain ⟨oV21, cV21, bs21, rfl, hva21, hbd21⟩ := hv21.open_
    have hbv21 := hva21.big; have hcv21_ := hva21.cap
    obtain ⟨⟨oK21b, cK21b, oA21b, cA21b⟩, rfl, ⟨hik21b, hin21b⟩, hkk21b, haa21b⟩ := hbd21.open_
    dsimp only at hkk21b haa21b
    have hbg21b := hkk21b.big; have hcp21b := hkk21b.cap; have hbh21b := haa21b.big; have hcq21b := haa21b.cap
    rw [hd21, zEc] at hb_
    replace hst9 := hst9.more (r := .free) trivial List.nodup_nil (by simp [Res.blocks])
    refine ra0 (tch := [(2, 0, (fun v => .blk v _)), (3, 0, (fun v => .blk v _))]) hst9 hfr9 (.cons rfl (zH (k := y) rfl rfl underlying44 sizeOf78 rfl (by omega)) <| .cons rfl (zN rfl hcv21 isAgg78 sizeOf78 rfl rfl) <| .consT rfl rfl (fun _ => rfl) rfl (zQ zeroValue78 rfl) <| .consT rfl rfl (fun _ => rfl) rfl (zT 9 rfl rfl rfl fun y9 => zc rfl rfl rfl rfl rfl sizeOf78 rfl rfl hv21.one) <| .nil) fun a10 w10 m10 hst10 hle10 hk10 => ?_
    have hfr10 := hk10.fr (.o 5 <| .o 32 <| .o 19 <| .o 1 <| .o 30 <| .o 31 <| .nil)
    obtain ⟨g22, e22, _⟩ := hk10.ex 9 rfl
    replace hfr10 := hfr10.cons e22
    replace hst10 := hst10.fin (L' := [_]) (.cons e22 <| .cons e22 <| .nil)
    try simp only [List.take_succ_cons, List.take_zero, List.drop_succ_cons, List.drop_zero, List.cons_append, List.nil_append, List.append_nil, List.length_cons, List.length_nil, Nat.zero_add, Nat.reduceAdd] at hst10
    clear hst9 hfr9 hk10
    refine hK20 _ _ ?_
    have zq16 := zq15.trans hle10
    replace h_t := h_t.mono zq16
    replace hkk_t := hkk_t.mono zq16
    have zq17 := zq13.trans hle10
    replace hc2 := hc2.mono zq17
    replace haa_t := haa_t.mono hle10
    replace hcv21 := hcv21.mono hle10
    replace hv21 := hv21.mono hle10
    replace hva21 := hva21.mono hle10
    replace hbd21 := hbd21.mono hle10
    replace hkk21b := hkk21b.mono hle10
    replace haa21b := haa21b.mono hle10
    refine rp0 hst10 hfr10 (.cons rfl (zD rfl) <| .cons rfl (zA (off := 3) rfl underlying78 rfl rfl sizeOf46 rfl) <| .cons rfl (Zf (j := 0) rfl rfl isAgg46 sizeOf46 rfl rfl) <| .cons rfl (zD rfl) <| .cons rfl (zd rfl (.cons rfl <| .cons rfl <| .nil) call16 (fun w m hK => by have hle_ := KC.le hK; have hA := KC.agree hK; have h_t := h_t.mono hle_; have hkk_t := hkk_t.mono hle_; have haa_t := haa_t.mono hle_; have hc2 := hc2.mono hle_; have hcv21 := hcv21.mono hle_; have hv21 := hv21.mono hle_; have hva21 := hva21.mono hle_; have hbd21 := hbd21.mono hle_; have hkk21b := hkk21b.mono hle_; have haa21b := haa21b.mono hle_; exact iha _ (by assumption) hA hbd21 (by omega))) <| .cons rfl (zk rfl rfl ⟨by omega, by omega⟩) <| .cons rfl (zC rfl) <| .nil) fun a11 w11 m11 hst11 hle11 hk11 => ?_
    have hfr11 := hk11.fr (.o 32 <| .o 19 <| .o 1 <| .o 30 <| .o 31 <| .n 5 <| .nil)
    clear hst10 hfr10 hk11
    refine hK19 _ _ ?_
    refine rp0 hst11 hfr11 (.cons rfl (zk rfl rfl ⟨by omega, by omega⟩) <| .cons rfl (zD rfl) <| .nil) fun a12 w12 m12 hst12 hle12 hk12 => ?_
    have hfr12 := hk12.fr (.o 19 <| .o 1 <| .o 30 <| .o 31 <| .o 5 <| .n 32 <| .nil)
    clear hst11 hfr11 hk12
    have hst12 := hst12.take 0
    have zq18 := hle11.trans hle12
    have zq19 := hle10.trans zq18
    have zq20 := hle9.trans zq19
    have hlh12 := hlh8.trans zq20
    exact ⟨(y + 1, (b + (nK k x21.body : Int))), m12, by show t.arms.length - (y + 1) < t.arms.length - y; omega, ⟨hst12, hlh12, hfr12.sub (.c <| .c <| .c <| .c <| .c <| .c <| .nil), ⟨by show y + 1 ≤ t.arms.length; omega, by show b + (nK k x21.body : Int) + ((nAs k (t.arms.drop (y + 1)) : Nat) : Int) = _; omega, by show 0 ≤ b + (nK k x21.body : Int); omega⟩⟩⟩
   ·try simp only [nqs] at hb33
    have hge : y = t.arms.length := by omega
    rw [List.drop_of_length_le (by omega), nAs] at hb_
    refine zi ?_
    refine hK14 _ _ ?_
    refine zB fun _ hK23 => ?_
    refine rp0 hst9 hfr9 (.cons rfl (zD rfl) <| .cons rfl (zC rfl) <| .nil) fun a10 w10 m10 hst10 hle10 hk10 => ?_
    have hfr10 := hk10.fr (.o 5 <| .o 32 <| .o 19 <| .n 4 <| .nil)
    clear hst9 hfr9 hk10
    refine hK23 _ _ ?_
    refine zK ?_
    repeat (with_reducible first | refine zI ?_ | refine zG ?_)
    exact zM hst10 hfr10 rfl (.tmp rfl <| .nil) (by refine congrArg (Value.int _) ?_; omega)
 ·have hlj4 : MLe m2 m2 := MLe.refl _
  refine zB fun _ hK25 => ?_
  refine rp0 hst2 hfr2 (.cons rfl (zA (off := 0) rfl underlying46 rfl rfl sizeOf3 rfl) <| .cons rfl (zE rfl hc2 isAgg3 rfl) <| .cons rfl (zD rfl) <| .cons rfl (zY rfl rfl) <| .nil) fun a3 w3 m3 hst3 hle3 hk3 => ?_
  have hfr3 := hk3.fr (.o 1 <| .o 2 <| .o 5 <| .n 13 <| .nil)
  clear hst2 hfr2 hk3
  refine hK25 _ _ ?_
  refine zF hfr3 rfl rfl (fun hb13 => ?_) (fun hb13 => ?_)
  ·try simp only [nqs] at hb13
   refine rp0 hst3 hfr3 (.cons rfl (zD rfl) <| .cons rfl (zk rfl rfl ⟨by omega, by omega⟩) <| .cons rfl (zC rfl) <| .nil) fun a4 w4 m4 hst4 hle4 hk4 => ?_
   have hfr4 := hk4.fr (.o 1 <| .o 2 <| .n 5 <| .nil)
   clear hst3 hfr3 hk4
   repeat (with_reducible first | refine ZB ?_ | refine zz ?_ | refine zo ?_)
   have zq21 := hle3.trans hle4
   replace hlj4 := hlj4.trans zq21
   exact hj4 ((0 + 1)) _ _ _ ⟨hst4, hlj4, hfr4.sub (.c <| .c <| .c <| .nil), by simp [hb13]⟩
  ·try simp only [nqs] at hb13
   refine zJ ?_
   repeat (with_reducible first | refine ZB ?_ | refine zz ?_ | refine zo ?_)
   replace hlj4 := hlj4.trans hle3
   exact hj4 (0) _ _ _ ⟨hst3, hlj4, hfr3.sub (.c <| .c <| .c <| .nil), by simp [hb13]⟩
theorem lcount_c (t : Cd) : zDD t := Cd.rec_ (p := zDD) (fun t ihk iha => lcount_s ihk iha) t
set_option maxHeartbeats 400000 in
theorem rlight_c {w : World} {m : Mem} {t : Tm} {vs_t : List Value} (hA : Agree w m) (h_t : TmR m t vs_t) : FnV Tryd.prog 58 #[.agg vs_t.toArray] w m (fun _ _ v => v = .bool (ZW t)) := by
 obtain ⟨⟨oK_t, cK_t, oA_t, cA_t, oR_t, cR_t, t0_t, t1_t, t2_t, t3_t, t4_t, t5_t, u0_t, u1_t, u2_t, u3_t, u4_t, u5_t⟩, rfl, hon_t, hkk_t, haa_t, hrr_t⟩ := h_t.open_
 dsimp only at hkk_t haa_t hrr_t
 have hbg_t := hkk_t.big; have hcp_t := hkk_t.cap; have hbh_t := haa_t.big; have hcq_t := haa_t.cap
 refine za (vs := [_]) func58 rfl rfl rfl fun a0 hfr0 => ?_
 have hst0 := zX hA (zl [] _ w m)
 have hM : MLe m m := MLe.refl m
 refine zB fun _ hK1 => ?_
 refine rp0 hst0 hfr0 (.cons rfl (zx rfl rfl) <| .cons rfl (zC rfl) <| .nil) fun a1 w1 m1 hst1 hle1 hk1 => ?_
 have hfr1 := hk1.fr (.nil)
 obtain ⟨g2, e2, hc1⟩ := hk1.ex 1 rfl
 replace hfr1 := hfr1.cons e2
 clear hst0 hfr0 hk1
 refine hK1 _ _ ?_
 refine zB fun _ hK3 => ?_
 refine rp0 hst1 hfr1 (.cons rfl (zA (off := 0) rfl underlying33 rfl rfl sizeOf3 rfl) <| .cons rfl (zE rfl hc1 isAgg3 rfl) <| .cons rfl (zY rfl rfl) <| .cons rfl (zD rfl) <| .cons rfl (zA (off := 0) rfl underlying33 rfl rfl sizeOf3 rfl) <| .cons rfl (zE rfl hc1 isAgg3 rfl) <| .cons rfl (zY rfl rfl) <| .cons rfl (zu rfl rfl rfl) <| .cons rfl (zD rfl) <| .cons rfl (zA (off := 0) rfl underlying33 rfl rfl sizeOf3 rfl) <| .cons rfl (zE rfl hc1 isAgg3 rfl) <| .cons rfl (zY rfl rfl) <| .cons rfl (zu rfl rfl rfl) <| .cons rfl (zD rfl) <| .cons rfl (zA (off := 0) rfl underlying33 rfl rfl sizeOf3 rfl) <| .cons rfl (zE rfl hc1 isAgg3 rfl) <| .cons rfl (zY rfl rfl) <| .cons rfl (zu rfl rfl rfl) <| .cons rfl (zD rfl) <| .cons rfl (zA (off := 0) rfl underlying33 rfl rfl sizeOf3 rfl) <| .cons rfl (zE rfl hc1 isAgg3 rfl) <| .cons rfl (zY rfl rfl) <| .cons rfl (zu rfl rfl rfl) <| .cons rfl (zC rfl) <| .nil) fun a2 w2 m2 hst2 hle2 hk2 => ?_
 have hfr2 := hk2.fr (.n 2 <| .nil)
 clear hst1 hfr1 hk2
 refine hK3 _ _ ?_
 refine zK ?_
 repeat (with_reducible first | refine zI ?_ | refine zG ?_)
 exact zM hst2 hfr2 rfl (.tmp rfl <| .nil) (by refine congrArg Value.bool ?_; unfold ZW; simp only [decide_eq_true_eq, Bool.and_eq_true, ← Bool.decide_and, decide_eq_decide, Bool.or_eq_true, ← Bool.decide_or]; omega)
set_option maxHeartbeats 400000 in
theorem rkind_g {w : World} {m : Mem} {sel tl : Bool} {r n : Nat} {t : Tm} {vs_t : List Value} (hA : Agree w m) (hr : (Res.blk (.pointer (some ⟨r, 0, none⟩)) (.cells #[.int .i64 ((n : Nat) : Int), .bool sel, .bool tl] 82)).holds w m) (h_t : TmR m t vs_t) : FnG Tryd.prog 46 #[.pointer (some ⟨r, 0, none⟩), .agg vs_t.toArray] [r] w m (fun w' m' v => Loc [r] w.heap.size [.blk (.pointer (some ⟨r, 0, none⟩)) (.cells #[.int .i64 ((n : Nat) : Int), .bool sel, .bool tl] 82)] w' m' ∧ v = .int .i64 (zAB sel t)) := by
 obtain ⟨⟨oK_t, cK_t, oA_t, cA_t, oR_t, cR_t, t0_t, t1_t, t2_t, t3_t, t4_t, t5_t, u0_t, u1_t, u2_t, u3_t, u4_t, u5_t⟩, rfl, hon_t, hkk_t, haa_t, hrr_t⟩ := h_t.open_
 dsimp only at hkk_t haa_t hrr_t
 have hbg_t := hkk_t.big; have hcp_t := hkk_t.cap; have hbh_t := haa_t.big; have hcq_t := haa_t.cap
 refine za (vs := [_, _]) func46 rfl rfl rfl fun a0 hfr0 => ?_
 have hst0 := zX hA (zAY hr (by simp [Res.blocks, zt]))
 have hM : MLe m m := MLe.refl m
 refine zB fun _ hK1 => ?_
 refine rp0 hst0 hfr0 (.cons rfl (zx rfl rfl) <| .cons rfl (zC rfl) <| .nil) fun a1 w1 m1 hst1 hle1 hk1 => ?_
 have hfr1 := hk1.fr (.o 0 <| .nil)
 obtain ⟨g2, e2, hc3⟩ := hk1.ex 3 rfl
 replace hfr1 := hfr1.cons e2
 replace h_t := h_t.mono hle1
 clear hst0 hfr0 hk1
 refine hK1 _ _ ?_
 refine zB fun _ hK3 => ?_
 refine rp0 hst1 hfr1 (.cons rfl (zN rfl hc3 isAgg33 sizeOf33 rfl rfl) <| .cons rfl (zd rfl (.cons rfl <| .nil) call58 (fun w m hK => by have hle_ := KC.le hK; have hA := KC.agree hK; have h_t := h_t.mono hle_; exact rlight_c (t := t) hA h_t)) <| .cons rfl (zC rfl) <| .nil) fun a2 w2 m2 hst2 hle2 hk2 => ?_
 have hfr2 := hk2.fr (.o 0 <| .o 3 <| .n 5 <| .nil)
 replace h_t := h_t.mono hle2
 replace hc3 := hc3.mono hle2
 clear hst1 hfr1 hk2
 refine hK3 _ _ ?_
 refine zB fun _ hK4 => ?_
 refine rp0 hst2 hfr2 (.cons rfl (zN rfl hc3 isAgg33 sizeOf33 rfl rfl) <| .cons rfl (zd rfl (.cons rfl <| .nil) call59 (fun w m hK => by have hle_ := KC.le hK; have hA := KC.agree hK; have h_t := h_t.mono hle_; exact quiet6_c (t := t) hA h_t)) <| .cons rfl (zC rfl) <| .nil) fun a3 w3 m3 hst3 hle3 hk3 => ?_
 have hfr3 := hk3.fr (.o 0 <| .o 5 <| .n 6 <| .nil)
 clear hst2 hfr2 hk3
 refine hK4 _ _ ?_
 refine zB fun _ hK5 => ?_
 refine zB fun _ hK6 => ?_
 refine rp0 hst3 hfr3 (.cons rfl (zD rfl) <| .cons rfl (zD rfl) <| .cons rfl (zD rfl) <| .cons rfl (Zp rfl) <| .cons rfl (zA (off := 1) rfl underlying82 rfl rfl sizeOf38 rfl) <| .cons rfl (zA (off := 0) rfl underlying38 rfl rfl sizeOf4 rfl) <| .cons rfl (zP (k := 1) (j := 0) rfl rfl isAgg4 rfl) <| .cons rfl (zD rfl) <| .cons rfl (zD rfl) <| .cons rfl (ZP rfl rfl rfl) <| .cons rfl (zu rfl rfl rfl) <| .nil) fun a4 w4 m4 hst4 hle4 hk4 => ?_
 have hfr4 := hk4.fr (.n 21 <| .nil)
 clear hst3 hfr3 hk4
 refine hK6 _ _ ?_
 refine zF hfr4 rfl rfl (fun hb21 => ?_) (fun hb21 => ?_)
 ·try simp only [nqs] at hb21
  refine zB fun _ hK7 => ?_
  refine rp0 hst4 hfr4 (.cons rfl (zC rfl) <| .nil) fun a5 w5 m5 hst5 hle5 hk5 => ?_
  have hfr5 := hk5.fr (.n 4 <| .nil)
  clear hst4 hfr4 hk5
  refine hK7 _ _ ?_
  refine zK ?_
  repeat (with_reducible first | refine zI ?_ | refine zG ?_)
  exact zM hst5 hfr5 rfl (.tmp rfl <| .nil) (⟨(hst5.take 1).loc, by show Value.int .i64 7 = _; unfold zAB; simp_all⟩)
 ·try simp only [nqs] at hb21
  refine zJ ?_
  refine hK5 _ _ ?_
  refine zB fun _ hK9 => ?_
  refine rp0 hst4 hfr4 (.cons rfl (zC rfl) <| .nil) fun a5 w5 m5 hst5 hle5 hk5 => ?_
  have hfr5 := hk5.fr (.n 4 <| .nil)
  clear hst4 hfr4 hk5
  refine hK9 _ _ ?_
  refine zK ?_
  repeat (with_reducible first | refine zI ?_ | refine zG ?_)
  exact zM hst5 hfr5 rfl (.tmp rfl <| .nil) (⟨(hst5.take 1).loc, by show Value.int .i64 8 = _; unfold zAB; cases hs9 : sel <;> cases hl9 : ZW t <;> cases hq9 : zEh t <;> simp_all⟩)
theorem rkind_t {w : World} {m : Mem} {sel tl : Bool} {r n : Nat} {t : Tm} {vs : List Value} (hA : Agree w m) (hr : (Res.blk (.pointer (some ⟨r, 0, none⟩)) (.cells #[.int .i64 ((n : Nat) : Int), .bool sel, .bool tl] 82)).holds w m) (h : TmR m t vs) :
  Calls Tryd.prog 46 #[.pointer (some ⟨r, 0, none⟩), .agg vs.toArray] w fun e w' => ∃ v m', e = .returned v ∧ Touch (Res.blk (.pointer (some ⟨r, 0, none⟩)) (.cells #[.int .i64 ((n : Nat) : Int), .bool sel, .bool tl] 82)) (Res.blk (.pointer (some ⟨r, 0, none⟩)) (.cells #[.int .i64 ((n : Nat) : Int), .bool sel, .bool tl] 82)) w m w' m' ∧ (Kn.eq (.int .i64 (zAB sel t))).holds m' v :=
 Calls.mono (rkind_g hA hr h) fun e w' ⟨v, m', e1, hE, hL, hv⟩ => ⟨v, m', e1, zBQ hE hL, hv⟩
set_option maxHeartbeats 400000 in
theorem numR_c {w : World} {m : Mem} {n : Nat} (hA : Agree w m) (hn : n ≤ 9223372036854775807) : FnV Tryd.prog 60 #[.int .i64 (n : Int)] w m (fun _ _ v => v = S (decDigits n)) := by
 refine za (vs := [_]) func60 rfl rfl rfl fun a0 hfr0 => ?_
 have hst0 := zX hA (zl [] _ w m)
 have hM : MLe m m := MLe.refl m
 refine zB fun _ hK1 => ?_
 refine rp0 hst0 hfr0 (.cons rfl (zC rfl) <| .nil) fun a1 w1 m1 hst1 hle1 hk1 => ?_
 have hfr1 := hk1.fr (.o 0 <| .nil)
 clear hst0 hfr0 hk1
 refine hK1 _ _ ?_
 refine zB fun _ hK2 => ?_
 refine rp0 hst1 hfr1 (.cons rfl (zC rfl) <| .nil) fun a2 w2 m2 hst2 hle2 hk2 => ?_
 have hfr2 := hk2.fr (.o 0 <| .n 3 <| .nil)
 clear hst1 hfr1 hk2
 refine hK2 _ _ ?_
 refine zB fun _ hK3 => ?_
 refine zB fun _ hK4 => ?_
 refine rp0 hst2 hfr2 (.cons rfl (zC rfl) <| .nil) fun a3 w3 m3 hst3 hle3 hk3 => ?_
 have hfr3 := hk3.fr (.o 0 <| .o 3 <| .n 4 <| .nil)
 clear hst2 hfr2 hk3
 refine hK4 _ _ ?_
 refine zL ?_
 refine zg (T := []) (fun (y : Nat × Nat × Str) => ([(0, .int .i64 (y.2.1 : Int)), (3, S y.2.2), (4, .int .i64 (y.1 : Int))] : List (Nat × Value))) (fun _ => _) (fun (y : Nat × Nat × Str) _ => (fun (y q : Nat) (s : Str) => y ≤ 20 ∧ (y = 0 → q = n ∧ s = []) ∧ (0 < y → decDigits n = (if q = 0 then [] else decDigits q) ++ s) ∧ q < 10 ^ (20 - y) ∧ s.length ≤ y ∧ q ≤ n) y.1 y.2.1 y.2.2) (fun y => 20 - y.1) ((0, n, [])) ⟨hst3, MLe.refl _, hfr3.sub (.c <| .c <| .c <| .nil), ⟨Nat.zero_le _, fun _ => ⟨rfl, rfl⟩, fun h => by omega, by show n < 10 ^ 20; omega, Nat.le_refl _, Nat.le_refl _⟩⟩ fun y a4 w4 m4 hh4 => ?_
 have hst4 := hh4.st; have hle4 := hh4.le; have hfr4 := hh4.fr; have hrel := hh4.rel; clear hh4
 clear hst3 hfr3
 obtain ⟨y, q, s⟩ := y
 dsimp only at hrel hfr4
 obtain ⟨hy1, hy2, hy3, hy4, hy5, hy6⟩ := hrel
 have hpw : y < 20 → 10 ^ (20 - y) = 10 * 10 ^ (20 - (y + 1)) := fun h => by rw [show 20 - y = (20 - (y + 1)) + 1 by omega, Nat.pow_succ, Nat.mul_comm]
 have htd : (q : Int).tdiv 10 = ((q / 10 : Nat) : Int) := rfl
 have htm : (q : Int).tmod 10 = ((q % 10 : Nat) : Int) := rfl
 have hdb := @digit_byte (q % 10) (by omega)
 have hds := dec_step q
 have hlh4 := hle4
 refine zB fun _ hK6 => ?_
 refine zB fun _ hK7 => ?_
 refine rp0 hst4 hfr4 (.cons rfl (zD rfl) <| .cons rfl (z1 rfl rfl) <| .cons rfl (zD rfl) <| .cons rfl (zD rfl) <| .cons rfl (zY rfl rfl) <| .cons rfl (zD rfl) <| .cons rfl (zD rfl) <| .cons rfl (zAT rfl rfl) <| .cons rfl (zu rfl rfl rfl) <| .cons rfl (ZP rfl rfl rfl) <| .nil) fun a5 w5 m5 hst5 hle5 hk5 => ?_
 have hfr5 := hk5.fr (.o 0 <| .o 3 <| .o 4 <| .n 14 <| .nil)
 have hlh5 := hlh4.trans hle5
 clear hst4 hfr4 hk5
 refine hK7 _ _ ?_
 refine zF hfr5 rfl rfl (fun hb14 => ?_) (fun hb14 => ?_)
 ·try simp only [nqs] at hb14
  refine zJ ?_
  refine hK6 _ _ ?_
  refine zB fun _ hK8 => ?_
  refine zL ?_
  refine zB fun _ hK9 => ?_
  refine rp0 hst5 hfr5 (.cons rfl (zD rfl) <| .cons rfl (ob_rem rfl rfl (by omega)) <| .cons rfl (zk rfl rfl ⟨by omega, by omega⟩) <| .cons rfl (ob_conv_int rfl underlying3 underlying5) <| .cons rfl (ZK (.cons rfl <| .nil) underlying130 sizeOf5 zeroValue5 rfl rfl rfl rfl) <| .cons rfl (zAS 21 rfl rfl rfl fun y21 => ob_conv_bs (ns := [_]) rfl underlying130 underlying5 underlying9 (fun w m hK => hK.2)) <| .cons rfl (zD rfl) <| .cons rfl (ob_sadd rfl rfl (by first | omega | (simp only [List.length_append, List.length_cons, List.length_nil, List.length_map]; omega))) <| .cons rfl (zC rfl) <| .nil) fun a6 w6 m6 hst6 hle6 hk6 => ?_
  have hfr6 := hk6.fr (.o 0 <| .o 4 <| .n 3 <| .nil)
  have hlh6 := hlh5.trans hle6
  clear hst5 hfr5 hk6
  refine hK9 _ _ ?_
  refine rp0 hst6 hfr6 (.cons rfl (zD rfl) <| .cons rfl (ob_quo rfl rfl (by omega) ⟨by omega, by omega⟩) <| .cons rfl (zC rfl) <| .nil) fun a7 w7 m7 hst7 hle7 hk7 => ?_
  have hfr7 := hk7.fr (.o 4 <| .o 3 <| .n 0 <| .nil)
  have hlh7 := hlh6.trans hle7
  clear hst6 hfr6 hk7
  refine hK8 _ _ ?_
  refine rp0 hst7 hfr7 (.cons rfl (zD rfl) <| .cons rfl (zk rfl rfl ⟨by omega, by omega⟩) <| .cons rfl (zC rfl) <| .nil) fun a8 w8 m8 hst8 hle8 hk8 => ?_
  have hfr8 := hk8.fr (.o 3 <| .o 0 <| .n 4 <| .nil)
  have hlh8 := hlh7.trans hle8
  clear hst7 hfr7 hk8
  have hdb2 : UInt8.ofNat (IntKind.u8.wrap (48 + (q : Int).tmod 10)).toNat = UInt8.ofNat (48 + q % 10) := hdb
  have hnew : decDigits n = (if q / 10 = 0 then [] else decDigits (q / 10)) ++ ([UInt8.ofNat (IntKind.u8.wrap (48 + (q : Int).tmod 10)).toNat] ++ s) := by rw [hdb2, ← List.append_assoc, ← hds]; by_cases h0 : y = 0; (rw [(hy2 h0).1, (hy2 h0).2, List.append_nil]); (rw [hy3 (by omega), if_neg (by omega)])
  exact ⟨(y + 1, q / 10, _), m8, by show 20 - (y + 1) < 20 - y; omega, ⟨hst8, hlh8, hfr8.sub (.c <| .c <| .c <| .nil), ⟨by show y + 1 ≤ 20; omega, fun h => absurd h (Nat.succ_ne_zero y), fun _ => hnew, by have := hpw (by omega); show q / 10 < 10 ^ (20 - (y + 1)); omega, by show (_ ++ s).length ≤ y + 1; simp only [List.length_append, List.map_cons, List.map_nil, List.length_cons, List.length_nil]; omega, by show q / 10 ≤ n; omega⟩⟩⟩
 ·try simp only [nqs] at hb14
  have hq0 : 0 < y ∧ q = 0 := by by_cases h : y = 20; (subst h; exact ⟨by omega, by simpa using hy4⟩); (exact ⟨by omega, by omega⟩)
  refine zi ?_
  refine hK3 _ _ ?_
  refine zB fun _ hK10 => ?_
  refine rp0 hst5 hfr5 (.cons rfl (zD rfl) <| .cons rfl (zC rfl) <| .nil) fun a6 w6 m6 hst6 hle6 hk6 => ?_
  have hfr6 := hk6.fr (.o 0 <| .o 3 <| .o 4 <| .n 2 <| .nil)
  have hlh6 := hlh5.trans hle6
  clear hst5 hfr5 hk6
  refine hK10 _ _ ?_
  refine zK ?_
  repeat (with_reducible first | refine zI ?_ | refine zG ?_)
  exact zM hst6 hfr6 rfl (.tmp rfl <| .nil) (by refine congrArg S ?_; rw [hy3 hq0.1, if_pos hq0.2]; rfl)
set_option maxHeartbeats 1600000 in
theorem raround_c {w : World} {m : Mem} {o_bl : Option Addr} {c_bl : Nat} {bl : List Bd} {c : Cd} {vs_c : List Value} (hA : Agree w m) (h_bl : Bds m o_bl bl.length c_bl bl) (h_c : CdR m c vs_c) : FnV Tryd.prog 49 #[.slice o_bl bl.length c_bl, .agg vs_c.toArray] w m (fun _ m v => (MP.cd (ZX bl c)).p m v) := by
 have hb_bl := h_bl.big; have hc_bl := h_bl.cap
 obtain ⟨⟨oK_c, cK_c, oA_c, cA_c⟩, rfl, ⟨hik_c, hin_c⟩, hkk_c, haa_c⟩ := h_c.open_
 dsimp only at hkk_c haa_c
 have hbg_c := hkk_c.big; have hcp_c := hkk_c.cap; have hbh_c := haa_c.big; have hcq_c := haa_c.cap
 refine za (vs := [_, _]) func49 rfl rfl rfl fun a0 hfr0 => ?_
 have hst0 := zX hA (zl [] _ w m)
 have hM : MLe m m := MLe.refl m
 refine zB fun _ hK1 => ?_
 replace hst0 := hst0.more (r := .free) trivial List.nodup_nil (by simp [Res.blocks])
 replace hst0 := hst0.more (r := .free) trivial List.nodup_nil (by simp [Res.blocks])
 refine ra0 (tch := [(0, 0, (fun v => .blk v _)), (1, 1, (fun v => .blk v _))]) hst0 hfr0 (.consT rfl rfl (fun _ => rfl) rfl (zDy rfl rfl) <| .consT rfl rfl (fun _ => rfl) rfl (zQ zeroValue46 rfl) <| .nil) fun a1 w1 m1 hst1 hle1 hk1 => ?_
 have hfr1 := hk1.fr (.o 0 <| .nil)
 obtain ⟨gC9, e2, _⟩ := hk1.ex 3 rfl
 replace hfr1 := hfr1.cons e2
 obtain ⟨g3, e3, _⟩ := hk1.ex 4 rfl
 replace hfr1 := hfr1.cons e3
 replace hst1 := hst1.fin (L' := [_, _]) (.cons e2 <| .cons e3 <| .nil)
 replace h_bl := h_bl.mono hle1
 replace h_c := h_c.mono hle1
 clear hst0 hfr0 hk1
 refine hK1 _ _ ?_
 refine zB fun _ hK4 => ?_
 refine zB fun _ hK5 => ?_
 refine rp0 hst1 hfr1 (.cons rfl (zD rfl) <| .cons rfl (zb rfl underlying96) <| .cons rfl (zC rfl) <| .nil) fun a2 w2 m2 hst2 hle2 hk2 => ?_
 have hfr2 := hk2.fr (.o 0 <| .o 3 <| .o 4 <| .n 5 <| .nil)
 replace h_bl := h_bl.mono hle2
 replace h_c := h_c.mono hle2
 clear hst1 hfr1 hk2
 refine hK5 _ _ ?_
 refine zL ?_
 rw [show (bl.length : Int) = (bl.length : Int) - ((0 : Nat) : Int) by omega] at hfr2
 refine zg (T := [(0, _), (3, _), (4, _)]) (fun (y : Nat × Cd × CdY) => ([(5, .int .i64 ((bl.length : Int) - (y.1 : Int)))] : List (Nat × Value))) (fun y => [.blk (.pointer (some ⟨gC9, 0, none⟩)) (.cells (cdV y.2.1 y.2.2).toArray 46), _]) (fun (y : Nat × Cd × CdY) m => (fun (y : Nat) (cc : Cd) (cy : CdY) => (y ≤ bl.length) ∧ (ZX bl c = ZX (bl.take (bl.length - y)) cc) ∧ (CdR m cc (cdV cc cy))) y.1 y.2.1 y.2.2) (fun y => bl.length - y.1) ((0, c, _)) ⟨hst2, MLe.refl _, hfr2.sub (.c <| .c <| .c <| .c <| .nil), ⟨Nat.zero_le _, by rw [Nat.sub_zero, List.take_length], h_c⟩⟩ fun y a3 w3 m3 hh3 => ?_
 have hst3 := hh3.st; have hle3 := hh3.le; have hfr3 := hh3.fr; have hrel := hh3.rel; clear hh3
 replace h_bl := h_bl.mono hle3
 clear hst2 hfr2
 obtain ⟨y, cc, cy⟩ := y
 dsimp only at hrel hfr3 hst3
 obtain ⟨hyn, hj9, hcc9⟩ := hrel
 have hlh3 := hle3
 refine zB fun _ hK7 => ?_
 refine zB fun _ hK8 => ?_
 refine rp0 hst3 hfr3 (.cons rfl (zD rfl) <| .cons rfl (zAT rfl rfl) <| .nil) fun a4 w4 m4 hst4 hle4 hk4 => ?_
 have hfr4 := hk4.fr (.o 5 <| .o 0 <| .o 3 <| .o 4 <| .n 10 <| .nil)
 replace h_bl := h_bl.mono hle4
 replace hcc9 := hcc9.mono hle4
 have hlh4 := hlh3.trans hle4
 clear hst3 hfr3 hk4
 refine hK8 _ _ ?_
 refine zF hfr4 rfl rfl (fun hb10 => ?_) (fun hb10 => ?_)
 ·try simp only [nqs] at hb10
  refine zJ ?_
  refine hK7 _ _ ?_
  refine zB fun _ hK9 => ?_
  refine zL ?_
  refine zB fun _ hK10 => ?_
  have hy9 : y < bl.length := by omega
  obtain ⟨p11, vs11, x11, ho11, hd11, hm_x11, ht11, hcv11, hl11, hv11⟩ := h_bl.nth (k := (bl.length - 1 - y)) (by omega)
  cases ho11
  obtain ⟨cs11, rfl, hbc11⟩ := id hv11
  obtain ⟨⟨oK11b, cK11b, oA11b, cA11b⟩, rfl, ⟨hik11b, hin11b⟩, hkk11b, haa11b⟩ := hbc11.open_
  dsimp only at hkk11b haa11b
  have hbg11b := hkk11b.big; have hcp11b := hkk11b.cap; have hbh11b := haa11b.big; have hcq11b := haa11b.cap
  rw [show (bl.length : Int) - (y : Int) = ((bl.length - 1 - y : Nat) : Int) + 1 by omega] at hfr4
  replace hst4 := hst4.more (r := .free) trivial List.nodup_nil (by simp [Res.blocks])
  refine ra0 (tch := [(5, 2, (fun v => .blk v _)), (6, 2, (fun v => .blk v _))]) hst4 hfr4 (.cons rfl (zD rfl) <| .cons rfl (zD rfl) <| .cons rfl (zEG rfl rfl ⟨by omega, by omega⟩) <| .cons rfl (zH (k := (bl.length - 1 - y)) rfl rfl underlying96 sizeOf112 (by omega) (by omega)) <| .cons rfl (zN rfl hcv11 isAgg112 sizeOf112 rfl rfl) <| .consT rfl rfl (fun _ => rfl) rfl (zQ zeroValue112 rfl) <| .consT rfl rfl (fun _ => rfl) rfl (zT 6 rfl rfl rfl fun y6 => zc rfl rfl rfl rfl rfl sizeOf112 rfl rfl hv11.one) <| .nil) fun a5 w5 m5 hst5 hle5 hk5 => ?_
  have hfr5 := hk5.fr (.o 5 <| .o 0 <| .o 3 <| .o 4 <| .nil)
  obtain ⟨g12, e12, _⟩ := hk5.ex 6 rfl
  replace hfr5 := hfr5.cons e12
  replace hst5 := hst5.fin (L' := [_, _, _]) (.cons e12 <| .cons e12 <| .nil)
  try simp only [List.take_succ_cons, List.take_zero, List.drop_succ_cons, List.drop_zero, List.cons_append, List.nil_append, List.append_nil, List.length_cons, List.length_nil, Nat.zero_add, Nat.reduceAdd] at hst5
  clear hst4 hfr4 hk5
  refine hK10 _ _ ?_
  refine zq 8 (by kernel_rfl) ?_
  refine zf (tch := []) hst5 hfr5 (by kernel_rfl) (by kernel_rfl) (by kernel_rfl) (.cons rfl (zA (off := 0) rfl underlying112 rfl rfl sizeOf3 rfl) <| .cons rfl (zP (j := 2) rfl rfl isAgg3 rfl) <| .cons rfl (zA (off := 1) rfl underlying112 rfl rfl sizeOf9 rfl) <| .cons rfl (zP (j := 2) rfl rfl isAgg9 rfl) <| .cons rfl (zA (off := 2) rfl underlying112 rfl rfl sizeOf46 rfl) <| .cons rfl (Zf (j := 2) rfl rfl isAgg46 sizeOf46 rfl rfl) <| .cons rfl (zV (j := 0) rfl rfl isAgg46 sizeOf46 rfl) <| .cons rfl (Zr rfl rfl underlying43 sizeOf46 zeroValue46 rfl rfl rfl rfl rfl) <| .nil) fun a6 w6 m6 hst6 hle6 hk6 => ?_
  have hfr6 := hk6.fr (.o 5 <| .o 0 <| .o 3 <| .o 4 <| .o 6 <| .n 19 <| .n 21 <| .nil)
  obtain ⟨gD9, e13, h25⟩ := hk6.ex 25 rfl
  replace hfr6 := hfr6.cons e13
  clear hst5 hfr5 hk6
  have zq1 := hle5.trans hle6
  replace hcc9 := hcc9.mono zq1
  replace hbc11 := hbc11.mono zq1
  have hnew9 : CdR m6 (cd2 x11.kind x11.name [] x11.code cc) _ := cd2_R (k := x11.kind) (s := x11.name) (p := []) (by exact h25) hbc11 hcc9
  refine zf (tch := [(1, 0, (fun _ => .blk _ _))]) hst6 hfr6 (by kernel_rfl) (by kernel_rfl) (by kernel_rfl) (.cons rfl (zm (cs := cdV (cd2 x11.kind x11.name [] x11.code cc) ⟨some ⟨gD9, 0, none⟩, 2, none, 0⟩) (.cons rfl <| .cons rfl <| .cons rfl <| .nil) underlying46 zeroValue46 (.cons sizeOf3 <| .cons sizeOf9 <| .cons sizeOf9 <| .cons sizeOf3 <| .cons sizeOf43 <| .cons sizeOf44 <| .nil) (rfl)) <| .consT rfl rfl (fun _ => rfl) rfl (zZ rfl rfl rfl sizeOf46 rfl rfl rfl) <| .nil) fun a7 w7 m7 hst7 hle7 hk7 => ?_
  have hfr7 := hk7.fr (.o 5 <| .o 0 <| .o 3 <| .o 4 <| .o 6 <| .o 19 <| .o 21 <| .o 25 <| .nil)
  replace hst7 := hst7.fin (L' := [_, _, _]) (.cons rfl <| .nil)
  try simp only [List.take_succ_cons, List.take_zero, List.drop_succ_cons, List.drop_zero, List.cons_append, List.nil_append, List.append_nil, List.length_cons, List.length_nil, Nat.zero_add, Nat.reduceAdd] at hst7
  clear hst6 hfr6 hk7
  refine hK9 _ _ ?_
  rw [show ((bl.length - 1 - y : Nat) : Int) + 1 = (bl.length : Int) - (y : Int) by omega] at hfr7
  refine rp0 hst7 hfr7 (.cons rfl (zD rfl) <| .cons rfl (zEG rfl rfl ⟨by omega, by omega⟩) <| .cons rfl (zC rfl) <| .nil) fun a8 w8 m8 hst8 hle8 hk8 => ?_
  have hfr8 := hk8.fr (.o 0 <| .o 3 <| .o 4 <| .n 5 <| .nil)
  clear hst7 hfr7 hk8
  rw [show (bl.length : Int) - (y : Int) - 1 = (bl.length : Int) - ((y + 1 : Nat) : Int) by omega] at hfr8
  have hst8 := hst8.take 2
  have zq2 := hle7.trans hle8
  replace hnew9 := hnew9.mono zq2
  have zq3 := zq1.trans zq2
  have hlh8 := hlh4.trans zq3
  exact ⟨(y + 1, (cd2 x11.kind x11.name [] x11.code cc), ⟨some ⟨gD9, 0, none⟩, 2, none, 0⟩), m8, by show bl.length - (y + 1) < bl.length - y; omega, ⟨hst8, hlh8, hfr8.sub (.c <| .c <| .c <| .c <| .nil), ⟨by show y + 1 ≤ bl.length; omega, back_step hj9 (by omega) (zAl hd11), hnew9⟩⟩⟩
 ·try simp only [nqs] at hb10
  have hge : y = bl.length := by omega
  subst hge
  rw [Nat.sub_self, List.take_zero] at hj9
  have hj8 : ZX bl c = cc := hj9
  refine zi ?_
  refine hK4 _ _ ?_
  refine zB fun _ hK14 => ?_
  refine ra0 (tch := [(1, 1, (fun _ => .blk _ _))]) hst4 hfr4 (.cons rfl (zV (j := 0) rfl rfl isAgg46 sizeOf46 rfl) <| .consT rfl rfl (fun _ => rfl) rfl (zZ rfl rfl rfl sizeOf46 rfl rfl rfl) <| .nil) fun a5 w5 m5 hst5 hle5 hk5 => ?_
  have hfr5 := hk5.fr (.o 5 <| .o 4 <| .nil)
  replace hst5 := hst5.fin (L' := [_, _]) (.cons rfl <| .nil)
  try simp only [List.take_succ_cons, List.take_zero, List.drop_succ_cons, List.drop_zero, List.cons_append, List.nil_append, List.append_nil, List.length_cons, List.length_nil, Nat.zero_add, Nat.reduceAdd] at hst5
  clear hst4 hfr4 hk5
  refine hK14 _ _ ?_
  refine zK ?_
  repeat (with_reducible first | refine zI ?_ | refine zG ?_)
  replace hcc9 := hcc9.mono hle5
  exact zM hst5 hfr5 rfl (.cell rfl (zj (zh (hst5.loc.at_ (k := 1) rfl)) isAgg46 sizeOf46) <| .nil) (⟨cy, by rw [hj8]; rfl, by rw [hj8]; exact hcc9⟩)
end Go.Proofs.YtmdhhjmomilhjaaDoor
namespace Go.Proofs.YtmdhhjmomilhjaaDoor
open Go.Proofs.Tryd
set_option linter.all false
set_option maxRecDepth 4000
open Go.RowKit
open Go.Lib (itoa decDigits)
abbrev zBp (f : Nat) : Prop := ∀ {w : World} {m : Mem} {sel tl : Bool} {r n : Nat} {t : Tm} {vs_t : List Value} (hA : Agree w m) (hr : (Res.blk (.pointer (some ⟨r, 0, none⟩)) (.cells #[.int .i64 ((n : Nat) : Int), .bool sel, .bool tl] 82)).holds w m) (h_t : TmR m t vs_t) (hL : LwT t) (hf : zS t ≤ f) (hbk : ZG t ≤ 1000000000) (hnb : n + zS t ≤ 1000000000),
 FnG Tryd.prog 33 #[.pointer (some ⟨r, 0, none⟩), .agg vs_t.toArray] [r] w m (fun w' m' v => Loc [r] w.heap.size [.blk (.pointer (some ⟨r, 0, none⟩)) (.cells #[.int .i64 (((zO sel tl f t n).2 : Nat) : Int), .bool sel, .bool tl] 82)] w' m' ∧ (MP.cd (zO sel tl f t n).1).p m' v)
theorem zAO {f : Nat} (ih : zBp f) {w : World} {m : Mem} {sel tl : Bool} {r n : Nat} {t : Tm} {vs : List Value} (hA : Agree w m) (hr : (Res.blk (.pointer (some ⟨r, 0, none⟩)) (.cells #[.int .i64 ((n : Nat) : Int), .bool sel, .bool tl] 82)).holds w m) (h : TmR m t vs) (hL : LwT t) (hf : zS t ≤ f) (hbk : ZG t ≤ 1000000000) (hnb : n + zS t ≤ 1000000000) :
  Calls Tryd.prog 33 #[.pointer (some ⟨r, 0, none⟩), .agg vs.toArray] w fun e w' => ∃ v m', e = .returned v ∧ Touch (Res.blk (.pointer (some ⟨r, 0, none⟩)) (.cells #[.int .i64 ((n : Nat) : Int), .bool sel, .bool tl] 82)) (Res.blk (.pointer (some ⟨r, 0, none⟩)) (.cells #[.int .i64 (((zO sel tl f t n).2 : Nat) : Int), .bool sel, .bool tl] 82)) w m w' m' ∧ (Kn.ex (MP.cd (zO sel tl f t n).1)).holds m' v :=
 Calls.mono (ih hA hr h hL hf hbk hnb) fun e w' ⟨v, m', e1, hE, hl, hv⟩ => ⟨v, m', e1, zBQ hE hl, hv⟩
set_option maxHeartbeats 3200000 in
theorem rtake_g {w : World} {m : Mem} {sel tl : Bool} {r n : Nat} {o_ks : Option Addr} {c_ks : Nat} {ks : List Tm} {f : Nat} (hA : Agree w m) (hr : (Res.blk (.pointer (some ⟨r, 0, none⟩)) (.cells #[.int .i64 ((n : Nat) : Int), .bool sel, .bool tl] 82)).holds w m) (h_ks : Tms m o_ks ks.length c_ks ks) (ih : zBp f) (hL : ∀ u ∈ ks, LwT u) (hf : ∀ u ∈ ks, zS u ≤ f) (hbk : ∀ u ∈ ks, ZG u ≤ 1000000000) (hnb : n + zR ks ≤ 1000000000) : FnG Tryd.prog 48 #[.pointer (some ⟨r, 0, none⟩), .slice o_ks ks.length c_ks] [r] w m (fun w' m' v => ∃ (o1 : Option Addr) (c1 : Nat) (o2 : Option Addr) (c2 : Nat), v = .tuple #[.slice o2 (Zu sel (zO sel tl f) ks n).length c2, .slice o1 (ZS (zO sel tl f) ks n).length c1] ∧ Cds m' o1 (ZS (zO sel tl f) ks n).length c1 (ZS (zO sel tl f) ks n) ∧ Bds m' o2 (Zu sel (zO sel tl f) ks n).length c2 (Zu sel (zO sel tl f) ks n) ∧ Loc [r] w.heap.size [.blk (.pointer (some ⟨r, 0, none⟩)) (.cells #[.int .i64 ((Zq (zO sel tl f) ks n : Nat) : Int), .bool sel, .bool tl] 82), .free, .rowx (nz (.slice o1 (ZS (zO sel tl f) ks n).length c1)) (ZS (zO sel tl f) ks n).length 6 46 (MP.reads (fun m vs t => CdR m t vs) 6 (ZS (zO sel tl f) ks n))] w' m') := by
 have hb_ks := h_ks.big; have hc_ks := h_ks.cap
 refine za (vs := [_, _]) func48 rfl rfl rfl fun a0 hfr0 => ?_
 have hst0 := zX hA (zAY hr (by simp [Res.blocks, zt]))
 have hM : MLe m m := MLe.refl m
 have hkl9 := Z0 ks
 refine zB fun _ hK1 => ?_
 refine rp0 hst0 hfr0 (.cons rfl (zC rfl) <| .cons rfl (zC rfl) <| .nil) fun a1 w1 m1 hst1 hle1 hk1 => ?_
 have hfr1 := hk1.fr (.o 0 <| .o 1 <| .nil)
 replace h_ks := h_ks.mono hle1
 replace hM := hM.trans hle1
 clear hst0 hfr0 hk1
 refine hK1 _ _ ?_
 refine zB fun _ hK2 => ?_
 refine rp0 hst1 hfr1 (.cons rfl (zC rfl) <| .nil) fun a2 w2 m2 hst2 hle2 hk2 => ?_
 have hfr2 := hk2.fr (.o 0 <| .o 1 <| .n 6 <| .nil)
 replace h_ks := h_ks.mono hle2
 replace hM := hM.trans hle2
 clear hst1 hfr1 hk2
 have hst2 := hst2.more (r := .rowx (.slice none 0 0) 0 8 112 (MP.reads (fun m vs t => BdR m t vs) 8 [])) Zy List.nodup_nil (by simp [Res.blocks, ZA])
 have hsl_B : Bds m2 none ([] : List Bd).length 0 ([] : List Bd) := Sl.empty
 refine hK2 _ _ ?_
 refine zB fun _ hK3 => ?_
 refine rp0 hst2 hfr2 (.cons rfl (zC rfl) <| .nil) fun a3 w3 m3 hst3 hle3 hk3 => ?_
 have hfr3 := hk3.fr (.o 0 <| .o 1 <| .o 6 <| .n 7 <| .nil)
 replace h_ks := h_ks.mono hle3
 replace hsl_B := hsl_B.mono hle3
 replace hM := hM.trans hle3
 clear hst2 hfr2 hk3
 have hst3 := hst3.more (r := .rowx (.slice none 0 0) 0 6 46 (MP.reads (fun m vs t => CdR m t vs) 6 [])) Zy List.nodup_nil (by simp [Res.blocks, ZA])
 have hsl_O : Cds m3 none ([] : List Cd).length 0 ([] : List Cd) := Sl.empty
 refine hK3 _ _ ?_
 refine zB fun _ hK4 => ?_
 refine zB fun _ hK5 => ?_
 refine rp0 hst3 hfr3 (.cons rfl (zC rfl) <| .nil) fun a4 w4 m4 hst4 hle4 hk4 => ?_
 have hfr4 := hk4.fr (.o 0 <| .o 1 <| .o 6 <| .o 7 <| .n 8 <| .nil)
 replace h_ks := h_ks.mono hle4
 replace hsl_B := hsl_B.mono hle4
 replace hsl_O := hsl_O.mono hle4
 replace hM := hM.trans hle4
 clear hst3 hfr3 hk4
 refine hK5 _ _ ?_
 refine zL ?_
 refine zg (T := [(0, _), (1, _)]) (fun (y : Nat × Nat × Option Addr × Nat × List Cd × Option Addr × Nat × List Bd) => ([(6, .slice y.2.2.2.2.2.1 y.2.2.2.2.2.2.2.length y.2.2.2.2.2.2.1), (7, .slice y.2.2.1 y.2.2.2.2.1.length y.2.2.2.1), (8, .int .i64 (y.1 : Int))] : List (Nat × Value))) (fun y => [.blk (.pointer (some ⟨r, 0, none⟩)) (.cells #[.int .i64 ((y.2.1 : Nat) : Int), .bool sel, .bool tl] 82), .rowx (nz (.slice y.2.2.2.2.2.1 y.2.2.2.2.2.2.2.length y.2.2.2.2.2.2.1)) y.2.2.2.2.2.2.2.length 8 112 (MP.reads (fun m vs t => BdR m t vs) 8 y.2.2.2.2.2.2.2), .rowx (nz (.slice y.2.2.1 y.2.2.2.2.1.length y.2.2.2.1)) y.2.2.2.2.1.length 6 46 (MP.reads (fun m vs t => CdR m t vs) 6 y.2.2.2.2.1)]) (fun (y : Nat × Nat × Option Addr × Nat × List Cd × Option Addr × Nat × List Bd) m => (fun (y : Nat) (nq : Nat) (gao : Option Addr) (gap : Nat) (ga : List Cd) (gbo : Option Addr) (gbp : Nat) (gb : List Bd) => (y ≤ ks.length) ∧ (Cds m gao ga.length gap ga) ∧ (ZS (zO sel tl f) ks n = ga ++ ZS (zO sel tl f) (ks.drop y) nq ∧ ga.length ≤ y) ∧ (Bds m gbo gb.length gbp gb) ∧ (Zu sel (zO sel tl f) ks n = gb ++ Zu sel (zO sel tl f) (ks.drop y) nq ∧ gb.length ≤ y) ∧ (Zq (zO sel tl f) ks n = Zq (zO sel tl f) (ks.drop y) nq) ∧ (nq + zR (ks.drop y) ≤ n + zR ks)) y.1 y.2.1 y.2.2.1 y.2.2.2.1 y.2.2.2.2.1 y.2.2.2.2.2.1 y.2.2.2.2.2.2.1 y.2.2.2.2.2.2.2) (fun y => ks.length - y.1) ((0, n, none, 0, ([] : List Cd), none, 0, ([] : List Bd))) ⟨hst4, MLe.refl _, hfr4.sub (.c <| .c <| .c <| .c <| .c <| .nil), ⟨Nat.zero_le _, hsl_O, ⟨rfl, Nat.le_refl _⟩, hsl_B, ⟨rfl, Nat.le_refl _⟩, rfl, Nat.le_refl _⟩⟩ fun y a5 w5 m5 hh5 => ?_
 have hst5 := hh5.st; have hle5 := hh5.le; have hfr5 := hh5.fr; have hrel := hh5.rel; clear hh5
 replace h_ks := h_ks.mono hle5
 replace hsl_B := hsl_B.mono hle5
 replace hsl_O := hsl_O.mono hle5
 clear hst4 hfr4
 replace hM := hM.trans hle5
 obtain ⟨y, nq, gao, gap, ga, gbo, gbp, gb⟩ := y
 dsimp only at hrel hfr5 hst5
 obtain ⟨hyn, hsl_ga, hlen_ga, hsl_gb, hlen_gb, hj1, hj2⟩ := hrel
 have hlh5 := hle5
 refine zB fun _ hK7 => ?_
 refine zB fun _ hK8 => ?_
 refine rp0 hst5 hfr5 (.cons rfl (zD rfl) <| .cons rfl (zD rfl) <| .cons rfl (zb rfl underlying24) <| .cons rfl (z1 rfl rfl) <| .nil) fun a6 w6 m6 hst6 hle6 hk6 => ?_
 have hfr6 := hk6.fr (.o 6 <| .o 7 <| .o 8 <| .o 0 <| .o 1 <| .n 15 <| .nil)
 replace h_ks := h_ks.mono hle6
 replace hsl_B := hsl_B.mono hle6
 replace hsl_O := hsl_O.mono hle6
 replace hsl_ga := hsl_ga.mono hle6
 replace hsl_gb := hsl_gb.mono hle6
 have hlh6 := hlh5.trans hle6
 replace hM := hM.trans hle6
 clear hst5 hfr5 hk6
 refine hK8 _ _ ?_
 refine zF hfr6 rfl rfl (fun hb15 => ?_) (fun hb15 => ?_)
 ·try simp only [nqs] at hb15
  refine zJ ?_
  refine hK7 _ _ ?_
  refine zB fun _ hK9 => ?_
  refine zL ?_
  refine zB fun _ hK10 => ?_
  refine zB fun _ hK11 => ?_
  obtain ⟨p12, vs12, x12, ho12, hd12, hm_x12, ht12, hcv12, hl12, hv12⟩ := h_ks.nth (k := y) (by omega)
  cases ho12
  obtain ⟨⟨oK12, cK12, oA12, cA12, oR12, cR12, t012, t112, t212, t312, t412, t512, u012, u112, u212, u312, u412, u512⟩, rfl, hon12, hkk12, haa12, hrr12⟩ := hv12.open_
  dsimp only at hkk12 haa12 hrr12
  have hbg12 := hkk12.big; have hcp12 := hkk12.cap; have hbh12 := haa12.big; have hcq12 := haa12.cap
  rw [hd12] at hlen_ga hlen_gb hj1 hj2
  rw [ZS] at hlen_ga; rw [Zu] at hlen_gb; rw [Zq] at hj1; rw [zR] at hj2
  have hLx := hL _ hm_x12; have hfx := hf _ hm_x12; have hbx := hbk _ hm_x12
  have hgn := zAJ sel tl f x12 nq hLx hfx
  refine rp0 hst6 hfr6 (.cons rfl (zD rfl) <| .cons rfl (zD rfl) <| .cons rfl (zH (k := y) rfl rfl underlying24 sizeOf33 rfl (by omega)) <| .cons rfl (zN rfl hcv12 isAgg33 sizeOf33 rfl rfl) <| .cons rfl (zd rfl (.cons rfl <| .nil) call58 (fun w m hK => by have hle_ := KC.le hK; have hA := KC.agree hK; have hv12 := hv12.mono hle_; exact rlight_c (t := x12) hA hv12)) <| .nil) fun a7 w7 m7 hst7 hle7 hk7 => ?_
  have hfr7 := hk7.fr (.o 6 <| .o 7 <| .o 8 <| .o 0 <| .o 1 <| .n 22 <| .nil)
  clear hst6 hfr6 hk7
  refine hK11 _ _ ?_
  refine zF hfr7 rfl rfl (fun hb22 => ?_) (fun hb22 => ?_)
  ·try simp only [nqs] at hb22
   have hlx : ZW x12 = true := by simpa using hb22
   have hka : (kidA (zO sel tl f) x12 nq) = ((zO sel tl f) x12 nq).1 := by unfold kidA; rw [hlx]; rfl
   have hkn : (zCP (zO sel tl f) x12 nq) = ((zO sel tl f) x12 nq).2 := by unfold zCP; rw [hlx]; rfl
   have hkb : kidB sel (zO sel tl f) x12 nq = [] := by unfold kidB; rw [hlx]; rfl
   rw [hka, hkn] at hlen_ga; rw [hkb, hkn, List.nil_append] at hlen_gb; rw [hkn] at hj1
   refine zB fun _ hK13 => ?_
   replace hst7 := hst7.more (r := .free) trivial List.nodup_nil (by simp [Res.blocks])
   replace h_ks := h_ks.mono hle7
   replace hsl_B := hsl_B.mono hle7
   replace hsl_O := hsl_O.mono hle7
   replace hsl_ga := hsl_ga.mono hle7
   replace hsl_gb := hsl_gb.mono hle7
   replace hcv12 := hcv12.mono hle7
   replace hv12 := hv12.mono hle7
   replace hkk12 := hkk12.mono hle7
   replace haa12 := haa12.mono hle7
   replace hrr12 := hrr12.mono hle7
   replace hM := hM.trans hle7
   refine ra0 (tch := [(5, 0, (fun _ => .blk (.pointer (some ⟨r, 0, none⟩)) (.cells #[.int .i64 ((((zO sel tl f) x12 (nq)).2 : Nat) : Int), .bool sel, .bool tl] 82))), (6, 3, (fun v => .blk v _)), (7, 3, (fun v => .blkx v _ _))]) hst7 hfr7 (.cons rfl (zD rfl) <| .cons rfl (zD rfl) <| .cons rfl (zD rfl) <| .cons rfl (zH (k := y) rfl rfl underlying24 sizeOf33 rfl (by omega)) <| .cons rfl (zN rfl hcv12 isAgg33 sizeOf33 rfl rfl) <| .consT rfl rfl (fun _ => rfl) rfl (ZF rfl (.cons rfl <| .cons rfl <| .nil) call33 (κ := .ex (MP.cd ((zO sel tl f) x12 (nq)).1)) (fun σ w m hK hr hkn => by have hle_ := KC.le hK; have hA := KC.agree hK; have hM := hM.trans hle_; have h_ks := h_ks.mono hle_; have hsl_B := hsl_B.mono hle_; have hsl_O := hsl_O.mono hle_; have hsl_ga := hsl_ga.mono hle_; have hsl_gb := hsl_gb.mono hle_; have hcv12 := hcv12.mono hle_; have hv12 := hv12.mono hle_; have hkk12 := hkk12.mono hle_; have haa12 := haa12.mono hle_; have hrr12 := hrr12.mono hle_; exact zAO ih hA hr hv12 hLx (by omega) (by omega) (by omega))) <| .consT rfl rfl (fun _ => rfl) rfl (zQ zeroValue46 rfl) <| .consT rfl rfl (fun _ => rfl) rfl (zT 9 rfl rfl rfl fun y9 => ZH 28 rfl rfl rfl fun y28 => ZU rfl rfl rfl rfl rfl sizeOf46 rfl rfl (fun w m hK => hK.2.one)) <| .nil) fun a8 w8 m8 hst8 hle8 hk8 => ?_
   have hfr8 := hk8.fr (.o 6 <| .o 7 <| .o 8 <| .o 0 <| .o 1 <| .nil)
   obtain ⟨y14, e14, hy14⟩ := hk8.ex 28 rfl
   obtain ⟨g15, e15, _⟩ := hk8.ex 9 rfl
   replace hfr8 := hfr8.cons e15
   replace hst8 := hst8.fin (L' := [_, _, _, _]) (.cons e14 <| .cons e15 <| .cons e15 <| .nil)
   try simp only [List.take_succ_cons, List.take_zero, List.drop_succ_cons, List.drop_zero, List.cons_append, List.nil_append, List.append_nil, List.length_cons, List.length_nil, Nat.zero_add, Nat.reduceAdd] at hst8
   obtain ⟨yc, hyc, hst8⟩ := hst8.unx (k := 3) rfl (fun _ => rfl)
   clear hst7 hfr7 hk8
   refine hK13 _ _ ?_
   refine zB fun _ hK17 => ?_
   refine ra0 (tch := [(3, 2, (fun v => .rowx (nz v) _ _ _ _))]) hst8 hfr8 (.cons rfl (zD rfl) <| .cons rfl (zV (j := 3) rfl rfl isAgg46 sizeOf46 rfl) <| .cons rfl (zp rfl underlying43 sizeOf46 zeroValue46 rfl rfl rfl rfl) <| .consT rfl rfl (fun _ => rfl) rfl (zT 31 rfl rfl rfl fun y31 => ZN (size := 6) (bytes := 96) (l := ga) (l' := [((zO sel tl f) x12 nq).1]) rfl rfl (fun _ => by first | exact .inl rfl | exact .inr (.inl rfl)) underlying43 type46 rfl rfl rfl rfl (fun w m hK => Sl.one (R := fun m vs t => CdR m t vs) hK.2 hyc.len (hyc.mono (KC.le hK))) rfl (by decide) (by simp only [maxLen]; omega) (by omega)) <| .consA 32 rfl rfl <| .nil) fun a9 w9 m9 hst9 hle9 hk9 => ?_
   have hfr9 := hk9.fr (.o 6 <| .o 8 <| .o 0 <| .o 1 <| .nil)
   obtain ⟨⟨O_18o, O_18p⟩, e19, hsl_O_18⟩ := hk9.ex 32 rfl
   replace hfr9 := hfr9.cons (hk9.same 7 rfl e19)
   replace hst9 := hst9.fin (L' := [_, _, _, _]) (.cons e19 <| .nil)
   clear hst8 hfr8 hk9
   replace hsl_O_18 : Cds m9 O_18o (ga ++ [((zO sel tl f) x12 nq).1]).length O_18p (ga ++ [((zO sel tl f) x12 nq).1]) := hsl_O_18
   refine hK17 _ _ ?_
   refine zi ?_
   refine hK9 _ _ ?_
   refine rp0 hst9 hfr9 (.cons rfl (zD rfl) <| .cons rfl (zk rfl rfl ⟨by omega, by omega⟩) <| .cons rfl (zC rfl) <| .nil) fun a10 w10 m10 hst10 hle10 hk10 => ?_
   have hfr10 := hk10.fr (.o 6 <| .o 0 <| .o 1 <| .o 7 <| .n 8 <| .nil)
   clear hst9 hfr9 hk10
   have hst10 := hst10.take 3
   have zq1 := hle9.trans hle10
   have zq2 := hle8.trans zq1
   replace hsl_gb := hsl_gb.mono zq2
   replace hsl_O_18 := hsl_O_18.mono hle10
   have zq3 := hle7.trans zq2
   have hlh10 := hlh6.trans zq3
   exact ⟨(y + 1, ((zO sel tl f) x12 nq).2, O_18o, O_18p, (ga ++ [((zO sel tl f) x12 nq).1]), gbo, gbp, gb), m10, by show ks.length - (y + 1) < ks.length - y; omega, ⟨hst10, hlh10, hfr10.sub (.c <| .c <| .c <| .c <| .c <| .nil), ⟨by show y + 1 ≤ ks.length; omega, hsl_O_18, ⟨by rw [hlen_ga.1]; simp, by show (ga ++ [_]).length ≤ y + 1; simp; exact hlen_ga.2⟩, hsl_gb, ⟨by simp [hlen_gb.1], Nat.le_succ_of_le hlen_gb.2⟩, hj1, by show ((zO sel tl f) x12 nq).2 + zR (ks.drop (y + 1)) ≤ n + zR ks; omega⟩⟩⟩
  ·try simp only [nqs] at hb22
   have hlx : ZW x12 = false := by simpa using hb22
   have hka : (kidA (zO sel tl f) x12 nq) = zBJ (ZZ (((zO sel tl f) x12 nq).2 + 1)) := by unfold kidA; rw [hlx]; rfl
   have hkn : (zCP (zO sel tl f) x12 nq) = ((zO sel tl f) x12 nq).2 + 1 := by unfold zCP; rw [hlx]; rfl
   have hkb : kidB sel (zO sel tl f) x12 nq = [⟨zAB sel x12, ZZ (((zO sel tl f) x12 nq).2 + 1), ((zO sel tl f) x12 nq).1⟩] := by unfold kidB; rw [hlx]; rfl
   rw [hka, hkn] at hlen_ga; rw [hkb, hkn] at hlen_gb; rw [hkn] at hj1
   refine zJ ?_
   refine hK10 _ _ ?_
   refine zB fun _ hK20 => ?_
   replace hst7 := hst7.more (r := .free) trivial List.nodup_nil (by simp [Res.blocks])
   replace h_ks := h_ks.mono hle7
   replace hsl_B := hsl_B.mono hle7
   replace hsl_O := hsl_O.mono hle7
   replace hsl_ga := hsl_ga.mono hle7
   replace hsl_gb := hsl_gb.mono hle7
   replace hcv12 := hcv12.mono hle7
   replace hv12 := hv12.mono hle7
   replace hkk12 := hkk12.mono hle7
   replace haa12 := haa12.mono hle7
   replace hrr12 := hrr12.mono hle7
   replace hM := hM.trans hle7
   refine ra0 (tch := [(5, 0, (fun _ => .blk (.pointer (some ⟨r, 0, none⟩)) (.cells #[.int .i64 ((((zO sel tl f) x12 (nq)).2 : Nat) : Int), .bool sel, .bool tl] 82))), (6, 3, (fun v => .blk v _)), (7, 3, (fun v => .blkx v _ _))]) hst7 hfr7 (.cons rfl (zD rfl) <| .cons rfl (zD rfl) <| .cons rfl (zD rfl) <| .cons rfl (zH (k := y) rfl rfl underlying24 sizeOf33 rfl (by omega)) <| .cons rfl (zN rfl hcv12 isAgg33 sizeOf33 rfl rfl) <| .consT rfl rfl (fun _ => rfl) rfl (ZF rfl (.cons rfl <| .cons rfl <| .nil) call33 (κ := .ex (MP.cd ((zO sel tl f) x12 (nq)).1)) (fun σ w m hK hr hkn => by have hle_ := KC.le hK; have hA := KC.agree hK; have hM := hM.trans hle_; have h_ks := h_ks.mono hle_; have hsl_B := hsl_B.mono hle_; have hsl_O := hsl_O.mono hle_; have hsl_ga := hsl_ga.mono hle_; have hsl_gb := hsl_gb.mono hle_; have hcv12 := hcv12.mono hle_; have hv12 := hv12.mono hle_; have hkk12 := hkk12.mono hle_; have haa12 := haa12.mono hle_; have hrr12 := hrr12.mono hle_; exact zAO ih hA hr hv12 hLx (by omega) (by omega) (by omega))) <| .consT rfl rfl (fun _ => rfl) rfl (zQ zeroValue46 rfl) <| .consT rfl rfl (fun _ => rfl) rfl (zT 10 rfl rfl rfl fun y10 => ZH 38 rfl rfl rfl fun y38 => ZU rfl rfl rfl rfl rfl sizeOf46 rfl rfl (fun w m hK => hK.2.one)) <| .nil) fun a8 w8 m8 hst8 hle8 hk8 => ?_
   have hfr8 := hk8.fr (.o 6 <| .o 7 <| .o 8 <| .o 0 <| .o 1 <| .nil)
   obtain ⟨y21, e21, hy21⟩ := hk8.ex 38 rfl
   obtain ⟨g22, e22, _⟩ := hk8.ex 10 rfl
   replace hfr8 := hfr8.cons e22
   replace hst8 := hst8.fin (L' := [_, _, _, _]) (.cons e21 <| .cons e22 <| .cons e22 <| .nil)
   try simp only [List.take_succ_cons, List.take_zero, List.drop_succ_cons, List.drop_zero, List.cons_append, List.nil_append, List.append_nil, List.length_cons, List.length_nil, Nat.zero_add, Nat.reduceAdd] at hst8
   obtain ⟨yc, hyc, hst8⟩ := hst8.unx (k := 3) rfl (fun _ => rfl)
   clear hst7 hfr7 hk8
   refine hK20 _ _ ?_
   refine zB fun _ hK24 => ?_
   refine ra0 (tch := [(7, 0, (fun _ => .blk _ _))]) hst8 hfr8 (.cons rfl (zD rfl) <| .cons rfl (Zp rfl) <| .cons rfl (zA (off := 0) rfl underlying82 rfl rfl sizeOf3 rfl) <| .cons rfl (zP (j := 0) rfl rfl isAgg3 rfl) <| .cons rfl (zk rfl rfl ⟨by omega, by omega⟩) <| .cons rfl (Zp rfl) <| .cons rfl (zA (off := 0) rfl underlying82 rfl rfl sizeOf3 rfl) <| .consT rfl rfl (fun _ => rfl) rfl (zy rfl rfl rfl sizeOf3 rfl rfl rfl) <| .nil) fun a9 w9 m9 hst9 hle9 hk9 => ?_
   have hfr9 := hk9.fr (.o 6 <| .o 7 <| .o 8 <| .o 0 <| .o 1 <| .o 10 <| .nil)
   replace hst9 := hst9.fin (L' := [_, _, _, _]) (.cons rfl <| .nil)
   try simp only [List.take_succ_cons, List.take_zero, List.drop_succ_cons, List.drop_zero, List.cons_append, List.nil_append, List.append_nil, List.length_cons, List.length_nil, Nat.zero_add, Nat.reduceAdd] at hst9
   clear hst8 hfr8 hk9
   rw [show ((((zO sel tl f) x12 nq).2 : Nat) : Int) + 1 = ((((zO sel tl f) x12 nq).2 + 1 : Nat) : Int) by omega] at hst9
   refine hK24 _ _ ?_
   refine zB fun _ hK25 => ?_
   have hit9 : (decDigits (((zO sel tl f) x12 nq).2 + 1)).length ≤ 20 := dec_len20 (by omega)
   refine rp0 hst9 hfr9 (.cons rfl (zD rfl) <| .cons rfl (Zp rfl) <| .cons rfl (zA (off := 0) rfl underlying82 rfl rfl sizeOf3 rfl) <| .cons rfl (zP (j := 0) rfl rfl isAgg3 rfl) <| .cons rfl (zd rfl (.cons rfl <| .nil) call60 (fun w m hK => by have hle_ := KC.le hK; have hA := KC.agree hK; exact numR_c (n := ((zO sel tl f) x12 nq).2 + 1) hA (by omega))) <| .cons rfl (ob_sadd rfl rfl (by first | omega | (simp only [List.length_append, List.length_cons, List.length_nil, List.length_map]; omega))) <| .cons rfl (zC rfl) <| .nil) fun a10 w10 m10 hst10 hle10 hk10 => ?_
   have hfr10 := hk10.fr (.o 6 <| .o 7 <| .o 8 <| .o 0 <| .o 1 <| .o 10 <| .n 11 <| .nil)
   clear hst9 hfr9 hk10
   rw [show [39] ++ decDigits (((zO sel tl f) x12 nq).2 + 1) = ZZ (((zO sel tl f) x12 nq).2 + 1) from rfl] at hfr10
   refine hK25 _ _ ?_
   refine zB fun _ hK26 => ?_
   have zq4 := hle9.trans hle10
   have zq5 := hle8.trans zq4
   replace h_ks := h_ks.mono zq5
   replace hsl_B := hsl_B.mono zq5
   replace hsl_O := hsl_O.mono zq5
   replace hsl_ga := hsl_ga.mono zq5
   replace hsl_gb := hsl_gb.mono zq5
   replace hcv12 := hcv12.mono zq5
   replace hv12 := hv12.mono zq5
   replace hkk12 := hkk12.mono zq5
   replace haa12 := haa12.mono zq5
   replace hrr12 := hrr12.mono zq5
   replace hM := hM.trans zq5
   replace hyc := hyc.mono zq4
   refine ZD (tch := [(6, 0, (fun _ => .blk (.pointer (some ⟨r, 0, none⟩)) (.cells #[.int .i64 ((((zO sel tl f) x12 nq).2 + 1 : Nat) : Int), .bool sel, .bool tl] 82))), (11, 1, (fun v => .rowx (nz v) _ _ _ _))]) (fun _ => mixed) hst10 hfr10 (by kernel_rfl) (by kernel_rfl) (by kernel_rfl) (.cons rfl (zD rfl) <| .cons rfl (zD rfl) <| .cons rfl (zD rfl) <| .cons rfl (zD rfl) <| .cons rfl (zH (k := y) rfl rfl underlying24 sizeOf33 rfl (by omega)) <| .cons rfl (zN rfl hcv12 isAgg33 sizeOf33 rfl rfl) <| .consT rfl rfl (fun _ => rfl) rfl (ZF rfl (.cons rfl <| .cons rfl <| .nil) call46 (κ := .eq (.int .i64 (zAB sel x12))) (fun σ w m hK hr hkn => by have hle_ := KC.le hK; have hA := KC.agree hK; have hM := hM.trans hle_; have h_ks := h_ks.mono hle_; have hsl_B := hsl_B.mono hle_; have hsl_O := hsl_O.mono hle_; have hsl_ga := hsl_ga.mono hle_; have hsl_gb := hsl_gb.mono hle_; have hcv12 := hcv12.mono hle_; have hv12 := hv12.mono hle_; have hkk12 := hkk12.mono hle_; have haa12 := haa12.mono hle_; have hrr12 := hrr12.mono hle_; have hyc := hyc.mono hle_; exact rkind_t hA hr hv12)) <| .cons rfl (zD rfl) <| .cons rfl (zV (j := 3) rfl rfl isAgg46 sizeOf46 rfl) <| .cons rfl (zm (.cons rfl <| .cons rfl <| .cons rfl <| .nil) underlying112 zeroValue112 (.cons sizeOf3 <| .cons sizeOf9 <| .cons sizeOf46 <| .nil) rfl) <| .cons rfl (zp rfl underlying96 sizeOf112 zeroValue112 rfl rfl rfl rfl) <| .consT rfl rfl (fun _ => rfl) rfl (zT 62 rfl rfl rfl fun y62 => ZN (size := 8) (bytes := 120) (l := gb) (l' := [(⟨zAB sel x12, ZZ (((zO sel tl f) x12 nq).2 + 1), ((zO sel tl f) x12 nq).1⟩ : Bd)]) rfl rfl (fun _ => by first | exact .inl rfl | exact .inr (.inl rfl)) underlying96 type112 rfl rfl rfl rfl (fun w m hK => Sl.one (R := fun m vs t => BdR m t vs) hK.2 rfl ⟨_, rfl, hyc.mono (KC.le hK)⟩) rfl (by decide) (by simp only [maxLen]; omega) (by omega)) <| .consA 63 rfl rfl <| .nil) fun a11 w11 m11 hst11 hle11 hk11 => ?_
   have hfr11 := hk11.fr (.o 7 <| .o 8 <| .o 0 <| .o 1 <| .o 11 <| .nil)
   obtain ⟨⟨B_27o, B_27p⟩, e28, hsl_B_27⟩ := hk11.ex 63 rfl
   replace hfr11 := hfr11.cons (hk11.same 6 rfl e28)
   replace hst11 := hst11.fin (L' := [_, _, _, _]) (.cons rfl <| .cons e28 <| .nil)
   clear hst10 hfr10 hk11
   replace hsl_B_27 : Bds m11 B_27o (gb ++ [(⟨zAB sel x12, ZZ (((zO sel tl f) x12 nq).2 + 1), ((zO sel tl f) x12 nq).1⟩ : Bd)]).length B_27p (gb ++ [(⟨zAB sel x12, ZZ (((zO sel tl f) x12 nq).2 + 1), ((zO sel tl f) x12 nq).1⟩ : Bd)]) := hsl_B_27
   refine hK26 _ _ ?_
   have hvr : CdR m11 (zBJ (ZZ (((zO sel tl f) x12 nq).2 + 1))) (cdV (zBJ (ZZ (((zO sel tl f) x12 nq).2 + 1))) ⟨none, 0, none, 0⟩) := CdR.build trivial trivial Sl.empty Sl.empty
   refine ra0 (tch := [(4, 2, (fun v => .rowx (nz v) _ _ _ _))]) hst11 hfr11 (.cons rfl (zD rfl) <| .cons rfl (zD rfl) <| .cons rfl (zm (cs := cdV (zBJ (ZZ (((zO sel tl f) x12 nq).2 + 1))) ⟨none, 0, none, 0⟩) (.cons rfl <| .cons rfl <| .nil) underlying46 zeroValue46 (.cons sizeOf3 <| .cons sizeOf9 <| .cons sizeOf9 <| .cons sizeOf3 <| .cons sizeOf43 <| .cons sizeOf44 <| .nil) (rfl)) <| .cons rfl (zp rfl underlying43 sizeOf46 zeroValue46 rfl rfl rfl rfl) <| .consT rfl rfl (fun _ => rfl) rfl (zT 67 rfl rfl rfl fun y67 => ZN (size := 6) (bytes := 96) (l := ga) (l' := [zBJ (ZZ (((zO sel tl f) x12 nq).2 + 1))]) rfl rfl (fun _ => by first | exact .inl rfl | exact .inr (.inl rfl)) underlying43 type46 rfl rfl rfl rfl (fun w m hK => Sl.one (R := fun m vs t => CdR m t vs) hK.2 rfl (hvr.mono (KC.le hK))) rfl (by decide) (by simp only [maxLen]; omega) (by omega)) <| .consA 68 rfl rfl <| .nil) fun a12 w12 m12 hst12 hle12 hk12 => ?_
   have hfr12 := hk12.fr (.o 8 <| .o 0 <| .o 1 <| .o 6 <| .nil)
   obtain ⟨⟨O_29o, O_29p⟩, e30, hsl_O_29⟩ := hk12.ex 68 rfl
   replace hfr12 := hfr12.cons (hk12.same 7 rfl e30)
   replace hst12 := hst12.fin (L' := [_, _, _, _]) (.cons e30 <| .nil)
   clear hst11 hfr11 hk12
   replace hsl_O_29 : Cds m12 O_29o (ga ++ [zBJ (ZZ (((zO sel tl f) x12 nq).2 + 1))]).length O_29p (ga ++ [zBJ (ZZ (((zO sel tl f) x12 nq).2 + 1))]) := hsl_O_29
   refine hK9 _ _ ?_
   refine rp0 hst12 hfr12 (.cons rfl (zD rfl) <| .cons rfl (zk rfl rfl ⟨by omega, by omega⟩) <| .cons rfl (zC rfl) <| .nil) fun a13 w13 m13 hst13 hle13 hk13 => ?_
   have hfr13 := hk13.fr (.o 0 <| .o 1 <| .o 6 <| .o 7 <| .n 8 <| .nil)
   clear hst12 hfr12 hk13
   have hst13 := hst13.take 3
   have zq6 := hle12.trans hle13
   replace hsl_B_27 := hsl_B_27.mono zq6
   replace hsl_O_29 := hsl_O_29.mono hle13
   have zq7 := hle11.trans zq6
   have zq8 := zq5.trans zq7
   have zq9 := hle7.trans zq8
   have hlh13 := hlh6.trans zq9
   exact ⟨(y + 1, (((zO sel tl f) x12 nq).2 + 1), O_29o, O_29p, (ga ++ [zBJ (ZZ (((zO sel tl f) x12 nq).2 + 1))]), B_27o, B_27p, (gb ++ [(⟨zAB sel x12, ZZ (((zO sel tl f) x12 nq).2 + 1), ((zO sel tl f) x12 nq).1⟩ : Bd)])), m13, by show ks.length - (y + 1) < ks.length - y; omega, ⟨hst13, hlh13, hfr13.sub (.c <| .c <| .c <| .c <| .c <| .nil), ⟨by show y + 1 ≤ ks.length; omega, hsl_O_29, ⟨by rw [hlen_ga.1]; simp, by show (ga ++ [_]).length ≤ y + 1; simp; exact hlen_ga.2⟩, hsl_B_27, ⟨by simp [hlen_gb.1], by show (gb ++ [_]).length ≤ y + 1; simp; exact hlen_gb.2⟩, hj1, by show (((zO sel tl f) x12 nq).2 + 1) + zR (ks.drop (y + 1)) ≤ n + zR ks; omega⟩⟩⟩
 ·try simp only [nqs] at hb15
  have hge : y = ks.length := by omega
  rw [List.drop_of_length_le (by omega)] at hlen_ga hlen_gb hj1
  rw [ZS, List.append_nil] at hlen_ga
  rw [Zu, List.append_nil] at hlen_gb
  rw [Zq] at hj1
  refine zi ?_
  refine hK4 _ _ ?_
  refine zB fun _ hK31 => ?_
  refine rp0 hst6 hfr6 (.cons rfl (zD rfl) <| .cons rfl (zD rfl) <| .cons rfl (zC rfl) <| .cons rfl (zC rfl) <| .nil) fun a7 w7 m7 hst7 hle7 hk7 => ?_
  have hfr7 := hk7.fr (.o 6 <| .o 7 <| .o 8 <| .n 4 <| .n 5 <| .nil)
  clear hst6 hfr6 hk7
  refine hK31 _ _ ?_
  refine zK ?_
  repeat (with_reducible first | refine zI ?_ | refine zG ?_)
  replace hsl_ga := hsl_ga.mono hle7
  replace hsl_gb := hsl_gb.mono hle7
  exact zM hst7 hfr7 rfl (.tmp rfl <| .tmp rfl <| .nil) (⟨_, _, _, _, by rw [hlen_ga.1, hlen_gb.1]; rfl, by rw [hlen_ga.1]; exact hsl_ga, by rw [hlen_gb.1]; exact hsl_gb, by rw [hlen_ga.1, hj1]; exact ((hst7.take 3).drop_ 1 rfl).loc⟩)
theorem rtake_r {f : Nat} (ih : zBp f) {w : World} {m : Mem} {sel tl : Bool} {r n : Nat} {ks : List Tm} {o : Option Addr} {k c : Nat} (hA : Agree w m) (hr : (Res.blk (.pointer (some ⟨r, 0, none⟩)) (.cells #[.int .i64 ((n : Nat) : Int), .bool sel, .bool tl] 82)).holds w m) (h : Tms m o k c ks) (hL : ∀ u ∈ ks, LwT u) (hf : ∀ u ∈ ks, zS u ≤ f) (hbk : ∀ u ∈ ks, ZG u ≤ 1000000000) (hnb : n + zR ks ≤ 1000000000) :
  FnR Tryd.prog 48 #[.pointer (some ⟨r, 0, none⟩), .slice o k c] [.blk (.pointer (some ⟨r, 0, none⟩)) (.cells #[.int .i64 ((n : Nat) : Int), .bool sel, .bool tl] 82)] w m (fun rs' m' v => ∃ (o1 : Option Addr) (c1 : Nat) (o2 : Option Addr) (c2 : Nat), rs' = [.blk (.pointer (some ⟨r, 0, none⟩)) (.cells #[.int .i64 ((Zq (zO sel tl f) ks n : Nat) : Int), .bool sel, .bool tl] 82), .free, .rowx (nz (.slice o1 (ZS (zO sel tl f) ks n).length c1)) (ZS (zO sel tl f) ks n).length 6 46 (MP.reads (fun m vs t => CdR m t vs) 6 (ZS (zO sel tl f) ks n))] ∧ v = .tuple #[.slice o2 (Zu sel (zO sel tl f) ks n).length c2, .slice o1 (ZS (zO sel tl f) ks n).length c1] ∧ Cds m' o1 (ZS (zO sel tl f) ks n).length c1 (ZS (zO sel tl f) ks n) ∧ Bds m' o2 (Zu sel (zO sel tl f) ks n).length c2 (Zu sel (zO sel tl f) ks n)) := by
 obtain rfl := h.len
 exact FnG.mono (rtake_g hA hr h ih hL hf hbk hnb) fun w' m' v hE ⟨o1, c1, o2, c2, e, h1, h2, h3⟩ => ⟨_, h3, o1, c1, o2, c2, rfl, e, h1, h2⟩
set_option maxHeartbeats 3200000 in
theorem rprompt_g {w : World} {m : Mem} {sel tl : Bool} {r n : Nat} {t : Tm} {vs_t : List Value} {f : Nat} (hA : Agree w m) (hr : (Res.blk (.pointer (some ⟨r, 0, none⟩)) (.cells #[.int .i64 ((n : Nat) : Int), .bool sel, .bool tl] 82)).holds w m) (h_t : TmR m t vs_t) (ih : zBp f) (hk14 : t.kind = 14) (hL : LwT t) (hf : zS t ≤ f + 1) (hbk : ZG t ≤ 1000000000) (hnb : n + zS t ≤ 1000000000) : FnG Tryd.prog 47 #[.pointer (some ⟨r, 0, none⟩), .agg vs_t.toArray] [r] w m (fun w' m' v => Loc [r] w.heap.size [.blk (.pointer (some ⟨r, 0, none⟩)) (.cells #[.int .i64 (((ZT sel tl (zO sel tl f) t n).2 : Nat) : Int), .bool sel, .bool tl] 82)] w' m' ∧ (MP.cd (ZT sel tl (zO sel tl f) t n).1).p m' v) := by
 obtain ⟨⟨oK_t, cK_t, oA_t, cA_t, oR_t, cR_t, t0_t, t1_t, t2_t, t3_t, t4_t, t5_t, u0_t, u1_t, u2_t, u3_t, u4_t, u5_t⟩, rfl, hon_t, hkk_t, haa_t, hrr_t⟩ := h_t.open_
 dsimp only at hkk_t haa_t hrr_t
 have hbg_t := hkk_t.big; have hcp_t := hkk_t.cap; have hbh_t := haa_t.big; have hcq_t := haa_t.cap
 refine za (vs := [_, _]) func47 rfl rfl rfl fun a0 hfr0 => ?_
 have hst0 := zX hA (zAY hr (by simp [Res.blocks, zt]))
 have hM : MLe m m := MLe.refl m
 have hce := z7 t
 have hbe := Zm t
 have hln := hL.here.lens
 have hal9 := Z9 t.arms
 refine zB fun _ hK1 => ?_
 replace hst0 := hst0.more (r := .free) trivial List.nodup_nil (by simp [Res.blocks])
 refine ra0 (tch := [(1, 1, (fun v => .blk v _))]) hst0 hfr0 (.cons rfl (zx rfl rfl) <| .consT rfl rfl (fun _ => rfl) rfl (zQ zeroValue46 rfl) <| .nil) fun a1 w1 m1 hst1 hle1 hk1 => ?_
 have hfr1 := hk1.fr (.o 0 <| .nil)
 obtain ⟨g2, e2, hc3⟩ := hk1.ex 3 rfl
 replace hfr1 := hfr1.cons e2
 obtain ⟨g3, e3, _⟩ := hk1.ex 4 rfl
 replace hfr1 := hfr1.cons e3
 replace hst1 := hst1.fin (L' := [_, _]) (.cons e3 <| .nil)
 replace h_t := h_t.mono hle1
 replace hkk_t := hkk_t.mono hle1
 replace haa_t := haa_t.mono hle1
 replace hrr_t := hrr_t.mono hle1
 replace hM := hM.trans hle1
 clear hst0 hfr0 hk1
 refine hK1 _ _ ?_
 refine zB fun _ hK4 => ?_
 obtain ⟨p5, vs5, x5, ho5, hd5, hm_x5, ht5, hcv5, hl5, hv5⟩ := hkk_t.nth (k := 0) (by omega)
 cases ho5
 obtain ⟨⟨oK5, cK5, oA5, cA5, oR5, cR5, t05, t15, t25, t35, t45, t55, u05, u15, u25, u35, u45, u55⟩, rfl, hon5, hkk5, haa5, hrr5⟩ := hv5.open_
 dsimp only at hkk5 haa5 hrr5
 have hbg5 := hkk5.big; have hcp5 := hkk5.cap; have hbh5 := haa5.big; have hcq5 := haa5.cap
 have hk0 : kid t 0 = x5 := ZM hd5
 have hca := z6 hm_x5; have hba := ZO hm_x5
 have hga := zAJ sel tl f x5 n (hL.kid hm_x5) (by omega)
 replace hst1 := hst1.more (r := .free) trivial List.nodup_nil (by simp [Res.blocks])
 refine ra0 (tch := [(5, 0, (fun _ => .blk (.pointer (some ⟨r, 0, none⟩)) (.cells #[.int .i64 ((((zO sel tl f) x5 (n)).2 : Nat) : Int), .bool sel, .bool tl] 82))), (6, 2, (fun v => .blk v _)), (7, 2, (fun v => .blkx v _ _))]) hst1 hfr1 (.cons rfl (zD rfl) <| .cons rfl (zA (off := 5) rfl underlying33 rfl rfl sizeOf24 rfl) <| .cons rfl (zE rfl hc3 isAgg24 rfl) <| .cons rfl (zH (k := 0) rfl rfl underlying24 sizeOf33 rfl (by omega)) <| .cons rfl (zN rfl hcv5 isAgg33 sizeOf33 rfl rfl) <| .consT rfl rfl (fun _ => rfl) rfl (ZF rfl (.cons rfl <| .cons rfl <| .nil) call33 (κ := .ex (MP.cd ((zO sel tl f) x5 (n)).1)) (fun σ w m hK hr hkn => by have hle_ := KC.le hK; have hA := KC.agree hK; have hM := hM.trans hle_; have h_t := h_t.mono hle_; have hkk_t := hkk_t.mono hle_; have haa_t := haa_t.mono hle_; have hrr_t := hrr_t.mono hle_; have hc3 := hc3.mono hle_; have hcv5 := hcv5.mono hle_; have hv5 := hv5.mono hle_; have hkk5 := hkk5.mono hle_; have haa5 := haa5.mono hle_; have hrr5 := hrr5.mono hle_; exact zAO ih hA hr hv5 (hL.kid hm_x5) (by omega) (by omega) (by omega))) <| .consT rfl rfl (fun _ => rfl) rfl (zQ zeroValue46 rfl) <| .consT rfl rfl (fun _ => rfl) rfl (zT 5 rfl rfl rfl fun y5 => ZH 18 rfl rfl rfl fun y18 => ZU rfl rfl rfl rfl rfl sizeOf46 rfl rfl (fun w m hK => hK.2.one)) <| .nil) fun a2 w2 m2 hst2 hle2 hk2 => ?_
 have hfr2 := hk2.fr (.o 0 <| .o 3 <| .o 4 <| .nil)
 obtain ⟨y6, e6, hy6⟩ := hk2.ex 18 rfl
 obtain ⟨g7, e7, _⟩ := hk2.ex 5 rfl
 replace hfr2 := hfr2.cons e7
 replace hst2 := hst2.fin (L' := [_, _, _]) (.cons e6 <| .cons e7 <| .cons e7 <| .nil)
 try simp only [List.take_succ_cons, List.take_zero, List.drop_succ_cons, List.drop_zero, List.cons_append, List.nil_append, List.append_nil, List.length_cons, List.length_nil, Nat.zero_add, Nat.reduceAdd] at hst2
 obtain ⟨ya9, hya9, hst2⟩ := hst2.unx (k := 2) rfl (fun _ => rfl)
 replace h_t := h_t.mono hle2
 replace hkk_t := hkk_t.mono hle2
 replace haa_t := haa_t.mono hle2
 replace hrr_t := hrr_t.mono hle2
 replace hc3 := hc3.mono hle2
 replace hcv5 := hcv5.mono hle2
 replace hv5 := hv5.mono hle2
 replace hkk5 := hkk5.mono hle2
 replace haa5 := haa5.mono hle2
 replace hrr5 := hrr5.mono hle2
 replace hM := hM.trans hle2
 clear hst1 hfr1 hk2
 refine hK4 _ _ ?_
 refine zB fun _ hK9 => ?_
 replace hst2 := hst2.more (r := .free) trivial List.nodup_nil (by simp [Res.blocks])
 refine ra0 (tch := [(5, 3, (fun v => .blk v _)), (6, 3, (fun v => .blkx v _ _))]) hst2 hfr2 (.cons rfl (zA (off := 2) rfl underlying33 rfl rfl sizeOf9 rfl) <| .cons rfl (zE rfl hc3 isAgg9 rfl) <| .cons rfl (zV (j := 2) rfl rfl isAgg46 sizeOf46 rfl) <| .cons rfl (zp rfl underlying43 sizeOf46 zeroValue46 rfl rfl rfl rfl) <| .cons rfl (zv 22 rfl rfl rfl fun y22 => zm (.cons rfl <| .cons rfl <| .cons rfl <| .nil) underlying46 zeroValue46 (.cons sizeOf3 <| .cons sizeOf9 <| .cons sizeOf9 <| .cons sizeOf3 <| .cons sizeOf43 <| .cons sizeOf44 <| .nil) rfl) <| .consT rfl rfl (fun _ => rfl) rfl (zQ zeroValue46 rfl) <| .consT rfl rfl (fun _ => rfl) rfl (zT 6 rfl rfl rfl fun y6 => ZH 23 rfl rfl rfl fun y23 => zc rfl rfl rfl rfl rfl sizeOf46 rfl rfl rfl) <| .nil) fun a3 w3 m3 hst3 hle3 hk3 => ?_
 have hfr3 := hk3.fr (.o 0 <| .o 3 <| .o 4 <| .nil)
 obtain ⟨g6, e10, _⟩ := hk3.ex 6 rfl
 replace hfr3 := hfr3.cons e10
 replace hst3 := hst3.fin (L' := [_, _, _, _]) (.cons e10 <| .cons e10 <| .nil)
 try simp only [List.take_succ_cons, List.take_zero, List.drop_succ_cons, List.drop_zero, List.cons_append, List.nil_append, List.append_nil, List.length_cons, List.length_nil, Nat.zero_add, Nat.reduceAdd] at hst3
 obtain ⟨ga9, hga9, hst3⟩ := hst3.unx (k := 3) rfl (fun _ => rfl)
 replace h_t := h_t.mono hle3
 replace hkk_t := hkk_t.mono hle3
 replace haa_t := haa_t.mono hle3
 replace hrr_t := hrr_t.mono hle3
 replace hc3 := hc3.mono hle3
 replace hcv5 := hcv5.mono hle3
 replace hv5 := hv5.mono hle3
 replace hkk5 := hkk5.mono hle3
 replace haa5 := haa5.mono hle3
 replace hrr5 := hrr5.mono hle3
 replace hya9 := hya9.mono hle3
 replace hM := hM.trans hle3
 clear hst2 hfr2 hk3
 have hst3 := hst3.more (r := .rowx (.slice none 0 0) 0 9 78 (MP.reads (fun m vs t => CaR m t vs) 9 [])) Zy List.nodup_nil (by simp [Res.blocks, ZA])
 have hsl_ar : Cas m3 none ([] : List Ca).length 0 ([] : List Ca) := Sl.empty
 refine hK9 _ _ ?_
 refine zB fun _ hK12 => ?_
 refine zB fun _ hK13 => ?_
 refine rp0 hst3 hfr3 (.cons rfl (zC rfl) <| .nil) fun a4 w4 m4 hst4 hle4 hk4 => ?_
 have hfr4 := hk4.fr (.o 0 <| .o 3 <| .o 4 <| .o 6 <| .n 7 <| .nil)
 replace h_t := h_t.mono hle4
 replace hkk_t := hkk_t.mono hle4
 replace haa_t := haa_t.mono hle4
 replace hrr_t := hrr_t.mono hle4
 replace hc3 := hc3.mono hle4
 replace hcv5 := hcv5.mono hle4
 replace hv5 := hv5.mono hle4
 replace hkk5 := hkk5.mono hle4
 replace haa5 := haa5.mono hle4
 replace hrr5 := hrr5.mono hle4
 replace hya9 := hya9.mono hle4
 replace hga9 := hga9.mono hle4
 replace hsl_ar := hsl_ar.mono hle4
 replace hM := hM.trans hle4
 clear hst3 hfr3 hk4
 refine hK13 _ _ ?_
 refine zL ?_
 refine zg (T := [(0, _), (3, _), (4, _), (6, _)]) (fun (y : Nat × Nat × Option Addr × Nat × List Ca) => ([(7, .int .i64 (y.1 : Int))] : List (Nat × Value))) (fun y => [.blk (.pointer (some ⟨r, 0, none⟩)) (.cells #[.int .i64 ((y.2.1 : Nat) : Int), .bool sel, .bool tl] 82), _, _, .blk (.pointer (some ⟨g6, 0, none⟩)) (.cells (cdV (promptC t ((zO sel tl f) x5 n).1 y.2.2.2.2) ⟨some ⟨ga9, 0, none⟩, 1, y.2.2.1, y.2.2.2.1⟩).toArray 46), .rowx (nz (.slice y.2.2.1 y.2.2.2.2.length y.2.2.2.1)) y.2.2.2.2.length 9 78 (MP.reads (fun m vs t => CaR m t vs) 9 y.2.2.2.2)]) (fun (y : Nat × Nat × Option Addr × Nat × List Ca) m => (fun (y : Nat) (nq : Nat) (gao : Option Addr) (gap : Nat) (ga : List Ca) => (y ≤ t.arms.length) ∧ (Cas m gao ga.length gap ga) ∧ (zCc tl (zO sel tl f) 0 t.arms ((zO sel tl f) x5 n).2 = ga ++ zCc tl (zO sel tl f) y (t.arms.drop y) nq ∧ ga.length = y) ∧ (zDI tl (zO sel tl f) 0 t.arms ((zO sel tl f) x5 n).2 = zDI tl (zO sel tl f) y (t.arms.drop y) nq) ∧ (nq + zr (t.arms.drop y) ≤ ((zO sel tl f) x5 n).2 + zr t.arms)) y.1 y.2.1 y.2.2.1 y.2.2.2.1 y.2.2.2.2) (fun y => t.arms.length - y.1) ((0, ((zO sel tl f) x5 n).2, none, 0, ([] : List Ca))) ⟨hst4, MLe.refl _, hfr4.sub (.c <| .c <| .c <| .c <| .c <| .nil), ⟨Nat.zero_le _, hsl_ar, ⟨rfl, rfl⟩, rfl, Nat.le_refl _⟩⟩ fun y a5 w5 m5 hh5 => ?_
 have hst5 := hh5.st; have hle5 := hh5.le; have hfr5 := hh5.fr; have hrel := hh5.rel; clear hh5
 replace h_t := h_t.mono hle5
 replace hkk_t := hkk_t.mono hle5
 replace haa_t := haa_t.mono hle5
 replace hrr_t := hrr_t.mono hle5
 replace hc3 := hc3.mono hle5
 replace hcv5 := hcv5.mono hle5
 replace hv5 := hv5.mono hle5
 replace hkk5 := hkk5.mono hle5
 replace haa5 := haa5.mono hle5
 replace hrr5 := hrr5.mono hle5
 replace hya9 := hya9.mono hle5
 replace hga9 := hga9.mono hle5
 replace hsl_ar := hsl_ar.mono hle5
 clear hst4 hfr4
 replace hM := hM.trans hle5
 obtain ⟨y, nq, gao, gap, ga⟩ := y
 dsimp only at hrel hfr5 hst5
 obtain ⟨hyn, hsl_ga, hlen_ga, hj1, hj2⟩ := hrel
 have hlh5 := hle5
 refine zB fun _ hK15 => ?_
 refine zB fun _ hK16 => ?_
 refine rp0 hst5 hfr5 (.cons rfl (zD rfl) <| .cons rfl (zA (off := 6) rfl underlying33 rfl rfl sizeOf25 rfl) <| .cons rfl (zE rfl hc3 isAgg25 rfl) <| .cons rfl (zb rfl underlying25) <| .cons rfl (z1 rfl rfl) <| .nil) fun a6 w6 m6 hst6 hle6 hk6 => ?_
 have hfr6 := hk6.fr (.o 7 <| .o 0 <| .o 3 <| .o 4 <| .o 6 <| .n 28 <| .nil)
 replace h_t := h_t.mono hle6
 replace hkk_t := hkk_t.mono hle6
 replace haa_t := haa_t.mono hle6
 replace hrr_t := hrr_t.mono hle6
 replace hc3 := hc3.mono hle6
 replace hcv5 := hcv5.mono hle6
 replace hv5 := hv5.mono hle6
 replace hkk5 := hkk5.mono hle6
 replace haa5 := haa5.mono hle6
 replace hrr5 := hrr5.mono hle6
 replace hya9 := hya9.mono hle6
 replace hga9 := hga9.mono hle6
 replace hsl_ar := hsl_ar.mono hle6
 replace hsl_ga := hsl_ga.mono hle6
 have hlh6 := hlh5.trans hle6
 replace hM := hM.trans hle6
 clear hst5 hfr5 hk6
 refine hK16 _ _ ?_
 refine zF hfr6 rfl rfl (fun hb28 => ?_) (fun hb28 => ?_)
 ·try simp only [nqs] at hb28
  refine zJ ?_
  refine hK15 _ _ ?_
  refine zB fun _ hK17 => ?_
  refine zL ?_
  refine zB fun _ hK18 => ?_
  obtain ⟨p19, vs19, x19, ho19, hd19, hm_x19, ht19, hcv19, hl19, hv19⟩ := haa_t.nth (k := y) (by omega)
  cases ho19
  obtain ⟨oV19, cV19, bs19, rfl, hva19, hbd19⟩ := hv19.open_
  have hbv19 := hva19.big; have hcv19_ := hva19.cap
  obtain ⟨⟨oK19b, cK19b, oA19b, cA19b, oR19b, cR19b, t019b, t119b, t219b, t319b, t419b, t519b, u019b, u119b, u219b, u319b, u419b, u519b⟩, rfl, hon19b, hkk19b, haa19b, hrr19b⟩ := hbd19.open_
  dsimp only at hkk19b haa19b hrr19b
  have hbg19b := hkk19b.big; have hcp19b := hkk19b.cap; have hbh19b := haa19b.big; have hcq19b := haa19b.cap
  rw [hd19] at hlen_ga hj1 hj2
  rw [zCc] at hlen_ga; rw [zDI] at hj1; rw [z8] at hj2
  have hLa := hL.arm hm_x19; have hcx := Zs hm_x19; have hbx := zAq hm_x19; have hsl9 := zDr x19.vars
  have hpl := zDw (tl := tl) (i := y) hLa
  have hgn := zAJ sel tl f (Ze tl y x19) nq hpl.1 (by omega)
  replace hst6 := hst6.more (r := .free) trivial List.nodup_nil (by simp [Res.blocks])
  refine ra0 (tch := [(5, 5, (fun v => .blk v _)), (6, 5, (fun v => .blk v _))]) hst6 hfr6 (.cons rfl (zA (off := 6) rfl underlying33 rfl rfl sizeOf25 rfl) <| .cons rfl (zE rfl hc3 isAgg25 rfl) <| .cons rfl (zD rfl) <| .cons rfl (zH (k := y) rfl rfl underlying25 sizeOf72 rfl (by omega)) <| .cons rfl (zN rfl hcv19 isAgg72 sizeOf72 rfl rfl) <| .consT rfl rfl (fun _ => rfl) rfl (zQ zeroValue72 rfl) <| .consT rfl rfl (fun _ => rfl) rfl (zT 8 rfl rfl rfl fun y8 => zc rfl rfl rfl rfl rfl sizeOf72 rfl rfl hv19.one) <| .nil) fun a7 w7 m7 hst7 hle7 hk7 => ?_
  have hfr7 := hk7.fr (.o 7 <| .o 0 <| .o 3 <| .o 4 <| .o 6 <| .nil)
  obtain ⟨g20, e20, _⟩ := hk7.ex 8 rfl
  replace hfr7 := hfr7.cons e20
  replace hst7 := hst7.fin (L' := [_, _, _, _, _, _]) (.cons e20 <| .cons e20 <| .nil)
  try simp only [List.take_succ_cons, List.take_zero, List.drop_succ_cons, List.drop_zero, List.cons_append, List.nil_append, List.append_nil, List.length_cons, List.length_nil, Nat.zero_add, Nat.reduceAdd] at hst7
  clear hst6 hfr6 hk7
  refine hK18 _ _ ?_
  refine zB fun _ hK21 => ?_
  refine zq 2 (by kernel_rfl) ?_
  replace hv19 := hv19.mono hle7
  refine zf (tch := []) hst7 hfr7 (by kernel_rfl) (by kernel_rfl) (by kernel_rfl) (.cons rfl (zV (j := 5) rfl rfl isAgg72 sizeOf72 rfl) <| .cons rfl (zw (φ := MP.lastV x19) rfl (.cons rfl <| .nil) call37 (fun w m hK => by have hle_ := KC.le hK; have hA := KC.agree hK; have hv19 := hv19.mono hle_; exact FnG.mono (lastR_c (a := x19) hA hv19 (by omega)) fun _ _ _ _ h => h)) <| .nil) fun a8 w8 m8 hst8 hle8 hk8 => ?_
  have hfr8 := hk8.fr (.o 7 <| .o 0 <| .o 3 <| .o 4 <| .o 6 <| .o 8 <| .nil)
  obtain ⟨⟨⟨xl9, yl9⟩, bl9⟩, e22, hl9, hlq⟩ := hk8.ex 38 rfl
  replace hfr8 := hfr8.cons e22
  clear hst7 hfr7 hk8
  dsimp only at hl9 hlq
  replace hst8 := hst8.more (r := .free) trivial List.nodup_nil (by simp [Res.blocks])
  refine zf (tch := [(3, 6, (fun v => .blk v _)), (4, 6, (fun v => .blk v _))]) hst8 hfr8 (by kernel_rfl) (by kernel_rfl) (by kernel_rfl) (.cons rfl (zD rfl) <| .cons rfl (zW rfl rfl) <| .cons rfl (zW rfl rfl) <| .consT rfl rfl (fun _ => rfl) rfl (zQ zeroValue33 rfl) <| .consT rfl rfl (fun _ => rfl) rfl (zT 9 rfl rfl rfl fun y9 => zc rfl rfl rfl rfl rfl sizeOf33 rfl rfl hl9.one) <| .cons rfl (zC rfl) <| .nil) fun a9 w9 m9 hst9 hle9 hk9 => ?_
  have hfr9 := hk9.fr (.o 7 <| .o 0 <| .o 3 <| .o 4 <| .o 6 <| .o 8 <| .o 38 <| .n 10 <| .nil)
  obtain ⟨g23, e23, _⟩ := hk9.ex 9 rfl
  replace hfr9 := hfr9.cons e23
  replace hst9 := hst9.fin (L' := [_, _, _, _, _, _, _]) (.cons e23 <| .cons e23 <| .nil)
  try simp only [List.take_succ_cons, List.take_zero, List.drop_succ_cons, List.drop_zero, List.cons_append, List.nil_append, List.append_nil, List.length_cons, List.length_nil, Nat.zero_add, Nat.reduceAdd] at hst9
  clear hst8 hfr8 hk9
  refine hK21 _ _ ?_
  refine zB fun _ hK24 => ?_
  replace hst9 := hst9.more (r := .free) trivial List.nodup_nil (by simp [Res.blocks])
  refine ra0 (tch := [(5, 7, (fun v => .blk v _)), (6, 7, (fun v => .blk v _))]) hst9 hfr9 (.cons rfl (zA (off := 0) rfl underlying72 rfl rfl sizeOf9 rfl) <| .cons rfl (zP (j := 5) rfl rfl isAgg9 rfl) <| .cons rfl (zA (off := 1) rfl underlying72 rfl rfl sizeOf27 rfl) <| .cons rfl (zP (j := 5) rfl rfl isAgg27 rfl) <| .cons rfl (zm (.cons rfl <| .cons rfl <| .nil) underlying78 zeroValue78 (.cons sizeOf9 <| .cons sizeOf27 <| .cons sizeOf4 <| .cons sizeOf46 <| .nil) rfl) <| .consT rfl rfl (fun _ => rfl) rfl (zQ zeroValue78 rfl) <| .consT rfl rfl (fun _ => rfl) rfl (zT 11 rfl rfl rfl fun y11 => zc rfl rfl rfl rfl rfl sizeOf78 rfl rfl rfl) <| .nil) fun a10 w10 m10 hst10 hle10 hk10 => ?_
  have hfr10 := hk10.fr (.o 7 <| .o 0 <| .o 3 <| .o 4 <| .o 6 <| .o 8 <| .o 10 <| .o 9 <| .nil)
  obtain ⟨g25, e25, _⟩ := hk10.ex 11 rfl
  replace hfr10 := hfr10.cons e25
  replace hst10 := hst10.fin (L' := [_, _, _, _, _, _, _, _]) (.cons e25 <| .cons e25 <| .nil)
  try simp only [List.take_succ_cons, List.take_zero, List.drop_succ_cons, List.drop_zero, List.cons_append, List.nil_append, List.append_nil, List.length_cons, List.length_nil, Nat.zero_add, Nat.reduceAdd] at hst10
  clear hst9 hfr9 hk10
  refine hK24 _ _ ?_
  refine zB fun _ hK26 => ?_
  replace hst10 := hst10.more (r := .free) trivial List.nodup_nil (by simp [Res.blocks])
  have zq1 := hle9.trans hle10
  have zq2 := hle8.trans zq1
  have zq3 := hle7.trans zq2
  replace hbd19 := hbd19.mono zq3
  refine ra0 (tch := [(2, 8, (fun v => .blk v _)), (3, 8, (fun v => .blk v _))]) hst10 hfr10 (.cons rfl (zA (off := 2) rfl underlying72 rfl rfl sizeOf33 rfl) <| .cons rfl (Zf (j := 5) rfl rfl isAgg33 sizeOf33 rfl rfl) <| .consT rfl rfl (fun _ => rfl) rfl (zQ zeroValue33 rfl) <| .consT rfl rfl (fun _ => rfl) rfl (zT 12 rfl rfl rfl fun y12 => zc rfl rfl rfl rfl rfl sizeOf33 rfl rfl (by exact hbd19.one)) <| .nil) fun a11 w11 m11 hst11 hle11 hk11 => ?_
  have hfr11 := hk11.fr (.o 7 <| .o 0 <| .o 3 <| .o 4 <| .o 6 <| .o 8 <| .o 10 <| .o 9 <| .o 11 <| .nil)
  obtain ⟨g27, e27, _⟩ := hk11.ex 12 rfl
  replace hfr11 := hfr11.cons e27
  replace hst11 := hst11.fin (L' := [_, _, _, _, _, _, _, _, _]) (.cons e27 <| .cons e27 <| .nil)
  try simp only [List.take_succ_cons, List.take_zero, List.drop_succ_cons, List.drop_zero, List.cons_append, List.nil_append, List.append_nil, List.length_cons, List.length_nil, Nat.zero_add, Nat.reduceAdd] at hst11
  clear hst10 hfr10 hk11
  refine hK26 _ _ ?_
  refine zB fun _ hK28 => ?_
  refine zB fun _ hK29 => ?_
  refine rp0 hst11 hfr11 (.cons rfl (zD rfl) <| .cons rfl (Zp rfl) <| .cons rfl (zA (off := 1) rfl underlying82 rfl rfl sizeOf38 rfl) <| .cons rfl (zA (off := 1) rfl underlying38 rfl rfl sizeOf4 rfl) <| .cons rfl (zP (k := 2) (j := 0) rfl rfl isAgg4 rfl) <| .cons rfl (zD rfl) <| .cons rfl (zD rfl) <| .cons rfl (ZP rfl rfl rfl) <| .cons rfl (zD rfl) <| .cons rfl (zD rfl) <| .cons rfl (zAT rfl rfl) <| .cons rfl (ZP rfl rfl rfl) <| .nil) fun a12 w12 m12 hst12 hle12 hk12 => ?_
  have hfr12 := hk12.fr (.o 7 <| .o 0 <| .o 3 <| .o 4 <| .o 6 <| .o 8 <| .o 9 <| .o 11 <| .o 12 <| .n 59 <| .nil)
  clear hst11 hfr11 hk12
  refine hK29 _ _ ?_
  refine zF hfr12 rfl rfl (fun hb59 => ?_) (fun hb59 => ?_)
  ·try simp only [nqs] at hb59
   have hlp : (zBr x19).2 = true := by rw [← hlq]; exact hb59.1.2
   have hl2 := last_two hlp
   have hpc : zAi tl y x19 = true := by unfold zAi; rw [hlp, hb59.1.1, decide_eq_true (show 0 < y by omega)]; rfl
   have hpt : Ze tl y x19 = xl9 := by unfold Ze; rw [if_pos hpc, ← hlq]
   have hpv : zBD tl y x19 = x19.vars.take 1 := by unfold zBD; rw [if_pos hpc]
   refine zB fun _ hK30 => ?_
   refine ra0 (tch := [(1, 7, (fun _ => .blk _ _))]) hst12 hfr12 (.cons rfl (zA (off := 2) rfl underlying78 rfl rfl sizeOf4 rfl) <| .consT rfl rfl (fun _ => rfl) rfl (zy rfl rfl rfl sizeOf4 rfl rfl rfl) <| .nil) fun a13 w13 m13 hst13 hle13 hk13 => ?_
   have hfr13 := hk13.fr (.o 7 <| .o 0 <| .o 3 <| .o 4 <| .o 6 <| .o 8 <| .o 9 <| .o 11 <| .o 12 <| .nil)
   replace hst13 := hst13.fin (L' := [_, _, _, _, _, _, _, _, _]) (.cons rfl <| .nil)
   try simp only [List.take_succ_cons, List.take_zero, List.drop_succ_cons, List.drop_zero, List.cons_append, List.nil_append, List.append_nil, List.length_cons, List.length_nil, Nat.zero_add, Nat.reduceAdd] at hst13
   clear hst12 hfr12 hk13
   refine hK30 _ _ ?_
   refine zB fun _ hK31 => ?_
   have zq4 := hle12.trans hle13
   have zq5 := hle11.trans zq4
   have zq6 := zq3.trans zq5
   replace hva19 := hva19.mono zq6
   have hct32 : Strs _ _ _ _ ((x19.vars.take (1)).drop (0)) := hva19.cut (l := 0) (k := 1) (by omega) (by omega)
   have hcl32 : (1) - (0) = (((x19.vars.take (1)).drop (0))).length := hct32.len.symm
   have hcu32 : Strs _ _ _ _ ((x19.vars.take (1)).drop (0)) := hct32.lenL
   refine ra0 (tch := [(4, 7, (fun _ => .blk _ _))]) hst13 hfr13 (.cons rfl (zA (off := 1) rfl underlying72 rfl rfl sizeOf27 rfl) <| .cons rfl (zP (j := 5) rfl rfl isAgg27 rfl) <| .cons rfl (zBN (l := 0) (h := 1) rfl .none (.some rfl (by omega)) underlying27 sizeOf9 (by first | omega | (dsimp only; omega)) (by first | omega | (dsimp only; omega))) <| .cons rfl (zA (off := 1) rfl underlying78 rfl rfl sizeOf27 rfl) <| .consT rfl rfl (fun _ => rfl) rfl (zy rfl rfl rfl sizeOf27 rfl rfl rfl) <| .nil) fun a14 w14 m14 hst14 hle14 hk14 => ?_
   have hfr14 := hk14.fr (.o 7 <| .o 0 <| .o 3 <| .o 4 <| .o 6 <| .o 9 <| .o 11 <| .o 12 <| .nil)
   replace hst14 := hst14.fin (L' := [_, _, _, _, _, _, _, _, _]) (.cons rfl <| .nil)
   try simp only [List.take_succ_cons, List.take_zero, List.drop_succ_cons, List.drop_zero, List.cons_append, List.nil_append, List.append_nil, List.length_cons, List.length_nil, Nat.zero_add, Nat.reduceAdd] at hst14
   clear hst13 hfr13 hk14
   replace hct32 := hct32.mono hle14
   rw [List.drop_zero] at hct32
   refine hK31 _ _ ?_
   have zq7 := zq5.trans hle14
   have zq8 := zq1.trans zq7
   replace hl9 := hl9.mono zq8
   refine ra0 (tch := [(1, 8, (fun _ => .blk _ _))]) hst14 hfr14 (.cons rfl (zV (j := 6) rfl rfl isAgg33 sizeOf33 rfl) <| .consT rfl rfl (fun _ => rfl) rfl (zZ rfl rfl rfl sizeOf33 rfl rfl hl9.one) <| .nil) fun a15 w15 m15 hst15 hle15 hk15 => ?_
   have hfr15 := hk15.fr (.o 7 <| .o 0 <| .o 3 <| .o 4 <| .o 6 <| .o 11 <| .o 12 <| .nil)
   replace hst15 := hst15.fin (L' := [_, _, _, _, _, _, _, _, _]) (.cons rfl <| .nil)
   try simp only [List.take_succ_cons, List.take_zero, List.drop_succ_cons, List.drop_zero, List.cons_append, List.nil_append, List.append_nil, List.length_cons, List.length_nil, Nat.zero_add, Nat.reduceAdd] at hst15
   clear hst14 hfr14 hk15
   refine hK28 _ _ ?_
   refine zB fun _ hK33 => ?_
   refine zq 3 (by kernel_rfl) ?_
   replace hl9 := hl9.mono hle15
   have hbb9 := tm_eq hl9 hpt
   have zq9 := hle14.trans hle15
   have zq10 := zq6.trans zq9
   replace h_t := h_t.mono zq10
   replace hkk_t := hkk_t.mono zq10
   replace haa_t := haa_t.mono zq10
   replace hrr_t := hrr_t.mono zq10
   replace hc3 := hc3.mono zq10
   replace hcv5 := hcv5.mono zq10
   replace hv5 := hv5.mono zq10
   replace hkk5 := hkk5.mono zq10
   replace haa5 := haa5.mono zq10
   replace hrr5 := hrr5.mono zq10
   replace hya9 := hya9.mono zq10
   replace hga9 := hga9.mono zq10
   replace hsl_ar := hsl_ar.mono zq10
   replace hsl_ga := hsl_ga.mono zq10
   replace hcv19 := hcv19.mono zq10
   replace hkk19b := hkk19b.mono zq10
   replace haa19b := haa19b.mono zq10
   replace hrr19b := hrr19b.mono zq10
   replace hM := hM.trans zq10
   have zq11 := zq7.trans hle15
   have zq12 := zq2.trans zq11
   replace hv19 := hv19.mono zq12
   replace hbd19 := hbd19.mono zq11
   replace hva19 := hva19.mono zq9
   replace hcu32 := hcu32.mono zq9
   replace hct32 := hct32.mono hle15
   refine zf (tch := [(2, 0, (fun _ => .blk (.pointer (some ⟨r, 0, none⟩)) (.cells #[.int .i64 ((((zO sel tl f) (Ze tl y x19) (nq)).2 : Nat) : Int), .bool sel, .bool tl] 82)))]) hst15 hfr15 (by kernel_rfl) (by kernel_rfl) (by kernel_rfl) (.cons rfl (zD rfl) <| .cons rfl (zV (j := 8) rfl rfl isAgg33 sizeOf33 rfl) <| .consT rfl rfl (fun _ => rfl) rfl (ZF rfl (.cons rfl <| .cons rfl <| .nil) call33 (κ := .ex (MP.cd ((zO sel tl f) (Ze tl y x19) (nq)).1)) (fun σ w m hK hr hkn => by have hle_ := KC.le hK; have hA := KC.agree hK; have hM := hM.trans hle_; have h_t := h_t.mono hle_; have hkk_t := hkk_t.mono hle_; have haa_t := haa_t.mono hle_; have hrr_t := hrr_t.mono hle_; have hc3 := hc3.mono hle_; have hcv5 := hcv5.mono hle_; have hv5 := hv5.mono hle_; have hkk5 := hkk5.mono hle_; have haa5 := haa5.mono hle_; have hrr5 := hrr5.mono hle_; have hya9 := hya9.mono hle_; have hga9 := hga9.mono hle_; have hsl_ar := hsl_ar.mono hle_; have hsl_ga := hsl_ga.mono hle_; have hcv19 := hcv19.mono hle_; have hv19 := hv19.mono hle_; have hva19 := hva19.mono hle_; have hbd19 := hbd19.mono hle_; have hkk19b := hkk19b.mono hle_; have haa19b := haa19b.mono hle_; have hrr19b := hrr19b.mono hle_; have hl9 := hl9.mono hle_; have hct32 := hct32.mono hle_; have hcu32 := hcu32.mono hle_; have hbb9 := hbb9.mono hle_; exact zAO ih hA hr hbb9 hpl.1 (by omega) (by omega) (by omega))) <| .nil) fun a16 w16 m16 hst16 hle16 hk16 => ?_
   have hfr16 := hk16.fr (.o 7 <| .o 0 <| .o 3 <| .o 4 <| .o 6 <| .o 11 <| .o 12 <| .nil)
   obtain ⟨yc9, e34, hyc9⟩ := hk16.ex 68 rfl
   replace hfr16 := hfr16.cons e34
   replace hst16 := hst16.fin (L' := [_, _, _, _, _, _, _, _, _]) (.cons e34 <| .nil)
   clear hst15 hfr15 hk16
   refine zf (tch := [(1, 7, (fun _ => .blk _ _))]) hst16 hfr16 (by kernel_rfl) (by kernel_rfl) (by kernel_rfl) (.cons rfl (zA (off := 3) rfl underlying78 rfl rfl sizeOf46 rfl) <| .consT rfl rfl (fun _ => rfl) rfl (zy rfl rfl rfl sizeOf46 rfl rfl rfl) <| .nil) fun a17 w17 m17 hst17 hle17 hk17 => ?_
   have hfr17 := hk17.fr (.o 7 <| .o 0 <| .o 3 <| .o 4 <| .o 6 <| .o 11 <| .o 12 <| .o 68 <| .nil)
   replace hst17 := hst17.fin (L' := [_, _, _, _, _, _, _, _, _]) (.cons rfl <| .nil)
   try simp only [List.take_succ_cons, List.take_zero, List.drop_succ_cons, List.drop_zero, List.cons_append, List.nil_append, List.append_nil, List.length_cons, List.length_nil, Nat.zero_add, Nat.reduceAdd] at hst17
   clear hst16 hfr16 hk17
   refine hK33 _ _ ?_
   have zq13 := hle16.trans hle17
   replace hct32 := hct32.mono zq13
   replace hyc9 := hyc9.mono hle17
   refine ra0 (tch := [(4, 4, (fun v => .rowx (nz v) _ _ _ _)), (6, 3, (fun u => .blk _ (.cells (_ ++ [u] ++ _).toArray _)))]) hst17 hfr17 (.cons rfl (zA (off := 5) rfl underlying46 rfl rfl sizeOf44 rfl) <| .cons rfl (zP (j := 3) rfl rfl isAgg44 rfl) <| .cons rfl (zV (j := 7) rfl rfl isAgg78 sizeOf78 rfl) <| .cons rfl (zp rfl underlying44 sizeOf78 zeroValue78 rfl rfl rfl rfl) <| .consT rfl rfl (fun _ => rfl) rfl (zT 73 rfl rfl rfl fun y73 => ZN (size := 9) (bytes := 144) (l := ga) (l' := [(⟨x19.name, zBD tl y x19, zAi tl y x19, ((zO sel tl f) (Ze tl y x19) nq).1⟩ : Ca)]) rfl rfl (fun _ => by first | exact .inl rfl | exact .inr (.inl rfl)) underlying44 type78 rfl rfl rfl rfl (fun w m hK => Sl.one (R := fun m vs t => CaR m t vs) hK.2 rfl (by rw [hpv, hpc]; exact zCZ (hct32.mono (KC.le hK)) (hyc9.mono (KC.le hK)))) rfl (by decide) (by simp only [maxLen]; omega) (by omega)) <| .cons rfl (zA (off := 5) rfl underlying46 rfl rfl sizeOf44 rfl) <| .consT rfl rfl (fun _ => rfl) rfl (zT 74 rfl rfl rfl fun y74 => Zx rfl rfl rfl rfl rfl sizeOf44 rfl rfl rfl) <| .nil) fun a18 w18 m18 hst18 hle18 hk18 => ?_
   have hfr18 := hk18.fr (.o 7 <| .o 0 <| .o 3 <| .o 4 <| .o 6 <| .nil)
   obtain ⟨⟨ar_35o, ar_35p⟩, e36, hsl_ar_35⟩ := hk18.ex 74 rfl
   replace hst18 := hst18.fin (L' := [_, _, _, _, _, _, _, _, _]) (.cons e36 <| .cons e36 <| .nil)
   try simp only [List.take_succ_cons, List.take_zero, List.drop_succ_cons, List.drop_zero, List.cons_append, List.nil_append, List.append_nil, List.length_cons, List.length_nil, Nat.zero_add, Nat.reduceAdd] at hst18
   clear hst17 hfr17 hk18
   replace hsl_ar_35 : Cas m18 ar_35o (ga ++ [(⟨x19.name, zBD tl y x19, zAi tl y x19, ((zO sel tl f) (Ze tl y x19) nq).1⟩ : Ca)]).length ar_35p (ga ++ [(⟨x19.name, zBD tl y x19, zAi tl y x19, ((zO sel tl f) (Ze tl y x19) nq).1⟩ : Ca)]) := hsl_ar_35
   refine hK17 _ _ ?_
   refine rp0 hst18 hfr18 (.cons rfl (zD rfl) <| .cons rfl (zk rfl rfl ⟨by omega, by omega⟩) <| .cons rfl (zC rfl) <| .nil) fun a19 w19 m19 hst19 hle19 hk19 => ?_
   have hfr19 := hk19.fr (.o 0 <| .o 3 <| .o 4 <| .o 6 <| .n 7 <| .nil)
   clear hst18 hfr18 hk19
   have hst19 := hst19.take 5
   replace hsl_ar_35 := hsl_ar_35.mono hle19
   have zq14 := hle18.trans hle19
   have zq15 := zq13.trans zq14
   have zq16 := zq10.trans zq15
   have hlh19 := hlh6.trans zq16
   exact ⟨(y + 1, ((zO sel tl f) (Ze tl y x19) nq).2, ar_35o, ar_35p, (ga ++ [(⟨x19.name, zBD tl y x19, zAi tl y x19, ((zO sel tl f) (Ze tl y x19) nq).1⟩ : Ca)])), m19, by show t.arms.length - (y + 1) < t.arms.length - y; omega, ⟨hst19, hlh19, hfr19.sub (.c <| .c <| .c <| .c <| .c <| .nil), ⟨by show y + 1 ≤ t.arms.length; omega, hsl_ar_35, ⟨by rw [hlen_ga.1]; simp, by show (ga ++ [_]).length = y + 1; simp; exact hlen_ga.2⟩, hj1, by show ((zO sel tl f) (Ze tl y x19) nq).2 + zr (t.arms.drop (y + 1)) ≤ _; omega⟩⟩⟩
  ·try simp only [nqs] at hb59
   have hpc : zAi tl y x19 = false := by unfold zAi; rw [← hlq]; show (bl9 && tl && decide (0 < y)) = false; rcases hb59 with (h | h) | h; (rw [h, Bool.and_false]; rfl); (rw [h]; rfl); (rw [decide_eq_false (by omega), Bool.and_false])
   have hpt : Ze tl y x19 = x19.body := by unfold Ze; rw [hpc]; rfl
   have hpv : zBD tl y x19 = x19.vars := by unfold zBD; rw [hpc]; rfl
   refine zJ ?_
   refine hK28 _ _ ?_
   refine zB fun _ hK37 => ?_
   refine zq 3 (by kernel_rfl) ?_
   have zq17 := hle11.trans hle12
   replace hbd19 := hbd19.mono zq17
   have hbb9 := tm_eq hbd19 hpt
   have zq18 := zq3.trans zq17
   replace h_t := h_t.mono zq18
   replace hkk_t := hkk_t.mono zq18
   replace haa_t := haa_t.mono zq18
   replace hrr_t := hrr_t.mono zq18
   replace hc3 := hc3.mono zq18
   replace hcv5 := hcv5.mono zq18
   replace hv5 := hv5.mono zq18
   replace hkk5 := hkk5.mono zq18
   replace haa5 := haa5.mono zq18
   replace hrr5 := hrr5.mono zq18
   replace hya9 := hya9.mono zq18
   replace hga9 := hga9.mono zq18
   replace hsl_ar := hsl_ar.mono zq18
   replace hsl_ga := hsl_ga.mono zq18
   replace hcv19 := hcv19.mono zq18
   replace hva19 := hva19.mono zq18
   replace hkk19b := hkk19b.mono zq18
   replace haa19b := haa19b.mono zq18
   replace hrr19b := hrr19b.mono zq18
   replace hM := hM.trans zq18
   have zq19 := zq2.trans zq17
   replace hv19 := hv19.mono zq19
   have zq20 := zq1.trans zq17
   replace hl9 := hl9.mono zq20
   refine zf (tch := [(2, 0, (fun _ => .blk (.pointer (some ⟨r, 0, none⟩)) (.cells #[.int .i64 ((((zO sel tl f) (Ze tl y x19) (nq)).2 : Nat) : Int), .bool sel, .bool tl] 82)))]) hst12 hfr12 (by kernel_rfl) (by kernel_rfl) (by kernel_rfl) (.cons rfl (zD rfl) <| .cons rfl (zV (j := 8) rfl rfl isAgg33 sizeOf33 rfl) <| .consT rfl rfl (fun _ => rfl) rfl (ZF rfl (.cons rfl <| .cons rfl <| .nil) call33 (κ := .ex (MP.cd ((zO sel tl f) (Ze tl y x19) (nq)).1)) (fun σ w m hK hr hkn => by have hle_ := KC.le hK; have hA := KC.agree hK; have hM := hM.trans hle_; have h_t := h_t.mono hle_; have hkk_t := hkk_t.mono hle_; have haa_t := haa_t.mono hle_; have hrr_t := hrr_t.mono hle_; have hc3 := hc3.mono hle_; have hcv5 := hcv5.mono hle_; have hv5 := hv5.mono hle_; have hkk5 := hkk5.mono hle_; have haa5 := haa5.mono hle_; have hrr5 := hrr5.mono hle_; have hya9 := hya9.mono hle_; have hga9 := hga9.mono hle_; have hsl_ar := hsl_ar.mono hle_; have hsl_ga := hsl_ga.mono hle_; have hcv19 := hcv19.mono hle_; have hv19 := hv19.mono hle_; have hva19 := hva19.mono hle_; have hbd19 := hbd19.mono hle_; have hkk19b := hkk19b.mono hle_; have haa19b := haa19b.mono hle_; have hrr19b := hrr19b.mono hle_; have hl9 := hl9.mono hle_; have hbb9 := hbb9.mono hle_; exact zAO ih hA hr hbb9 hpl.1 (by omega) (by omega) (by omega))) <| .nil) fun a13 w13 m13 hst13 hle13 hk13 => ?_
   have hfr13 := hk13.fr (.o 7 <| .o 0 <| .o 3 <| .o 4 <| .o 6 <| .o 8 <| .o 9 <| .o 11 <| .o 12 <| .nil)
   obtain ⟨yc9, e38, hyc9⟩ := hk13.ex 68 rfl
   replace hfr13 := hfr13.cons e38
   replace hst13 := hst13.fin (L' := [_, _, _, _, _, _, _, _, _]) (.cons e38 <| .nil)
   clear hst12 hfr12 hk13
   refine zf (tch := [(1, 7, (fun _ => .blk _ _))]) hst13 hfr13 (by kernel_rfl) (by kernel_rfl) (by kernel_rfl) (.cons rfl (zA (off := 3) rfl underlying78 rfl rfl sizeOf46 rfl) <| .consT rfl rfl (fun _ => rfl) rfl (zy rfl rfl rfl sizeOf46 rfl rfl rfl) <| .nil) fun a14 w14 m14 hst14 hle14 hk14 => ?_
   have hfr14 := hk14.fr (.o 7 <| .o 0 <| .o 3 <| .o 4 <| .o 6 <| .o 8 <| .o 9 <| .o 11 <| .o 12 <| .o 68 <| .nil)
   replace hst14 := hst14.fin (L' := [_, _, _, _, _, _, _, _, _]) (.cons rfl <| .nil)
   try simp only [List.take_succ_cons, List.take_zero, List.drop_succ_cons, List.drop_zero, List.cons_append, List.nil_append, List.append_nil, List.length_cons, List.length_nil, Nat.zero_add, Nat.reduceAdd] at hst14
   clear hst13 hfr13 hk14
   refine hK37 _ _ ?_
   have zq21 := hle13.trans hle14
   replace hva19 := hva19.mono zq21
   replace hyc9 := hyc9.mono hle14
   refine ra0 (tch := [(4, 4, (fun v => .rowx (nz v) _ _ _ _)), (6, 3, (fun u => .blk _ (.cells (_ ++ [u] ++ _).toArray _)))]) hst14 hfr14 (.cons rfl (zA (off := 5) rfl underlying46 rfl rfl sizeOf44 rfl) <| .cons rfl (zP (j := 3) rfl rfl isAgg44 rfl) <| .cons rfl (zV (j := 7) rfl rfl isAgg78 sizeOf78 rfl) <| .cons rfl (zp rfl underlying44 sizeOf78 zeroValue78 rfl rfl rfl rfl) <| .consT rfl rfl (fun _ => rfl) rfl (zT 73 rfl rfl rfl fun y73 => ZN (size := 9) (bytes := 144) (l := ga) (l' := [(⟨x19.name, zBD tl y x19, zAi tl y x19, ((zO sel tl f) (Ze tl y x19) nq).1⟩ : Ca)]) rfl rfl (fun _ => by first | exact .inl rfl | exact .inr (.inl rfl)) underlying44 type78 rfl rfl rfl rfl (fun w m hK => Sl.one (R := fun m vs t => CaR m t vs) hK.2 rfl (by rw [hpv, hpc]; exact zCZ (hva19.mono (KC.le hK)) (hyc9.mono (KC.le hK)))) rfl (by decide) (by simp only [maxLen]; omega) (by omega)) <| .cons rfl (zA (off := 5) rfl underlying46 rfl rfl sizeOf44 rfl) <| .consT rfl rfl (fun _ => rfl) rfl (zT 74 rfl rfl rfl fun y74 => Zx rfl rfl rfl rfl rfl sizeOf44 rfl rfl rfl) <| .nil) fun a15 w15 m15 hst15 hle15 hk15 => ?_
   have hfr15 := hk15.fr (.o 7 <| .o 0 <| .o 3 <| .o 4 <| .o 6 <| .nil)
   obtain ⟨⟨ar_39o, ar_39p⟩, e40, hsl_ar_39⟩ := hk15.ex 74 rfl
   replace hst15 := hst15.fin (L' := [_, _, _, _, _, _, _, _, _]) (.cons e40 <| .cons e40 <| .nil)
   try simp only [List.take_succ_cons, List.take_zero, List.drop_succ_cons, List.drop_zero, List.cons_append, List.nil_append, List.append_nil, List.length_cons, List.length_nil, Nat.zero_add, Nat.reduceAdd] at hst15
   clear hst14 hfr14 hk15
   replace hsl_ar_39 : Cas m15 ar_39o (ga ++ [(⟨x19.name, zBD tl y x19, zAi tl y x19, ((zO sel tl f) (Ze tl y x19) nq).1⟩ : Ca)]).length ar_39p (ga ++ [(⟨x19.name, zBD tl y x19, zAi tl y x19, ((zO sel tl f) (Ze tl y x19) nq).1⟩ : Ca)]) := hsl_ar_39
   refine hK17 _ _ ?_
   refine rp0 hst15 hfr15 (.cons rfl (zD rfl) <| .cons rfl (zk rfl rfl ⟨by omega, by omega⟩) <| .cons rfl (zC rfl) <| .nil) fun a16 w16 m16 hst16 hle16 hk16 => ?_
   have hfr16 := hk16.fr (.o 0 <| .o 3 <| .o 4 <| .o 6 <| .n 7 <| .nil)
   clear hst15 hfr15 hk16
   have hst16 := hst16.take 5
   replace hsl_ar_39 := hsl_ar_39.mono hle16
   have zq22 := hle15.trans hle16
   have zq23 := zq21.trans zq22
   have zq24 := zq18.trans zq23
   have hlh16 := hlh6.trans zq24
   exact ⟨(y + 1, ((zO sel tl f) (Ze tl y x19) nq).2, ar_39o, ar_39p, (ga ++ [(⟨x19.name, zBD tl y x19, zAi tl y x19, ((zO sel tl f) (Ze tl y x19) nq).1⟩ : Ca)])), m16, by show t.arms.length - (y + 1) < t.arms.length - y; omega, ⟨hst16, hlh16, hfr16.sub (.c <| .c <| .c <| .c <| .c <| .nil), ⟨by show y + 1 ≤ t.arms.length; omega, hsl_ar_39, ⟨by rw [hlen_ga.1]; simp, by show (ga ++ [_]).length = y + 1; simp; exact hlen_ga.2⟩, hj1, by show ((zO sel tl f) (Ze tl y x19) nq).2 + zr (t.arms.drop (y + 1)) ≤ _; omega⟩⟩⟩
 ·try simp only [nqs] at hb28
  have hge : y = t.arms.length := by omega
  rw [List.drop_of_length_le (by omega)] at hlen_ga hj1
  rw [zCc, List.append_nil] at hlen_ga
  rw [zDI] at hj1
  refine zi ?_
  refine hK12 _ _ ?_
  refine zB fun _ hK41 => ?_
  refine ra0 (tch := [(1, 1, (fun _ => .blk _ _))]) hst6 hfr6 (.cons rfl (zV (j := 3) rfl rfl isAgg46 sizeOf46 rfl) <| .consT rfl rfl (fun _ => rfl) rfl (zZ rfl rfl rfl sizeOf46 rfl rfl rfl) <| .nil) fun a7 w7 m7 hst7 hle7 hk7 => ?_
  have hfr7 := hk7.fr (.o 7 <| .o 4 <| .nil)
  replace hst7 := hst7.fin (L' := [_, _, _, _, _]) (.cons rfl <| .nil)
  try simp only [List.take_succ_cons, List.take_zero, List.drop_succ_cons, List.drop_zero, List.cons_append, List.nil_append, List.append_nil, List.length_cons, List.length_nil, Nat.zero_add, Nat.reduceAdd] at hst7
  clear hst6 hfr6 hk7
  refine hK41 _ _ ?_
  refine zK ?_
  repeat (with_reducible first | refine zI ?_ | refine zG ?_)
  replace hya9 := hya9.mono hle7
  replace hga9 := hga9.mono hle7
  replace hsl_ga := hsl_ga.mono hle7
  exact zM hst7 hfr7 rfl (.cell rfl (zj (zh (hst7.loc.at_ (k := 1) rfl)) isAgg46 sizeOf46) <| .nil) (⟨by rw [zBw hk14, hk0, hj1]; exact (hst7.take 1).loc, ⟨_, _, _, _⟩, by rw [zBw hk14, hk0, hlen_ga.1]; rfl, by rw [zBw hk14, hk0, hlen_ga.1]; exact CdR.build trivial trivial (Sl.one (R := fun m vs t => CdR m t vs) hga9 hya9.len hya9) hsl_ga⟩)
theorem rprompt_t {f : Nat} (ih : zBp f) {w : World} {m : Mem} {sel tl : Bool} {r n : Nat} {t : Tm} {vs : List Value} (hA : Agree w m) (hr : (Res.blk (.pointer (some ⟨r, 0, none⟩)) (.cells #[.int .i64 ((n : Nat) : Int), .bool sel, .bool tl] 82)).holds w m) (h : TmR m t vs) (hk14 : t.kind = 14) (hL : LwT t) (hf : zS t ≤ f + 1) (hbk : ZG t ≤ 1000000000) (hnb : n + zS t ≤ 1000000000) :
  Calls Tryd.prog 47 #[.pointer (some ⟨r, 0, none⟩), .agg vs.toArray] w fun e w' => ∃ v m', e = .returned v ∧ Touch (Res.blk (.pointer (some ⟨r, 0, none⟩)) (.cells #[.int .i64 ((n : Nat) : Int), .bool sel, .bool tl] 82)) (Res.blk (.pointer (some ⟨r, 0, none⟩)) (.cells #[.int .i64 (((ZT sel tl (zO sel tl f) t n).2 : Nat) : Int), .bool sel, .bool tl] 82)) w m w' m' ∧ (Kn.ex (MP.cd (ZT sel tl (zO sel tl f) t n).1)).holds m' v :=
 Calls.mono (rprompt_g hA hr h ih hk14 hL hf hbk hnb) fun e w' ⟨v, m', e1, hE, hl, hv⟩ => ⟨v, m', e1, zBQ hE hl, hv⟩
end Go.Proofs.YtmdhhjmomilhjaaDoor
namespace Go.Proofs.YtmdhhjmomilhjaaDoor
open Go.Proofs.Tryd
set_option linter.all false
set_option maxRecDepth 4000
open Go.RowKit
theorem name_other {t : Tm} (h : headL t) (hl : ¬ ZW t = true) (h7 : ¬ t.kind = 7) (h8 : ¬ t.kind = 8) (h14 : ¬ t.kind = 14) (h6 : ¬ t.kind = 6) (h9 : ¬ t.kind = 9) (h12 : ¬ t.kind = 12) : t.name = zBE t := by
 obtain ⟨h1, h2, h3, h4, h5⟩ := h.lens
 unfold ZW at hl
 simp only [Bool.and_eq_true, decide_eq_true_eq] at hl
 unfold zBE
 split
 ·rfl
 ·rcases h5 with h5 | h5
  ·omega
  ·exact h5.2.1
set_option maxHeartbeats 3200000 in
theorem rcode_s {w : World} {m : Mem} {sel tl : Bool} {r n : Nat} {t : Tm} {vs_t : List Value} {f : Nat} (hA : Agree w m) (hr : (Res.blk (.pointer (some ⟨r, 0, none⟩)) (.cells #[.int .i64 ((n : Nat) : Int), .bool sel, .bool tl] 82)).holds w m) (h_t : TmR m t vs_t) (ih : zBp f) (hL : LwT t) (hf : zS t ≤ f + 1) (hbk : ZG t ≤ 1000000000) (hnb : n + zS t ≤ 1000000000) : FnG Tryd.prog 33 #[.pointer (some ⟨r, 0, none⟩), .agg vs_t.toArray] [r] w m (fun w' m' v => Loc [r] w.heap.size [.blk (.pointer (some ⟨r, 0, none⟩)) (.cells #[.int .i64 (((ZT sel tl (zO sel tl f) t n).2 : Nat) : Int), .bool sel, .bool tl] 82)] w' m' ∧ (MP.cd (ZT sel tl (zO sel tl f) t n).1).p m' v) := by
 obtain ⟨⟨oK_t, cK_t, oA_t, cA_t, oR_t, cR_t, t0_t, t1_t, t2_t, t3_t, t4_t, t5_t, u0_t, u1_t, u2_t, u3_t, u4_t, u5_t⟩, rfl, hon_t, hkk_t, haa_t, hrr_t⟩ := h_t.open_
 dsimp only at hkk_t haa_t hrr_t
 have hbg_t := hkk_t.big; have hcp_t := hkk_t.cap; have hbh_t := haa_t.big; have hcq_t := haa_t.cap
 refine za (vs := [_, _]) func33 rfl rfl rfl fun a0 hfr0 => ?_
 have hst0 := zX hA (zAY hr (by simp [Res.blocks, zt]))
 have hM : MLe m m := MLe.refl m
 have hce := z7 t
 have hbe := Zm t
 have hln := hL.here.lens
 refine zB fun _ hK1 => ?_
 replace hst0 := hst0.more (r := .free) trivial List.nodup_nil (by simp [Res.blocks])
 refine ra0 (tch := [(1, 1, (fun v => .blk v _))]) hst0 hfr0 (.cons rfl (zx rfl rfl) <| .consT rfl rfl (fun _ => rfl) rfl (zQ zeroValue46 rfl) <| .nil) fun a1 w1 m1 hst1 hle1 hk1 => ?_
 have hfr1 := hk1.fr (.o 0 <| .nil)
 obtain ⟨g2, e2, hc3⟩ := hk1.ex 3 rfl
 replace hfr1 := hfr1.cons e2
 obtain ⟨g3, e3, _⟩ := hk1.ex 4 rfl
 replace hfr1 := hfr1.cons e3
 replace hst1 := hst1.fin (L' := [_, _]) (.cons e3 <| .nil)
 replace h_t := h_t.mono hle1
 replace hkk_t := hkk_t.mono hle1
 replace haa_t := haa_t.mono hle1
 replace hrr_t := hrr_t.mono hle1
 replace hM := hM.trans hle1
 clear hst0 hfr0 hk1
 refine hK1 _ _ ?_
 refine zB fun _ hK4 => ?_
 refine zB fun _ hK5 => ?_
 refine rp0 hst1 hfr1 (.cons rfl (zA (off := 0) rfl underlying33 rfl rfl sizeOf3 rfl) <| .cons rfl (zE rfl hc3 isAgg3 rfl) <| .nil) fun a2 w2 m2 hst2 hle2 hk2 => ?_
 have hfr2 := hk2.fr (.o 0 <| .o 3 <| .o 4 <| .n 18 <| .nil)
 replace h_t := h_t.mono hle2
 replace hkk_t := hkk_t.mono hle2
 replace haa_t := haa_t.mono hle2
 replace hrr_t := hrr_t.mono hle2
 replace hc3 := hc3.mono hle2
 replace hM := hM.trans hle2
 clear hst1 hfr1 hk2
 refine hK5 _ _ ?_
 refine zL ?_
 refine zB fun _ hK6 => ?_
 refine rp0 hst2 hfr2 (.cons rfl (zY rfl rfl) <| .cons rfl (zC rfl) <| .nil) fun a3 w3 m3 hst3 hle3 hk3 => ?_
 have hfr3 := hk3.fr (.o 0 <| .o 3 <| .o 4 <| .o 18 <| .n 19 <| .nil)
 replace h_t := h_t.mono hle3
 replace hkk_t := hkk_t.mono hle3
 replace haa_t := haa_t.mono hle3
 replace hrr_t := hrr_t.mono hle3
 replace hc3 := hc3.mono hle3
 replace hM := hM.trans hle3
 clear hst2 hfr2 hk3
 refine hK6 _ _ ?_
 refine zF hfr3 rfl rfl (fun hb19 => ?_) (fun hb19 => ?_)
 ·try simp only [nqs] at hb19
  have hbd : (ZT sel tl (zO sel tl f) t n) = (⟨1, t.name, [], 0, [], []⟩, n) := by rw [zCW (by omega) (by omega) (by omega) (by omega) (by unfold ZW; rw [hb19]; rfl), hb19]; rfl
  refine zB fun _ hK7 => ?_
  refine ra0 (tch := [(3, 1, (fun _ => .blk _ _))]) hst3 hfr3 (.cons rfl (zA (off := 2) rfl underlying33 rfl rfl sizeOf9 rfl) <| .cons rfl (zE rfl hc3 isAgg9 rfl) <| .cons rfl (zm (.cons rfl <| .cons rfl <| .nil) underlying46 zeroValue46 (.cons sizeOf3 <| .cons sizeOf9 <| .cons sizeOf9 <| .cons sizeOf3 <| .cons sizeOf43 <| .cons sizeOf44 <| .nil) rfl) <| .consT rfl rfl (fun _ => rfl) rfl (zZ rfl rfl rfl sizeOf46 rfl rfl rfl) <| .nil) fun a4 w4 m4 hst4 hle4 hk4 => ?_
  have hfr4 := hk4.fr (.o 4 <| .nil)
  replace hst4 := hst4.fin (L' := [_, _]) (.cons rfl <| .nil)
  try simp only [List.take_succ_cons, List.take_zero, List.drop_succ_cons, List.drop_zero, List.cons_append, List.nil_append, List.append_nil, List.length_cons, List.length_nil, Nat.zero_add, Nat.reduceAdd] at hst4
  clear hst3 hfr3 hk4
  refine hK7 _ _ ?_
  refine zK ?_
  repeat (with_reducible first | refine zI ?_ | refine zG ?_)
  exact zM hst4 hfr4 rfl (.cell rfl (zj (zh (hst4.loc.at_ (k := 1) rfl)) isAgg46 sizeOf46) <| .nil) (⟨by rw [hbd]; exact (hst4.take 1).loc, ⟨none, 0, none, 0⟩, by rw [hbd]; rfl, by rw [hbd]; exact CdR.build trivial trivial Sl.empty Sl.empty⟩)
 ·try simp only [nqs] at hb19
  refine zB fun _ hK9 => ?_
  refine rp0 hst3 hfr3 (.cons rfl (zY rfl rfl) <| .cons rfl (zC rfl) <| .nil) fun a4 w4 m4 hst4 hle4 hk4 => ?_
  have hfr4 := hk4.fr (.o 0 <| .o 3 <| .o 4 <| .o 18 <| .n 24 <| .nil)
  clear hst3 hfr3 hk4
  refine hK9 _ _ ?_
  refine zF hfr4 rfl rfl (fun hb24 => ?_) (fun hb24 => ?_)
  ·try simp only [nqs] at hb24
   have hbd : (ZT sel tl (zO sel tl f) t n) = (⟨2, [], [], t.n, [], []⟩, n) := by rw [zCW (by omega) (by omega) (by omega) (by omega) (by unfold ZW; rw [hb24]; rfl), hb24]; rfl
   refine zB fun _ hK10 => ?_
   replace hc3 := hc3.mono hle4
   refine ra0 (tch := [(3, 1, (fun _ => .blk _ _))]) hst4 hfr4 (.cons rfl (zA (off := 4) rfl underlying33 rfl rfl sizeOf3 rfl) <| .cons rfl (zE rfl hc3 isAgg3 rfl) <| .cons rfl (zm (.cons rfl <| .cons rfl <| .nil) underlying46 zeroValue46 (.cons sizeOf3 <| .cons sizeOf9 <| .cons sizeOf9 <| .cons sizeOf3 <| .cons sizeOf43 <| .cons sizeOf44 <| .nil) rfl) <| .consT rfl rfl (fun _ => rfl) rfl (zZ rfl rfl rfl sizeOf46 rfl rfl rfl) <| .nil) fun a5 w5 m5 hst5 hle5 hk5 => ?_
   have hfr5 := hk5.fr (.o 4 <| .nil)
   replace hst5 := hst5.fin (L' := [_, _]) (.cons rfl <| .nil)
   try simp only [List.take_succ_cons, List.take_zero, List.drop_succ_cons, List.drop_zero, List.cons_append, List.nil_append, List.append_nil, List.length_cons, List.length_nil, Nat.zero_add, Nat.reduceAdd] at hst5
   clear hst4 hfr4 hk5
   refine hK10 _ _ ?_
   refine zK ?_
   repeat (with_reducible first | refine zI ?_ | refine zG ?_)
   exact zM hst5 hfr5 rfl (.cell rfl (zj (zh (hst5.loc.at_ (k := 1) rfl)) isAgg46 sizeOf46) <| .nil) (⟨by rw [hbd]; exact (hst5.take 1).loc, ⟨none, 0, none, 0⟩, by rw [hbd]; rfl, by rw [hbd]; exact CdR.build trivial trivial Sl.empty Sl.empty⟩)
  ·try simp only [nqs] at hb24
   refine zB fun _ hK12 => ?_
   refine rp0 hst4 hfr4 (.cons rfl (zY rfl rfl) <| .cons rfl (zC rfl) <| .nil) fun a5 w5 m5 hst5 hle5 hk5 => ?_
   have hfr5 := hk5.fr (.o 0 <| .o 3 <| .o 4 <| .o 18 <| .n 29 <| .nil)
   clear hst4 hfr4 hk5
   refine hK12 _ _ ?_
   refine zF hfr5 rfl rfl (fun hb29 => ?_) (fun hb29 => ?_)
   ·try simp only [nqs] at hb29
    have hbd : (ZT sel tl (zO sel tl f) t n) = (⟨3, [], [], t.n, [], []⟩, n) := by rw [zCW (by omega) (by omega) (by omega) (by omega) (by unfold ZW; rw [hb29]; rfl), hb29]; rfl
    refine zB fun _ hK13 => ?_
    have zq1 := hle4.trans hle5
    replace hc3 := hc3.mono zq1
    refine ra0 (tch := [(3, 1, (fun _ => .blk _ _))]) hst5 hfr5 (.cons rfl (zA (off := 4) rfl underlying33 rfl rfl sizeOf3 rfl) <| .cons rfl (zE rfl hc3 isAgg3 rfl) <| .cons rfl (zm (.cons rfl <| .cons rfl <| .nil) underlying46 zeroValue46 (.cons sizeOf3 <| .cons sizeOf9 <| .cons sizeOf9 <| .cons sizeOf3 <| .cons sizeOf43 <| .cons sizeOf44 <| .nil) rfl) <| .consT rfl rfl (fun _ => rfl) rfl (zZ rfl rfl rfl sizeOf46 rfl rfl rfl) <| .nil) fun a6 w6 m6 hst6 hle6 hk6 => ?_
    have hfr6 := hk6.fr (.o 4 <| .nil)
    replace hst6 := hst6.fin (L' := [_, _]) (.cons rfl <| .nil)
    try simp only [List.take_succ_cons, List.take_zero, List.drop_succ_cons, List.drop_zero, List.cons_append, List.nil_append, List.append_nil, List.length_cons, List.length_nil, Nat.zero_add, Nat.reduceAdd] at hst6
    clear hst5 hfr5 hk6
    refine hK13 _ _ ?_
    refine zK ?_
    repeat (with_reducible first | refine zI ?_ | refine zG ?_)
    exact zM hst6 hfr6 rfl (.cell rfl (zj (zh (hst6.loc.at_ (k := 1) rfl)) isAgg46 sizeOf46) <| .nil) (⟨by rw [hbd]; exact (hst6.take 1).loc, ⟨none, 0, none, 0⟩, by rw [hbd]; rfl, by rw [hbd]; exact CdR.build trivial trivial Sl.empty Sl.empty⟩)
   ·try simp only [nqs] at hb29
    refine zB fun _ hK15 => ?_
    refine rp0 hst5 hfr5 (.cons rfl (zY rfl rfl) <| .cons rfl (zC rfl) <| .nil) fun a6 w6 m6 hst6 hle6 hk6 => ?_
    have hfr6 := hk6.fr (.o 0 <| .o 3 <| .o 4 <| .o 18 <| .n 34 <| .nil)
    clear hst5 hfr5 hk6
    refine hK15 _ _ ?_
    refine zF hfr6 rfl rfl (fun hb34 => ?_) (fun hb34 => ?_)
    ·try simp only [nqs] at hb34
     have hbd : (ZT sel tl (zO sel tl f) t n) = (⟨4, [], [], 0, [], []⟩, n) := by rw [zCW (by omega) (by omega) (by omega) (by omega) (by unfold ZW; rw [hb34]; rfl), hb34]; rfl
     refine zB fun _ hK16 => ?_
     refine ra0 (tch := [(1, 1, (fun _ => .blk _ _))]) hst6 hfr6 (.cons rfl (zm (.cons rfl <| .nil) underlying46 zeroValue46 (.cons sizeOf3 <| .cons sizeOf9 <| .cons sizeOf9 <| .cons sizeOf3 <| .cons sizeOf43 <| .cons sizeOf44 <| .nil) rfl) <| .consT rfl rfl (fun _ => rfl) rfl (zZ rfl rfl rfl sizeOf46 rfl rfl rfl) <| .nil) fun a7 w7 m7 hst7 hle7 hk7 => ?_
     have hfr7 := hk7.fr (.o 4 <| .nil)
     replace hst7 := hst7.fin (L' := [_, _]) (.cons rfl <| .nil)
     try simp only [List.take_succ_cons, List.take_zero, List.drop_succ_cons, List.drop_zero, List.cons_append, List.nil_append, List.append_nil, List.length_cons, List.length_nil, Nat.zero_add, Nat.reduceAdd] at hst7
     clear hst6 hfr6 hk7
     refine hK16 _ _ ?_
     refine zK ?_
     repeat (with_reducible first | refine zI ?_ | refine zG ?_)
     exact zM hst7 hfr7 rfl (.cell rfl (zj (zh (hst7.loc.at_ (k := 1) rfl)) isAgg46 sizeOf46) <| .nil) (⟨by rw [hbd]; exact (hst7.take 1).loc, ⟨none, 0, none, 0⟩, by rw [hbd]; rfl, by rw [hbd]; exact CdR.build trivial trivial Sl.empty Sl.empty⟩)
    ·try simp only [nqs] at hb34
     refine zB fun _ hK18 => ?_
     refine rp0 hst6 hfr6 (.cons rfl (zY rfl rfl) <| .cons rfl (zC rfl) <| .nil) fun a7 w7 m7 hst7 hle7 hk7 => ?_
     have hfr7 := hk7.fr (.o 0 <| .o 3 <| .o 4 <| .o 18 <| .n 37 <| .nil)
     clear hst6 hfr6 hk7
     refine hK18 _ _ ?_
     refine zF hfr7 rfl rfl (fun hb37 => ?_) (fun hb37 => ?_)
     ·try simp only [nqs] at hb37
      have hbd := body5 (sel := sel) (tl := tl) (g := (zO sel tl f)) (t := t) (n := n) hb37
      refine zB fun _ hK19 => ?_
      have zq2 := hle6.trans hle7
      have zq3 := hle5.trans zq2
      have zq4 := hle4.trans zq3
      replace hkk_t := hkk_t.mono zq4
      obtain ⟨p20, vs20, x20, ho20, hd20, hm_x20, ht20, hcv20, hl20, hv20⟩ := hkk_t.nth (k := 0) (by omega)
      cases ho20
      obtain ⟨⟨oK20, cK20, oA20, cA20, oR20, cR20, t020, t120, t220, t320, t420, t520, u020, u120, u220, u320, u420, u520⟩, rfl, hon20, hkk20, haa20, hrr20⟩ := hv20.open_
      dsimp only at hkk20 haa20 hrr20
      have hbg20 := hkk20.big; have hcp20 := hkk20.cap; have hbh20 := haa20.big; have hcq20 := haa20.cap
      have hk0 : kid t 0 = x20 := ZM hd20
      have hca := z6 hm_x20
      have hba := ZO hm_x20
      replace h_t := h_t.mono zq4
      replace haa_t := haa_t.mono zq4
      replace hrr_t := hrr_t.mono zq4
      replace hc3 := hc3.mono zq4
      replace hM := hM.trans zq4
      refine ZD (tch := [(7, 0, (fun _ => .blk (.pointer (some ⟨r, 0, none⟩)) (.cells #[.int .i64 ((((zO sel tl f) x20 (n)).2 : Nat) : Int), .bool sel, .bool tl] 82))), (10, 1, (fun _ => .blkx _ _ _))]) (fun _ => mixed) hst7 hfr7 (by kernel_rfl) (by kernel_rfl) (by kernel_rfl) (.cons rfl (zA (off := 2) rfl underlying33 rfl rfl sizeOf9 rfl) <| .cons rfl (zE rfl hc3 isAgg9 rfl) <| .cons rfl (zD rfl) <| .cons rfl (zA (off := 5) rfl underlying33 rfl rfl sizeOf24 rfl) <| .cons rfl (zE rfl hc3 isAgg24 rfl) <| .cons rfl (zH (k := 0) rfl rfl underlying24 sizeOf33 rfl (by omega)) <| .cons rfl (zN rfl hcv20 isAgg33 sizeOf33 rfl rfl) <| .consT rfl rfl (fun _ => rfl) rfl (ZF rfl (.cons rfl <| .cons rfl <| .nil) call33 (κ := .ex (MP.cd ((zO sel tl f) x20 (n)).1)) (fun σ w m hK hr hkn => by have hle_ := KC.le hK; have hA := KC.agree hK; have hM := hM.trans hle_; have h_t := h_t.mono hle_; have hkk_t := hkk_t.mono hle_; have haa_t := haa_t.mono hle_; have hrr_t := hrr_t.mono hle_; have hc3 := hc3.mono hle_; have hcv20 := hcv20.mono hle_; have hv20 := hv20.mono hle_; have hkk20 := hkk20.mono hle_; have haa20 := haa20.mono hle_; have hrr20 := hrr20.mono hle_; exact zAO ih hA hr hv20 (hL.kid hm_x20) (by omega) (by omega) (by omega))) <| .cons rfl (zCJ 46 rfl rfl rfl fun y46 => zp rfl underlying43 sizeOf46 zeroValue46 rfl rfl rfl rfl) <| .cons rfl (zv 47 rfl rfl rfl fun y47 => zm (.cons rfl <| .cons rfl <| .cons rfl <| .nil) underlying46 zeroValue46 (.cons sizeOf3 <| .cons sizeOf9 <| .cons sizeOf9 <| .cons sizeOf3 <| .cons sizeOf43 <| .cons sizeOf44 <| .nil) rfl) <| .consT rfl rfl (fun _ => rfl) rfl (ZH 48 rfl rfl rfl fun y48 => zZ rfl rfl rfl sizeOf46 rfl rfl rfl) <| .nil) fun a8 w8 m8 hst8 hle8 hk8 => ?_
      have hfr8 := hk8.fr (.o 4 <| .nil)
      obtain ⟨y21, e21, hy21⟩ := hk8.ex 46 rfl
      replace hst8 := hst8.fin (L' := [_, _]) (.cons e21 <| .cons rfl <| .nil)
      try simp only [List.take_succ_cons, List.take_zero, List.drop_succ_cons, List.drop_zero, List.cons_append, List.nil_append, List.append_nil, List.length_cons, List.length_nil, Nat.zero_add, Nat.reduceAdd] at hst8
      obtain ⟨⟨ya9, ga9⟩, ⟨hya9, hga9⟩, hst8⟩ := hst8.unx (k := 1) rfl (fun _ => rfl)
      clear hst7 hfr7 hk8
      refine hK19 _ _ ?_
      refine zK ?_
      repeat (with_reducible first | refine zI ?_ | refine zG ?_)
      exact zM hst8 hfr8 rfl (.cell rfl (zj (zh (hst8.loc.at_ (k := 1) rfl)) isAgg46 sizeOf46) <| .nil) (⟨by rw [hbd, hk0]; exact (hst8.take 1).loc, ⟨_, _, none, 0⟩, by rw [hbd, hk0]; rfl, by rw [hbd, hk0]; exact CdR.build trivial trivial (Sl.one (R := fun m vs t => CdR m t vs) hga9 hya9.len hya9) Sl.empty⟩)
     ·try simp only [nqs] at hb37
      refine zB fun _ hK24 => ?_
      refine rp0 hst7 hfr7 (.cons rfl (zY rfl rfl) <| .cons rfl (zC rfl) <| .nil) fun a8 w8 m8 hst8 hle8 hk8 => ?_
      have hfr8 := hk8.fr (.o 0 <| .o 3 <| .o 4 <| .o 18 <| .n 49 <| .nil)
      clear hst7 hfr7 hk8
      refine hK24 _ _ ?_
      refine zF hfr8 rfl rfl (fun hb49 => ?_) (fun hb49 => ?_)
      ·try simp only [nqs] at hb49
       have hbd := body7 (sel := sel) (tl := tl) (g := (zO sel tl f)) (t := t) (n := n) hb49
       refine zB fun _ hK25 => ?_
       have zq5 := hle7.trans hle8
       have zq6 := hle6.trans zq5
       have zq7 := hle5.trans zq6
       have zq8 := hle4.trans zq7
       replace hkk_t := hkk_t.mono zq8
       obtain ⟨p26, vs26, x26, ho26, hd26, hm_x26, ht26, hcv26, hl26, hv26⟩ := hkk_t.nth (k := 0) (by omega)
       cases ho26
       obtain ⟨⟨oK26, cK26, oA26, cA26, oR26, cR26, t026, t126, t226, t326, t426, t526, u026, u126, u226, u326, u426, u526⟩, rfl, hon26, hkk26, haa26, hrr26⟩ := hv26.open_
       dsimp only at hkk26 haa26 hrr26
       have hbg26 := hkk26.big; have hcp26 := hkk26.cap; have hbh26 := haa26.big; have hcq26 := haa26.cap
       have hk0 : kid t 0 = x26 := ZM hd26
       obtain ⟨p27, vs27, x27, ho27, hd27, hm_x27, ht27, hcv27, hl27, hv27⟩ := hkk_t.nth (k := 1) (by omega)
       cases ho27
       obtain ⟨⟨oK27, cK27, oA27, cA27, oR27, cR27, t027, t127, t227, t327, t427, t527, u027, u127, u227, u327, u427, u527⟩, rfl, hon27, hkk27, haa27, hrr27⟩ := hv27.open_
       dsimp only at hkk27 haa27 hrr27
       have hbg27 := hkk27.big; have hcp27 := hkk27.cap; have hbh27 := haa27.big; have hcq27 := haa27.cap
       have hk1 : kid t 1 = x27 := ZM hd27
       have hca := z6 hm_x26; have hcb := z6 hm_x27
       have hba := ZO hm_x26; have hbb := ZO hm_x27
       have hc2 : zS x26 + zS x27 = zR t.kids := by rw [← List.drop_zero (l := t.kids), hd26, zR]; rw [hd27, zR, List.drop_of_length_le (by omega), zR]; omega
       have hga := zAJ sel tl f x26 n (hL.kid hm_x26) (by omega)
       replace hst8 := hst8.more (r := .free) trivial List.nodup_nil (by simp [Res.blocks])
       replace h_t := h_t.mono zq8
       replace haa_t := haa_t.mono zq8
       replace hrr_t := hrr_t.mono zq8
       replace hc3 := hc3.mono zq8
       replace hM := hM.trans zq8
       refine ra0 (tch := [(5, 0, (fun _ => .blk (.pointer (some ⟨r, 0, none⟩)) (.cells #[.int .i64 ((((zO sel tl f) x26 (n)).2 : Nat) : Int), .bool sel, .bool tl] 82))), (6, 2, (fun v => .blk v _)), (7, 2, (fun v => .blkx v _ _))]) hst8 hfr8 (.cons rfl (zD rfl) <| .cons rfl (zA (off := 5) rfl underlying33 rfl rfl sizeOf24 rfl) <| .cons rfl (zE rfl hc3 isAgg24 rfl) <| .cons rfl (zH (k := 0) rfl rfl underlying24 sizeOf33 rfl (by omega)) <| .cons rfl (zN rfl hcv26 isAgg33 sizeOf33 rfl rfl) <| .consT rfl rfl (fun _ => rfl) rfl (ZF rfl (.cons rfl <| .cons rfl <| .nil) call33 (κ := .ex (MP.cd ((zO sel tl f) x26 (n)).1)) (fun σ w m hK hr hkn => by have hle_ := KC.le hK; have hA := KC.agree hK; have hM := hM.trans hle_; have h_t := h_t.mono hle_; have hkk_t := hkk_t.mono hle_; have haa_t := haa_t.mono hle_; have hrr_t := hrr_t.mono hle_; have hc3 := hc3.mono hle_; have hcv26 := hcv26.mono hle_; have hv26 := hv26.mono hle_; have hkk26 := hkk26.mono hle_; have haa26 := haa26.mono hle_; have hrr26 := hrr26.mono hle_; have hcv27 := hcv27.mono hle_; have hv27 := hv27.mono hle_; have hkk27 := hkk27.mono hle_; have haa27 := haa27.mono hle_; have hrr27 := hrr27.mono hle_; exact zAO ih hA hr hv26 (hL.kid hm_x26) (by omega) (by omega) (by omega))) <| .consT rfl rfl (fun _ => rfl) rfl (zQ zeroValue46 rfl) <| .consT rfl rfl (fun _ => rfl) rfl (zT 5 rfl rfl rfl fun y5 => ZH 56 rfl rfl rfl fun y56 => ZU rfl rfl rfl rfl rfl sizeOf46 rfl rfl (fun w m hK => hK.2.one)) <| .nil) fun a9 w9 m9 hst9 hle9 hk9 => ?_
       have hfr9 := hk9.fr (.o 0 <| .o 3 <| .o 4 <| .nil)
       obtain ⟨y28, e28, hy28⟩ := hk9.ex 56 rfl
       obtain ⟨g29, e29, _⟩ := hk9.ex 5 rfl
       replace hfr9 := hfr9.cons e29
       replace hst9 := hst9.fin (L' := [_, _, _]) (.cons e28 <| .cons e29 <| .cons e29 <| .nil)
       try simp only [List.take_succ_cons, List.take_zero, List.drop_succ_cons, List.drop_zero, List.cons_append, List.nil_append, List.append_nil, List.length_cons, List.length_nil, Nat.zero_add, Nat.reduceAdd] at hst9
       obtain ⟨ya9, hya9, hst9⟩ := hst9.unx (k := 2) rfl (fun _ => rfl)
       clear hst8 hfr8 hk9
       refine hK25 _ _ ?_
       refine zB fun _ hK31 => ?_
       replace hst9 := hst9.more (r := .free) trivial List.nodup_nil (by simp [Res.blocks])
       replace h_t := h_t.mono hle9
       replace hkk_t := hkk_t.mono hle9
       replace haa_t := haa_t.mono hle9
       replace hrr_t := hrr_t.mono hle9
       replace hc3 := hc3.mono hle9
       replace hcv26 := hcv26.mono hle9
       replace hv26 := hv26.mono hle9
       replace hkk26 := hkk26.mono hle9
       replace haa26 := haa26.mono hle9
       replace hrr26 := hrr26.mono hle9
       replace hcv27 := hcv27.mono hle9
       replace hv27 := hv27.mono hle9
       replace hkk27 := hkk27.mono hle9
       replace haa27 := haa27.mono hle9
       replace hrr27 := hrr27.mono hle9
       replace hM := hM.trans hle9
       refine ra0 (tch := [(5, 0, (fun _ => .blk (.pointer (some ⟨r, 0, none⟩)) (.cells #[.int .i64 ((((zO sel tl f) x27 (((zO sel tl f) x26 n).2)).2 : Nat) : Int), .bool sel, .bool tl] 82))), (6, 3, (fun v => .blk v _)), (7, 3, (fun v => .blkx v _ _))]) hst9 hfr9 (.cons rfl (zD rfl) <| .cons rfl (zA (off := 5) rfl underlying33 rfl rfl sizeOf24 rfl) <| .cons rfl (zE rfl hc3 isAgg24 rfl) <| .cons rfl (zH (k := 1) rfl rfl underlying24 sizeOf33 rfl (by omega)) <| .cons rfl (zN rfl hcv27 isAgg33 sizeOf33 rfl rfl) <| .consT rfl rfl (fun _ => rfl) rfl (ZF rfl (.cons rfl <| .cons rfl <| .nil) call33 (κ := .ex (MP.cd ((zO sel tl f) x27 (((zO sel tl f) x26 n).2)).1)) (fun σ w m hK hr hkn => by have hle_ := KC.le hK; have hA := KC.agree hK; have hM := hM.trans hle_; have h_t := h_t.mono hle_; have hkk_t := hkk_t.mono hle_; have haa_t := haa_t.mono hle_; have hrr_t := hrr_t.mono hle_; have hc3 := hc3.mono hle_; have hcv26 := hcv26.mono hle_; have hv26 := hv26.mono hle_; have hkk26 := hkk26.mono hle_; have haa26 := haa26.mono hle_; have hrr26 := hrr26.mono hle_; have hcv27 := hcv27.mono hle_; have hv27 := hv27.mono hle_; have hkk27 := hkk27.mono hle_; have haa27 := haa27.mono hle_; have hrr27 := hrr27.mono hle_; have hya9 := hya9.mono hle_; exact zAO ih hA hr hv27 (hL.kid hm_x27) (by omega) (by omega) (by omega))) <| .consT rfl rfl (fun _ => rfl) rfl (zQ zeroValue46 rfl) <| .consT rfl rfl (fun _ => rfl) rfl (zT 6 rfl rfl rfl fun y6 => ZH 62 rfl rfl rfl fun y62 => ZU rfl rfl rfl rfl rfl sizeOf46 rfl rfl (fun w m hK => hK.2.one)) <| .nil) fun a10 w10 m10 hst10 hle10 hk10 => ?_
       have hfr10 := hk10.fr (.o 0 <| .o 3 <| .o 4 <| .o 5 <| .nil)
       obtain ⟨y32, e32, hy32⟩ := hk10.ex 62 rfl
       obtain ⟨g33, e33, _⟩ := hk10.ex 6 rfl
       replace hfr10 := hfr10.cons e33
       replace hst10 := hst10.fin (L' := [_, _, _, _]) (.cons e32 <| .cons e33 <| .cons e33 <| .nil)
       try simp only [List.take_succ_cons, List.take_zero, List.drop_succ_cons, List.drop_zero, List.cons_append, List.nil_append, List.append_nil, List.length_cons, List.length_nil, Nat.zero_add, Nat.reduceAdd] at hst10
       obtain ⟨yb9, hyb9, hst10⟩ := hst10.unx (k := 3) rfl (fun _ => rfl)
       clear hst9 hfr9 hk10
       refine hK31 _ _ ?_
       refine zB fun _ hK35 => ?_
       replace h_t := h_t.mono hle10
       replace hkk_t := hkk_t.mono hle10
       replace haa_t := haa_t.mono hle10
       replace hrr_t := hrr_t.mono hle10
       replace hc3 := hc3.mono hle10
       replace hcv26 := hcv26.mono hle10
       replace hv26 := hv26.mono hle10
       replace hkk26 := hkk26.mono hle10
       replace haa26 := haa26.mono hle10
       replace hrr26 := hrr26.mono hle10
       replace hcv27 := hcv27.mono hle10
       replace hv27 := hv27.mono hle10
       replace hkk27 := hkk27.mono hle10
       replace haa27 := haa27.mono hle10
       replace hrr27 := hrr27.mono hle10
       replace hya9 := hya9.mono hle10
       replace hM := hM.trans hle10
       refine ZD (tch := [(5, 0, (fun _ => .blk (.pointer (some ⟨r, 0, none⟩)) (.cells #[.int .i64 ((((zO sel tl f) x27 ((zO sel tl f) x26 n).2).2 : Nat) : Int), .bool sel, .bool tl] 82))), (12, 1, (fun _ => .blkx _ _ _))]) (fun _ => mixed) hst10 hfr10 (by kernel_rfl) (by kernel_rfl) (by kernel_rfl) (.cons rfl (zD rfl) <| .cons rfl (zA (off := 5) rfl underlying33 rfl rfl sizeOf24 rfl) <| .cons rfl (zE rfl hc3 isAgg24 rfl) <| .cons rfl (zH (k := 0) rfl rfl underlying24 sizeOf33 rfl (by omega)) <| .cons rfl (zN rfl hcv26 isAgg33 sizeOf33 rfl rfl) <| .consT rfl rfl (fun _ => rfl) rfl (ZF rfl (.cons rfl <| .cons rfl <| .nil) call46 (κ := .eq (.int .i64 (zAB sel x26))) (fun σ w m hK hr hkn => by have hle_ := KC.le hK; have hA := KC.agree hK; have hM := hM.trans hle_; have h_t := h_t.mono hle_; have hkk_t := hkk_t.mono hle_; have haa_t := haa_t.mono hle_; have hrr_t := hrr_t.mono hle_; have hc3 := hc3.mono hle_; have hcv26 := hcv26.mono hle_; have hv26 := hv26.mono hle_; have hkk26 := hkk26.mono hle_; have haa26 := haa26.mono hle_; have hrr26 := hrr26.mono hle_; have hcv27 := hcv27.mono hle_; have hv27 := hv27.mono hle_; have hkk27 := hkk27.mono hle_; have haa27 := haa27.mono hle_; have hrr27 := hrr27.mono hle_; have hya9 := hya9.mono hle_; have hyb9 := hyb9.mono hle_; exact rkind_t hA hr hv26)) <| .cons rfl (zA (off := 2) rfl underlying33 rfl rfl sizeOf9 rfl) <| .cons rfl (zE rfl hc3 isAgg9 rfl) <| .cons rfl (zV (j := 2) rfl rfl isAgg46 sizeOf46 rfl) <| .cons rfl (zV (j := 3) rfl rfl isAgg46 sizeOf46 rfl) <| .cons rfl (Zr rfl rfl underlying43 sizeOf46 zeroValue46 rfl rfl rfl rfl rfl) <| .cons rfl (zv 73 rfl rfl rfl fun y73 => zm (.cons rfl <| .cons rfl <| .cons rfl <| .nil) underlying46 zeroValue46 (.cons sizeOf3 <| .cons sizeOf9 <| .cons sizeOf9 <| .cons sizeOf3 <| .cons sizeOf43 <| .cons sizeOf44 <| .nil) rfl) <| .consT rfl rfl (fun _ => rfl) rfl (ZH 74 rfl rfl rfl fun y74 => zZ rfl rfl rfl sizeOf46 rfl rfl rfl) <| .nil) fun a11 w11 m11 hst11 hle11 hk11 => ?_
       have hfr11 := hk11.fr (.o 4 <| .nil)
       replace hst11 := hst11.fin (L' := [_, _, _, _]) (.cons rfl <| .cons rfl <| .nil)
       try simp only [List.take_succ_cons, List.take_zero, List.drop_succ_cons, List.drop_zero, List.cons_append, List.nil_append, List.append_nil, List.length_cons, List.length_nil, Nat.zero_add, Nat.reduceAdd] at hst11
       obtain ⟨g73, h73, hst11⟩ := hst11.unx (k := 1) rfl (fun _ => rfl)
       clear hst10 hfr10 hk11
       refine hK35 _ _ ?_
       refine zK ?_
       repeat (with_reducible first | refine zI ?_ | refine zG ?_)
       replace hya9 := hya9.mono hle11
       replace hyb9 := hyb9.mono hle11
       exact zM hst11 hfr11 rfl (.cell rfl (zj (zh (hst11.loc.at_ (k := 1) rfl)) isAgg46 sizeOf46) <| .nil) (⟨by rw [hbd, hk0, hk1]; exact (hst11.take 1).loc, ⟨_, _, none, 0⟩, by rw [hbd, hk0, hk1]; rfl, by rw [hbd, hk0, hk1]; exact cd2_R (by exact h73) hya9 hyb9⟩)
      ·try simp only [nqs] at hb49
       refine zB fun _ hK38 => ?_
       refine rp0 hst8 hfr8 (.cons rfl (zY rfl rfl) <| .cons rfl (zC rfl) <| .nil) fun a9 w9 m9 hst9 hle9 hk9 => ?_
       have hfr9 := hk9.fr (.o 0 <| .o 3 <| .o 4 <| .o 18 <| .n 75 <| .nil)
       clear hst8 hfr8 hk9
       refine hK38 _ _ ?_
       refine zF hfr9 rfl rfl (fun hb75 => ?_) (fun hb75 => ?_)
       ·try simp only [nqs] at hb75
        have hbd := body8 (sel := sel) (tl := tl) (g := (zO sel tl f)) (t := t) (n := n) hb75
        refine zB fun _ hK39 => ?_
        have zq9 := hle8.trans hle9
        have zq10 := hle7.trans zq9
        have zq11 := hle6.trans zq10
        have zq12 := hle5.trans zq11
        have zq13 := hle4.trans zq12
        replace hkk_t := hkk_t.mono zq13
        obtain ⟨p40, vs40, x40, ho40, hd40, hm_x40, ht40, hcv40, hl40, hv40⟩ := hkk_t.nth (k := 0) (by omega)
        cases ho40
        obtain ⟨⟨oK40, cK40, oA40, cA40, oR40, cR40, t040, t140, t240, t340, t440, t540, u040, u140, u240, u340, u440, u540⟩, rfl, hon40, hkk40, haa40, hrr40⟩ := hv40.open_
        dsimp only at hkk40 haa40 hrr40
        have hbg40 := hkk40.big; have hcp40 := hkk40.cap; have hbh40 := haa40.big; have hcq40 := haa40.cap
        have hk0 : kid t 0 = x40 := ZM hd40
        obtain ⟨p41, vs41, x41, ho41, hd41, hm_x41, ht41, hcv41, hl41, hv41⟩ := hkk_t.nth (k := 1) (by omega)
        cases ho41
        obtain ⟨⟨oK41, cK41, oA41, cA41, oR41, cR41, t041, t141, t241, t341, t441, t541, u041, u141, u241, u341, u441, u541⟩, rfl, hon41, hkk41, haa41, hrr41⟩ := hv41.open_
        dsimp only at hkk41 haa41 hrr41
        have hbg41 := hkk41.big; have hcp41 := hkk41.cap; have hbh41 := haa41.big; have hcq41 := haa41.cap
        have hk1 : kid t 1 = x41 := ZM hd41
        have hca := z6 hm_x40; have hcb := z6 hm_x41
        have hba := ZO hm_x40; have hbb := ZO hm_x41
        have hc2 : zS x40 + zS x41 = zR t.kids := by rw [← List.drop_zero (l := t.kids), hd40, zR]; rw [hd41, zR, List.drop_of_length_le (by omega), zR]; omega
        have hga := zAJ sel tl f x40 n (hL.kid hm_x40) (by omega)
        replace hst9 := hst9.more (r := .free) trivial List.nodup_nil (by simp [Res.blocks])
        replace h_t := h_t.mono zq13
        replace haa_t := haa_t.mono zq13
        replace hrr_t := hrr_t.mono zq13
        replace hc3 := hc3.mono zq13
        replace hM := hM.trans zq13
        refine ra0 (tch := [(5, 0, (fun _ => .blk (.pointer (some ⟨r, 0, none⟩)) (.cells #[.int .i64 ((((zO sel tl f) x40 (n)).2 : Nat) : Int), .bool sel, .bool tl] 82))), (6, 2, (fun v => .blk v _)), (7, 2, (fun v => .blkx v _ _))]) hst9 hfr9 (.cons rfl (zD rfl) <| .cons rfl (zA (off := 5) rfl underlying33 rfl rfl sizeOf24 rfl) <| .cons rfl (zE rfl hc3 isAgg24 rfl) <| .cons rfl (zH (k := 0) rfl rfl underlying24 sizeOf33 rfl (by omega)) <| .cons rfl (zN rfl hcv40 isAgg33 sizeOf33 rfl rfl) <| .consT rfl rfl (fun _ => rfl) rfl (ZF rfl (.cons rfl <| .cons rfl <| .nil) call33 (κ := .ex (MP.cd ((zO sel tl f) x40 (n)).1)) (fun σ w m hK hr hkn => by have hle_ := KC.le hK; have hA := KC.agree hK; have hM := hM.trans hle_; have h_t := h_t.mono hle_; have hkk_t := hkk_t.mono hle_; have haa_t := haa_t.mono hle_; have hrr_t := hrr_t.mono hle_; have hc3 := hc3.mono hle_; have hcv40 := hcv40.mono hle_; have hv40 := hv40.mono hle_; have hkk40 := hkk40.mono hle_; have haa40 := haa40.mono hle_; have hrr40 := hrr40.mono hle_; have hcv41 := hcv41.mono hle_; have hv41 := hv41.mono hle_; have hkk41 := hkk41.mono hle_; have haa41 := haa41.mono hle_; have hrr41 := hrr41.mono hle_; exact zAO ih hA hr hv40 (hL.kid hm_x40) (by omega) (by omega) (by omega))) <| .consT rfl rfl (fun _ => rfl) rfl (zQ zeroValue46 rfl) <| .consT rfl rfl (fun _ => rfl) rfl (zT 7 rfl rfl rfl fun y7 => ZH 82 rfl rfl rfl fun y82 => ZU rfl rfl rfl rfl rfl sizeOf46 rfl rfl (fun w m hK => hK.2.one)) <| .nil) fun a10 w10 m10 hst10 hle10 hk10 => ?_
        have hfr10 := hk10.fr (.o 0 <| .o 3 <| .o 4 <| .nil)
        obtain ⟨y42, e42, hy42⟩ := hk10.ex 82 rfl
        obtain ⟨g43, e43, _⟩ := hk10.ex 7 rfl
        replace hfr10 := hfr10.cons e43
        replace hst10 := hst10.fin (L' := [_, _, _]) (.cons e42 <| .cons e43 <| .cons e43 <| .nil)
        try simp only [List.take_succ_cons, List.take_zero, List.drop_succ_cons, List.drop_zero, List.cons_append, List.nil_append, List.append_nil, List.length_cons, List.length_nil, Nat.zero_add, Nat.reduceAdd] at hst10
        obtain ⟨ya9, hya9, hst10⟩ := hst10.unx (k := 2) rfl (fun _ => rfl)
        clear hst9 hfr9 hk10
        refine hK39 _ _ ?_
        refine zB fun _ hK45 => ?_
        replace hst10 := hst10.more (r := .free) trivial List.nodup_nil (by simp [Res.blocks])
        replace h_t := h_t.mono hle10
        replace hkk_t := hkk_t.mono hle10
        replace haa_t := haa_t.mono hle10
        replace hrr_t := hrr_t.mono hle10
        replace hc3 := hc3.mono hle10
        replace hcv40 := hcv40.mono hle10
        replace hv40 := hv40.mono hle10
        replace hkk40 := hkk40.mono hle10
        replace haa40 := haa40.mono hle10
        replace hrr40 := hrr40.mono hle10
        replace hcv41 := hcv41.mono hle10
        replace hv41 := hv41.mono hle10
        replace hkk41 := hkk41.mono hle10
        replace haa41 := haa41.mono hle10
        replace hrr41 := hrr41.mono hle10
        replace hM := hM.trans hle10
        refine ra0 (tch := [(5, 0, (fun _ => .blk (.pointer (some ⟨r, 0, none⟩)) (.cells #[.int .i64 ((((zO sel tl f) x41 (((zO sel tl f) x40 n).2)).2 : Nat) : Int), .bool sel, .bool tl] 82))), (6, 3, (fun v => .blk v _)), (7, 3, (fun v => .blkx v _ _))]) hst10 hfr10 (.cons rfl (zD rfl) <| .cons rfl (zA (off := 5) rfl underlying33 rfl rfl sizeOf24 rfl) <| .cons rfl (zE rfl hc3 isAgg24 rfl) <| .cons rfl (zH (k := 1) rfl rfl underlying24 sizeOf33 rfl (by omega)) <| .cons rfl (zN rfl hcv41 isAgg33 sizeOf33 rfl rfl) <| .consT rfl rfl (fun _ => rfl) rfl (ZF rfl (.cons rfl <| .cons rfl <| .nil) call33 (κ := .ex (MP.cd ((zO sel tl f) x41 (((zO sel tl f) x40 n).2)).1)) (fun σ w m hK hr hkn => by have hle_ := KC.le hK; have hA := KC.agree hK; have hM := hM.trans hle_; have h_t := h_t.mono hle_; have hkk_t := hkk_t.mono hle_; have haa_t := haa_t.mono hle_; have hrr_t := hrr_t.mono hle_; have hc3 := hc3.mono hle_; have hcv40 := hcv40.mono hle_; have hv40 := hv40.mono hle_; have hkk40 := hkk40.mono hle_; have haa40 := haa40.mono hle_; have hrr40 := hrr40.mono hle_; have hcv41 := hcv41.mono hle_; have hv41 := hv41.mono hle_; have hkk41 := hkk41.mono hle_; have haa41 := haa41.mono hle_; have hrr41 := hrr41.mono hle_; have hya9 := hya9.mono hle_; exact zAO ih hA hr hv41 (hL.kid hm_x41) (by omega) (by omega) (by omega))) <| .consT rfl rfl (fun _ => rfl) rfl (zQ zeroValue46 rfl) <| .consT rfl rfl (fun _ => rfl) rfl (zT 8 rfl rfl rfl fun y8 => ZH 88 rfl rfl rfl fun y88 => ZU rfl rfl rfl rfl rfl sizeOf46 rfl rfl (fun w m hK => hK.2.one)) <| .nil) fun a11 w11 m11 hst11 hle11 hk11 => ?_
        have hfr11 := hk11.fr (.o 3 <| .o 4 <| .o 7 <| .nil)
        obtain ⟨y46, e46, hy46⟩ := hk11.ex 88 rfl
        obtain ⟨g47, e47, _⟩ := hk11.ex 8 rfl
        replace hfr11 := hfr11.cons e47
        replace hst11 := hst11.fin (L' := [_, _, _, _]) (.cons e46 <| .cons e47 <| .cons e47 <| .nil)
        try simp only [List.take_succ_cons, List.take_zero, List.drop_succ_cons, List.drop_zero, List.cons_append, List.nil_append, List.append_nil, List.length_cons, List.length_nil, Nat.zero_add, Nat.reduceAdd] at hst11
        obtain ⟨yb9, hyb9, hst11⟩ := hst11.unx (k := 3) rfl (fun _ => rfl)
        clear hst10 hfr10 hk11
        refine hK45 _ _ ?_
        refine zB fun _ hK49 => ?_
        refine zq 7 (by kernel_rfl) ?_
        replace hc3 := hc3.mono hle11
        refine zf (tch := []) hst11 hfr11 (by kernel_rfl) (by kernel_rfl) (by kernel_rfl) (.cons rfl (zA (off := 2) rfl underlying33 rfl rfl sizeOf9 rfl) <| .cons rfl (zE rfl hc3 isAgg9 rfl) <| .cons rfl (zA (off := 3) rfl underlying33 rfl rfl sizeOf9 rfl) <| .cons rfl (zE rfl hc3 isAgg9 rfl) <| .cons rfl (zV (j := 2) rfl rfl isAgg46 sizeOf46 rfl) <| .cons rfl (zV (j := 3) rfl rfl isAgg46 sizeOf46 rfl) <| .cons rfl (Zr rfl rfl underlying43 sizeOf46 zeroValue46 rfl rfl rfl rfl rfl) <| .nil) fun a12 w12 m12 hst12 hle12 hk12 => ?_
        have hfr12 := hk12.fr (.o 3 <| .o 4 <| .o 7 <| .o 8 <| .n 90 <| .n 92 <| .nil)
        obtain ⟨g95, e50, h95⟩ := hk12.ex 95 rfl
        replace hfr12 := hfr12.cons e50
        clear hst11 hfr11 hk12
        refine zf (tch := [(1, 1, (fun _ => .blk _ _))]) hst12 hfr12 (by kernel_rfl) (by kernel_rfl) (by kernel_rfl) (.cons rfl (zm (.cons rfl <| .cons rfl <| .cons rfl <| .cons rfl <| .nil) underlying46 zeroValue46 (.cons sizeOf3 <| .cons sizeOf9 <| .cons sizeOf9 <| .cons sizeOf3 <| .cons sizeOf43 <| .cons sizeOf44 <| .nil) rfl) <| .consT rfl rfl (fun _ => rfl) rfl (zZ rfl rfl rfl sizeOf46 rfl rfl rfl) <| .nil) fun a13 w13 m13 hst13 hle13 hk13 => ?_
        have hfr13 := hk13.fr (.o 3 <| .o 4 <| .o 7 <| .o 8 <| .o 90 <| .o 92 <| .o 95 <| .nil)
        replace hst13 := hst13.fin (L' := [_, _, _, _]) (.cons rfl <| .nil)
        try simp only [List.take_succ_cons, List.take_zero, List.drop_succ_cons, List.drop_zero, List.cons_append, List.nil_append, List.append_nil, List.length_cons, List.length_nil, Nat.zero_add, Nat.reduceAdd] at hst13
        clear hst12 hfr12 hk13
        refine hK49 _ _ ?_
        refine zK ?_
        repeat (with_reducible first | refine zI ?_ | refine zG ?_)
        have zq14 := hle12.trans hle13
        have zq15 := hle11.trans zq14
        replace hya9 := hya9.mono zq15
        replace hyb9 := hyb9.mono zq14
        replace h95 := h95.mono hle13
        exact zM hst13 hfr13 rfl (.cell rfl (zj (zh (hst13.loc.at_ (k := 1) rfl)) isAgg46 sizeOf46) <| .nil) (⟨by rw [hbd, hk0, hk1]; exact (hst13.take 1).loc, ⟨_, _, none, 0⟩, by rw [hbd, hk0, hk1]; rfl, by rw [hbd, hk0, hk1]; exact cd2_R h95 hya9 hyb9⟩)
       ·try simp only [nqs] at hb75
        refine zB fun _ hK52 => ?_
        refine rp0 hst9 hfr9 (.cons rfl (zY rfl rfl) <| .cons rfl (zC rfl) <| .nil) fun a10 w10 m10 hst10 hle10 hk10 => ?_
        have hfr10 := hk10.fr (.o 0 <| .o 3 <| .o 4 <| .n 97 <| .nil)
        clear hst9 hfr9 hk10
        refine hK52 _ _ ?_
        refine zF hfr10 rfl rfl (fun hb97 => ?_) (fun hb97 => ?_)
        ·try simp only [nqs] at hb97
         refine zB fun _ hK53 => ?_
         refine zq 3 (by kernel_rfl) ?_
         have zq16 := hle9.trans hle10
         have zq17 := hle8.trans zq16
         have zq18 := hle7.trans zq17
         have zq19 := hle6.trans zq18
         have zq20 := hle5.trans zq19
         have zq21 := hle4.trans zq20
         replace h_t := h_t.mono zq21
         replace hkk_t := hkk_t.mono zq21
         replace haa_t := haa_t.mono zq21
         replace hrr_t := hrr_t.mono zq21
         replace hc3 := hc3.mono zq21
         replace hM := hM.trans zq21
         refine zf (tch := [(2, 0, (fun _ => .blk (.pointer (some ⟨r, 0, none⟩)) (.cells #[.int .i64 (((ZT sel tl (zO sel tl f) t n).2 : Nat) : Int), .bool sel, .bool tl] 82)))]) hst10 hfr10 (by kernel_rfl) (by kernel_rfl) (by kernel_rfl) (.cons rfl (zD rfl) <| .cons rfl (zN rfl hc3 isAgg33 sizeOf33 rfl rfl) <| .consT rfl rfl (fun _ => rfl) rfl (ZF rfl (.cons rfl <| .cons rfl <| .nil) call47 (κ := .ex (MP.cd (ZT sel tl (zO sel tl f) t n).1)) (fun σ w m hK hr hkn => by have hle_ := KC.le hK; have hA := KC.agree hK; have hM := hM.trans hle_; have h_t := h_t.mono hle_; have hkk_t := hkk_t.mono hle_; have haa_t := haa_t.mono hle_; have hrr_t := hrr_t.mono hle_; have hc3 := hc3.mono hle_; exact rprompt_t ih hA hr h_t hb97 hL hf hbk hnb)) <| .nil) fun a11 w11 m11 hst11 hle11 hk11 => ?_
         have hfr11 := hk11.fr (.o 0 <| .o 3 <| .o 4 <| .nil)
         obtain ⟨yp, e54, hyp⟩ := hk11.ex 101 rfl
         replace hfr11 := hfr11.cons e54
         replace hst11 := hst11.fin (L' := [_, _]) (.cons e54 <| .nil)
         clear hst10 hfr10 hk11
         refine zf (tch := [(0, 1, (fun _ => .blk _ _))]) hst11 hfr11 (by kernel_rfl) (by kernel_rfl) (by kernel_rfl) (.consT rfl rfl (fun _ => rfl) rfl (zZ rfl rfl rfl sizeOf46 rfl rfl rfl) <| .nil) fun a12 w12 m12 hst12 hle12 hk12 => ?_
         have hfr12 := hk12.fr (.o 0 <| .o 3 <| .o 4 <| .o 101 <| .nil)
         replace hst12 := hst12.fin (L' := [_, _]) (.cons rfl <| .nil)
         try simp only [List.take_succ_cons, List.take_zero, List.drop_succ_cons, List.drop_zero, List.cons_append, List.nil_append, List.append_nil, List.length_cons, List.length_nil, Nat.zero_add, Nat.reduceAdd] at hst12
         clear hst11 hfr11 hk12
         refine hK53 _ _ ?_
         refine zK ?_
         repeat (with_reducible first | refine zI ?_ | refine zG ?_)
         replace hyp := hyp.mono hle12
         exact zM hst12 hfr12 rfl (.cell rfl (zj (zh (hst12.loc.at_ (k := 1) rfl)) isAgg46 sizeOf46) <| .nil) (⟨(hst12.take 1).loc, yp, rfl, hyp⟩)
        ·try simp only [nqs] at hb97
         refine zJ ?_
         refine hK4 _ _ ?_
         refine zB fun _ hK56 => ?_
         have hlt9 : ¬ ZW t = true := by unfold ZW; simp only [Bool.and_eq_true, decide_eq_true_eq]; omega
         have hbd := bodyC (sel := sel) (tl := tl) (g := (zO sel tl f)) (t := t) (n := n) hb49 hb75 hb97 hb37 hlt9
         have hfl := from_le hL.here
         have htk9 : (t.kids.take (ze t)).length = ze t := by rw [List.length_take]; omega
         have h129 : t.kind = 12 → t.kids.length = 1 := fun h => hln.2.2.2.1 (.inl h)
         have zq22 := hle9.trans hle10
         have zq23 := hle8.trans zq22
         have zq24 := hle7.trans zq23
         have zq25 := hle6.trans zq24
         have zq26 := hle5.trans zq25
         have zq27 := hle4.trans zq26
         replace hc3 := hc3.mono zq27
         refine rp0 hst10 hfr10 (.cons rfl (zA (off := 5) rfl underlying33 rfl rfl sizeOf24 rfl) <| .cons rfl (zE rfl hc3 isAgg24 rfl) <| .cons rfl (zb rfl underlying24) <| .cons rfl (zC rfl) <| .nil) fun a11 w11 m11 hst11 hle11 hk11 => ?_
         have hfr11 := hk11.fr (.o 0 <| .o 3 <| .o 4 <| .n 9 <| .nil)
         clear hst10 hfr10 hk11
         refine hK56 _ _ ?_
         refine zB fun _ hK57 => ?_
         replace hst11 := hst11.more (r := .free) trivial List.nodup_nil (by simp [Res.blocks])
         replace hc3 := hc3.mono hle11
         refine ra0 (tch := [(3, 2, (fun v => .blk v _)), (4, 2, (fun v => .blk v _))]) hst11 hfr11 (.cons rfl (zA (off := 2) rfl underlying33 rfl rfl sizeOf9 rfl) <| .cons rfl (zE rfl hc3 isAgg9 rfl) <| .cons rfl (zm (.cons rfl <| .nil) underlying46 zeroValue46 (.cons sizeOf3 <| .cons sizeOf9 <| .cons sizeOf9 <| .cons sizeOf3 <| .cons sizeOf43 <| .cons sizeOf44 <| .nil) rfl) <| .consT rfl rfl (fun _ => rfl) rfl (zQ zeroValue46 rfl) <| .consT rfl rfl (fun _ => rfl) rfl (zT 10 rfl rfl rfl fun y10 => zc rfl rfl rfl rfl rfl sizeOf46 rfl rfl rfl) <| .nil) fun a12 w12 m12 hst12 hle12 hk12 => ?_
         have hfr12 := hk12.fr (.o 0 <| .o 3 <| .o 4 <| .o 9 <| .nil)
         obtain ⟨g10, e58, _⟩ := hk12.ex 10 rfl
         replace hfr12 := hfr12.cons e58
         replace hst12 := hst12.fin (L' := [_, _, _]) (.cons e58 <| .cons e58 <| .nil)
         try simp only [List.take_succ_cons, List.take_zero, List.drop_succ_cons, List.drop_zero, List.cons_append, List.nil_append, List.append_nil, List.length_cons, List.length_nil, Nat.zero_add, Nat.reduceAdd] at hst12
         clear hst11 hfr11 hk12
         refine hK57 _ _ ?_
         refine zAQ (T := [(0, _), (3, _), (4, _), (10, _)]) (fun (y : Int × Nat) => ([(9, .int .i64 (y.2 : Int))] : List (Nat × Value))) (fun y => [_, _, .blk (.pointer (some ⟨g10, 0, none⟩)) (.cells (cdV ⟨y.1, t.name, [], 0, [], []⟩ ⟨none, 0, none, 0⟩).toArray 46)]) (fun (y : Int × Nat) m => (fun (kk : Int) (nf : Nat) => (kk = zAH t.kind) ∧ (nf = ze t)) y.1 y.2) (((0 : Int), t.kids.length)) ⟨hst12, MLe.refl _, hfr12.sub (.c <| .c <| .c <| .c <| .c <| .nil), trivial⟩ (fun y a13 w13 m13 hh13 => ?_) (fun K59 hj59 => ?_)
         ·have hst13 := hh13.st; have hle13 := hh13.le; have hfr13 := hh13.fr; have hrel := hh13.rel; clear hh13
          clear hst12 hfr12
          obtain ⟨kk, nf⟩ := y
          dsimp only at hrel hfr13 hst13
          obtain ⟨hkk9, hnf9⟩ := hrel
          subst hkk9; subst hnf9
          refine zAQ (T := [(9, _), (0, _), (3, _), (4, _), (10, _)]) (fun (y : Str) => ([] : List (Nat × Value))) (fun y => [_, _, .blk (.pointer (some ⟨g10, 0, none⟩)) (.cells (cdV ⟨(zAH t.kind), y, [], 0, [], []⟩ ⟨none, 0, none, 0⟩).toArray 46)]) (fun (y : Str) m => (fun (nm : Str) => (nm = zBE t)) y) ((t.name)) ⟨hst13, MLe.refl _, hfr13.sub (.c <| .c <| .c <| .c <| .c <| .nil), trivial⟩ (fun y a14 w14 m14 hh14 => ?_) (fun K60 hj60 => ?_)
          ·have hst14 := hh14.st; have hle14 := hh14.le; have hfr14 := hh14.fr; have hrel := hh14.rel; clear hh14
           clear hst13 hfr13
           obtain ⟨nm, rfl⟩ : ∃ z, z = y := ⟨_, rfl⟩
           try dsimp only at hrel
           try dsimp only at hfr14
           try dsimp only at hst14
           have hnm := hrel
           subst hnm
           refine zB fun _ hK61 => ?_
           refine zq 6 (by kernel_rfl) ?_
           refine zEA 5 (by kernel_rfl) ?_
           have zq28 := hle13.trans hle14
           have zq29 := hle12.trans zq28
           have zq30 := hle11.trans zq29
           have zq31 := zq27.trans zq30
           replace hkk_t := hkk_t.mono zq31
           have hct62 : Tms _ _ _ _ ((t.kids.take (ze t)).drop (0)) := hkk_t.cut (l := 0) (k := ze t) (by omega) (by omega)
           have hcl62 : (ze t) - (0) = (((t.kids.take (ze t)).drop (0))).length := hct62.len.symm
           have hcu62 : Tms _ _ _ _ ((t.kids.take (ze t)).drop (0)) := hct62.lenL
           replace hc3 := hc3.mono zq29
           refine zf (tch := []) hst14 hfr14 (by kernel_rfl) (by kernel_rfl) (by kernel_rfl) (.cons rfl (zD rfl) <| .cons rfl (zA (off := 5) rfl underlying33 rfl rfl sizeOf24 rfl) <| .cons rfl (zE rfl hc3 isAgg24 rfl) <| .cons rfl (zD rfl) <| .cons rfl (zBN (l := 0) (h := ze t) rfl .none (.some rfl (by omega)) underlying24 sizeOf33 (by first | omega | (dsimp only; omega)) (by first | omega | (dsimp only; omega))) <| .nil) fun a15 w15 m15 hst15 hle15 hk15 => ?_
           have hfr15 := hk15.fr (.o 9 <| .o 0 <| .o 3 <| .o 4 <| .o 10 <| .n 143 <| .n 147 <| .nil)
           clear hst14 hfr14 hk15
           replace hct62 := hct62.mono hle15
           refine call_res [] [_, _] [_] hst15 hfr15 rfl (.cons rfl <| .cons rfl <| .nil) call48 (rtake_r ih hst15.agree (hst15.loc.at_ (k := 0) rfl) hct62 (fun u hu => hL.kid (zCO hu)) (fun u hu => by have := z6 (zCO hu); omega) (fun u hu => by have := ZO (zCO hu); omega) (by rw [List.drop_zero]; have := zAD t.kids (ze t); omega)) ?_
           intro vr16 w16 m16 rs16 hst16 hle16 hp16
           obtain ⟨o12, c12, o13, c13, rfl, hvq9, hta, htb⟩ := hp16
           simp only [List.nil_append, List.cons_append, List.drop_zero] at hst16
           rw [List.drop_zero] at hta htb
           have hfr16 := (hfr15.sub (T' := [(9, _), (0, _), (3, _), (4, _), (10, _), (143, _), (147, _)]) (.cons rfl <| .cons rfl <| .cons rfl <| .cons rfl <| .cons rfl <| .cons rfl <| .cons rfl <| .nil)).put (d := 148) (v := vr16) (by kernel_rfl) rfl
           clear hst15 hfr15
           subst hvq9
           refine zf (tch := []) hst16 hfr16 (by kernel_rfl) (by kernel_rfl) (by kernel_rfl) (.cons rfl (zD rfl) <| .cons rfl (zW rfl rfl) <| .cons rfl (zW rfl rfl) <| .cons rfl (zC rfl) <| .cons rfl (zC rfl) <| .nil) fun a17 w17 m17 hst17 hle17 hk17 => ?_
           have hfr17 := hk17.fr (.o 148 <| .o 9 <| .o 0 <| .o 3 <| .o 4 <| .o 10 <| .o 143 <| .o 147 <| .n 11 <| .n 12 <| .nil)
           clear hst16 hfr16 hk17
           rw [List.drop_zero] at hfr17
           refine hK61 _ _ ?_
           refine zB fun _ hK63 => ?_
           have hgt := zDE (zAJ sel tl f) (t.kids.take (ze t)) n (fun u hu => ⟨hL.kid (List.mem_of_mem_take hu), by have := z6 (List.mem_of_mem_take hu); omega⟩)
           have hsp := zAD t.kids (ze t)
           have htl := zDR (zO sel tl f) (t.kids.take (ze t)) n
           have hkl9 := Z0 t.kids
           refine ra0 (tch := [(2, 4, (fun _ => .blk _ _))]) hst17 hfr17 (.cons rfl (zD rfl) <| .cons rfl (zA (off := 4) rfl underlying46 rfl rfl sizeOf43 rfl) <| .consT rfl rfl (fun _ => rfl) rfl (zy rfl rfl rfl sizeOf43 rfl rfl rfl) <| .nil) fun a18 w18 m18 hst18 hle18 hk18 => ?_
           have hfr18 := hk18.fr (.o 9 <| .o 0 <| .o 3 <| .o 4 <| .o 10 <| .o 11 <| .nil)
           replace hst18 := hst18.fin (L' := [_, _, _, _, _]) (.cons rfl <| .nil)
           try simp only [List.take_succ_cons, List.take_zero, List.drop_succ_cons, List.drop_zero, List.cons_append, List.nil_append, List.append_nil, List.length_cons, List.length_nil, Nat.zero_add, Nat.reduceAdd] at hst18
           clear hst17 hfr17 hk18
           have hst18 := hst18.more (r := .rowx (.slice none 0 0) 0 9 78 (MP.reads (fun m vs t => CaR m t vs) 9 [])) Zy List.nodup_nil (by simp [Res.blocks, ZA])
           have hsl_ar : Cas m18 none ([] : List Ca).length 0 ([] : List Ca) := Sl.empty
           refine hK63 _ _ ?_
           refine zB fun _ hK64 => ?_
           refine zB fun _ hK65 => ?_
           refine rp0 hst18 hfr18 (.cons rfl (zD rfl) <| .cons rfl (zC rfl) <| .nil) fun a19 w19 m19 hst19 hle19 hk19 => ?_
           have hfr19 := hk19.fr (.o 9 <| .o 0 <| .o 3 <| .o 4 <| .o 10 <| .o 11 <| .n 13 <| .nil)
           clear hst18 hfr18 hk19
           refine hK65 _ _ ?_
           refine zL ?_
           have zq32 := hle18.trans hle19
           have zq33 := hle17.trans zq32
           replace hta := hta.mono zq33
           refine zg (T := [(9, _), (0, _), (3, _), (4, _), (10, _), (11, _)]) (fun (y : Nat × Nat × Option Addr × Nat × List Cd) => ([(13, .int .i64 ((ze t + y.1 : Nat) : Int))] : List (Nat × Value))) (fun y => [.blk (.pointer (some ⟨r, 0, none⟩)) (.cells #[.int .i64 ((y.2.1 : Nat) : Int), .bool sel, .bool tl] 82), _, .rowx (nz (.slice y.2.2.1 y.2.2.2.2.length y.2.2.2.1)) y.2.2.2.2.length 6 46 (MP.reads (fun m vs t => CdR m t vs) 6 y.2.2.2.2), _, .blk (.pointer (some ⟨g10, 0, none⟩)) (.cells (cdV ⟨(zAH t.kind), (zBE t), [], 0, y.2.2.2.2, []⟩ ⟨y.2.2.1, y.2.2.2.1, none, 0⟩).toArray 46), _]) (fun (y : Nat × Nat × Option Addr × Nat × List Cd) m => (fun (y : Nat) (nq : Nat) (gao : Option Addr) (gap : Nat) (ga : List Cd) => (y ≤ (t.kids.length - ze t)) ∧ (Cds m gao ga.length gap ga) ∧ ((ZS (zO sel tl f) (t.kids.take (ze t)) n) ++ zCQ (zO sel tl f) (t.kids.drop (ze t)) (Zq (zO sel tl f) (t.kids.take (ze t)) n) = ga ++ zCQ (zO sel tl f) (t.kids.drop (ze t + y)) nq ∧ ga.length ≤ ze t + y) ∧ (zDQ (zO sel tl f) (t.kids.drop (ze t)) (Zq (zO sel tl f) (t.kids.take (ze t)) n) = zDQ (zO sel tl f) (t.kids.drop (ze t + y)) nq) ∧ (nq + zR (t.kids.drop (ze t + y)) ≤ (Zq (zO sel tl f) (t.kids.take (ze t)) n) + zR (t.kids.drop (ze t)))) y.1 y.2.1 y.2.2.1 y.2.2.2.1 y.2.2.2.2) (fun y => (t.kids.length - ze t) - y.1) ((0, (Zq (zO sel tl f) (t.kids.take (ze t)) n), o12, c12, (ZS (zO sel tl f) (t.kids.take (ze t)) n))) ⟨hst19, MLe.refl _, hfr19.sub (.c <| .c <| .c <| .c <| .c <| .c <| .c <| .nil), ⟨Nat.zero_le _, hta, ⟨rfl, by show (ZS _ _ _).length ≤ _; omega⟩, rfl, Nat.le_refl _⟩⟩ fun y a20 w20 m20 hh20 => ?_
           have hst20 := hh20.st; have hle20 := hh20.le; have hfr20 := hh20.fr; have hrel := hh20.rel; clear hh20
           clear hst19 hfr19
           obtain ⟨y, nq, gao, gap, ga⟩ := y
           dsimp only at hrel hfr20 hst20
           obtain ⟨hyn, hsl_ga, hlen_ga, hj1, hj2⟩ := hrel
           have hlh20 := hle20
           refine zB fun _ hK67 => ?_
           refine zB fun _ hK68 => ?_
           have zq34 := zq33.trans hle20
           have zq35 := hle16.trans zq34
           have zq36 := hle15.trans zq35
           replace hc3 := hc3.mono zq36
           refine rp0 hst20 hfr20 (.cons rfl (zD rfl) <| .cons rfl (zA (off := 5) rfl underlying33 rfl rfl sizeOf24 rfl) <| .cons rfl (zE rfl hc3 isAgg24 rfl) <| .cons rfl (zb rfl underlying24) <| .cons rfl (z1 rfl rfl) <| .nil) fun a21 w21 m21 hst21 hle21 hk21 => ?_
           have hfr21 := hk21.fr (.o 13 <| .o 9 <| .o 0 <| .o 3 <| .o 4 <| .o 10 <| .o 11 <| .n 158 <| .nil)
           clear hst20 hfr20 hk21
           refine hK68 _ _ ?_
           refine zF hfr21 rfl rfl (fun hb158 => ?_) (fun hb158 => ?_)
           ·try simp only [nqs] at hb158
            refine zJ ?_
            refine hK67 _ _ ?_
            refine zB fun _ hK69 => ?_
            refine zL ?_
            refine zB fun _ hK70 => ?_
            have hyn9 : ze t + y < t.kids.length := by omega
            have zq37 := zq36.trans hle21
            replace hkk_t := hkk_t.mono zq37
            obtain ⟨p71, vs71, x71, ho71, hd71, hm_x71, ht71, hcv71, hl71, hv71⟩ := hkk_t.nth (k := ze t + y) (by omega)
            cases ho71
            obtain ⟨⟨oK71, cK71, oA71, cA71, oR71, cR71, t071, t171, t271, t371, t471, t571, u071, u171, u271, u371, u471, u571⟩, rfl, hon71, hkk71, haa71, hrr71⟩ := hv71.open_
            dsimp only at hkk71 haa71 hrr71
            have hbg71 := hkk71.big; have hcp71 := hkk71.cap; have hbh71 := haa71.big; have hcq71 := haa71.cap
            rw [hd71] at hlen_ga hj1 hj2
            rw [zCQ] at hlen_ga; rw [zDQ] at hj1; rw [zR] at hj2
            have hLx := hL.kid hm_x71; have hfx := z6 hm_x71; have hbx := ZO hm_x71
            have hgn := zAJ sel tl f x71 nq hLx (by omega)
            have hlg := hlen_ga.2
            replace hst21 := hst21.more (r := .free) trivial List.nodup_nil (by simp [Res.blocks])
            have zq38 := zq31.trans zq37
            replace h_t := h_t.mono zq38
            replace haa_t := haa_t.mono zq38
            replace hrr_t := hrr_t.mono zq38
            replace hM := hM.trans zq38
            replace hcu62 := hcu62.mono zq37
            have zq39 := zq35.trans hle21
            replace hct62 := hct62.mono zq39
            have zq40 := zq34.trans hle21
            replace htb := htb.mono zq40
            have zq41 := hle20.trans hle21
            have zq42 := hle19.trans zq41
            replace hsl_ar := hsl_ar.mono zq42
            replace hta := hta.mono zq41
            replace hc3 := hc3.mono hle21
            replace hsl_ga := hsl_ga.mono hle21
            refine ra0 (tch := [(6, 0, (fun _ => .blk (.pointer (some ⟨r, 0, none⟩)) (.cells #[.int .i64 ((((zO sel tl f) x71 (nq)).2 : Nat) : Int), .bool sel, .bool tl] 82))), (7, 6, (fun v => .blk v _)), (8, 6, (fun v => .blkx v _ _))]) hst21 hfr21 (.cons rfl (zD rfl) <| .cons rfl (zA (off := 5) rfl underlying33 rfl rfl sizeOf24 rfl) <| .cons rfl (zE rfl hc3 isAgg24 rfl) <| .cons rfl (zD rfl) <| .cons rfl (zH (k := ze t + y) rfl rfl underlying24 sizeOf33 rfl (by omega)) <| .cons rfl (zN rfl hcv71 isAgg33 sizeOf33 rfl rfl) <| .consT rfl rfl (fun _ => rfl) rfl (ZF rfl (.cons rfl <| .cons rfl <| .nil) call33 (κ := .ex (MP.cd ((zO sel tl f) x71 (nq)).1)) (fun σ w m hK hr hkn => by have hle_ := KC.le hK; have hA := KC.agree hK; have hM := hM.trans hle_; have h_t := h_t.mono hle_; have hkk_t := hkk_t.mono hle_; have haa_t := haa_t.mono hle_; have hrr_t := hrr_t.mono hle_; have hc3 := hc3.mono hle_; have hct62 := hct62.mono hle_; have hcu62 := hcu62.mono hle_; have hta := hta.mono hle_; have htb := htb.mono hle_; have hsl_ar := hsl_ar.mono hle_; have hsl_ga := hsl_ga.mono hle_; have hcv71 := hcv71.mono hle_; have hv71 := hv71.mono hle_; have hkk71 := hkk71.mono hle_; have haa71 := haa71.mono hle_; have hrr71 := hrr71.mono hle_; exact zAO ih hA hr hv71 hLx (by omega) (by omega) (by omega))) <| .consT rfl rfl (fun _ => rfl) rfl (zQ zeroValue46 rfl) <| .consT rfl rfl (fun _ => rfl) rfl (zT 14 rfl rfl rfl fun y14 => ZH 167 rfl rfl rfl fun y167 => ZU rfl rfl rfl rfl rfl sizeOf46 rfl rfl (fun w m hK => hK.2.one)) <| .nil) fun a22 w22 m22 hst22 hle22 hk22 => ?_
            have hfr22 := hk22.fr (.o 13 <| .o 9 <| .o 0 <| .o 3 <| .o 4 <| .o 10 <| .o 11 <| .nil)
            obtain ⟨y72, e72, hy72⟩ := hk22.ex 167 rfl
            obtain ⟨g73, e73, _⟩ := hk22.ex 14 rfl
            replace hfr22 := hfr22.cons e73
            replace hst22 := hst22.fin (L' := [_, _, _, _, _, _, _]) (.cons e72 <| .cons e73 <| .cons e73 <| .nil)
            try simp only [List.take_succ_cons, List.take_zero, List.drop_succ_cons, List.drop_zero, List.cons_append, List.nil_append, List.append_nil, List.length_cons, List.length_nil, Nat.zero_add, Nat.reduceAdd] at hst22
            obtain ⟨yc, hyc, hst22⟩ := hst22.unx (k := 6) rfl (fun _ => rfl)
            clear hst21 hfr21 hk22
            refine hK70 _ _ ?_
            refine ra0 (tch := [(4, 2, (fun v => .rowx (nz v) _ _ _ _)), (6, 4, (fun u => .blk _ (.cells (_ ++ [u] ++ _).toArray _)))]) hst22 hfr22 (.cons rfl (zA (off := 4) rfl underlying46 rfl rfl sizeOf43 rfl) <| .cons rfl (zP (j := 4) rfl rfl isAgg43 rfl) <| .cons rfl (zV (j := 6) rfl rfl isAgg46 sizeOf46 rfl) <| .cons rfl (zp rfl underlying43 sizeOf46 zeroValue46 rfl rfl rfl rfl) <| .consT rfl rfl (fun _ => rfl) rfl (zT 171 rfl rfl rfl fun y171 => ZN (size := 6) (bytes := 96) (l := ga) (l' := [((zO sel tl f) x71 nq).1]) rfl rfl (fun _ => by first | exact .inl rfl | exact .inr (.inl rfl)) underlying43 type46 rfl rfl rfl rfl (fun w m hK => Sl.one (R := fun m vs t => CdR m t vs) hK.2 hyc.len (hyc.mono (KC.le hK))) rfl (by decide) (by simp only [maxLen]; omega) (by omega)) <| .cons rfl (zA (off := 4) rfl underlying46 rfl rfl sizeOf43 rfl) <| .consT rfl rfl (fun _ => rfl) rfl (zT 172 rfl rfl rfl fun y172 => Zx rfl rfl rfl rfl rfl sizeOf43 rfl rfl rfl) <| .nil) fun a23 w23 m23 hst23 hle23 hk23 => ?_
            have hfr23 := hk23.fr (.o 13 <| .o 9 <| .o 0 <| .o 3 <| .o 4 <| .o 10 <| .o 11 <| .nil)
            obtain ⟨⟨ks_75o, ks_75p⟩, e76, hsl_ks_75⟩ := hk23.ex 172 rfl
            replace hst23 := hst23.fin (L' := [_, _, _, _, _, _, _]) (.cons e76 <| .cons e76 <| .nil)
            try simp only [List.take_succ_cons, List.take_zero, List.drop_succ_cons, List.drop_zero, List.cons_append, List.nil_append, List.append_nil, List.length_cons, List.length_nil, Nat.zero_add, Nat.reduceAdd] at hst23
            clear hst22 hfr22 hk23
            replace hsl_ks_75 : Cds m23 ks_75o (ga ++ [((zO sel tl f) x71 nq).1]).length ks_75p (ga ++ [((zO sel tl f) x71 nq).1]) := hsl_ks_75
            refine hK69 _ _ ?_
            refine rp0 hst23 hfr23 (.cons rfl (zD rfl) <| .cons rfl (zk rfl rfl ⟨by omega, by omega⟩) <| .cons rfl (zC rfl) <| .nil) fun a24 w24 m24 hst24 hle24 hk24 => ?_
            have hfr24 := hk24.fr (.o 9 <| .o 0 <| .o 3 <| .o 4 <| .o 10 <| .o 11 <| .n 13 <| .nil)
            clear hst23 hfr23 hk24
            have hst24 := hst24.take 6
            replace hsl_ks_75 := hsl_ks_75.mono hle24
            have zq43 := hle23.trans hle24
            have zq44 := hle22.trans zq43
            have zq45 := hle21.trans zq44
            have hlh24 := hlh20.trans zq45
            exact ⟨(y + 1, ((zO sel tl f) x71 nq).2, ks_75o, ks_75p, (ga ++ [((zO sel tl f) x71 nq).1])), m24, by show (t.kids.length - ze t) - (y + 1) < (t.kids.length - ze t) - y; omega, ⟨hst24, hlh24, hfr24.sub (.c <| .c <| .c <| .c <| .c <| .c <| .c <| .nil), ⟨by show y + 1 ≤ (t.kids.length - ze t); omega, hsl_ks_75, ⟨by rw [hlen_ga.1]; simp; rfl, by show (ga ++ [_]).length ≤ ze t + (y + 1); simp; have := hlen_ga.2; omega⟩, hj1, by show ((zO sel tl f) x71 nq).2 + zR (t.kids.drop (ze t + y + 1)) ≤ _; omega⟩⟩⟩
           ·try simp only [nqs] at hb158
            have hge : y = t.kids.length - ze t := by omega
            rw [show t.kids.drop (ze t + y) = [] from List.drop_of_length_le (by omega)] at hlen_ga hj1 hj2
            rw [zCQ, List.append_nil] at hlen_ga
            rw [zDQ] at hj1
            have hnr : nq = zCS (zO sel tl f) t n := by rw [← hj1]; rfl
            have hgk : ga = (ZS (zO sel tl f) (t.kids.take (ze t)) n) ++ zCQ (zO sel tl f) (t.kids.drop (ze t)) (Zq (zO sel tl f) (t.kids.take (ze t)) n) := by rw [← hlen_ga.1]
            refine zi ?_
            refine hK64 _ _ ?_
            refine zB fun _ hK77 => ?_
            refine zB fun _ hK78 => ?_
            refine rp0 hst21 hfr21 (.cons rfl (zC rfl) <| .nil) fun a22 w22 m22 hst22 hle22 hk22 => ?_
            have hfr22 := hk22.fr (.o 13 <| .o 9 <| .o 0 <| .o 3 <| .o 4 <| .o 10 <| .o 11 <| .n 15 <| .nil)
            clear hst21 hfr21 hk22
            refine hK78 _ _ ?_
            refine zL ?_
            have zq46 := hle21.trans hle22
            have hlh22 := hlh20.trans zq46
            have hlq79 := hlh22
            have zq47 := hle20.trans zq46
            have zq48 := hle19.trans zq47
            replace hsl_ar := hsl_ar.mono zq48
            refine zg (T := [(13, _), (9, _), (0, _), (3, _), (4, _), (10, _), (11, _)]) (fun (y : Nat × Nat × Option Addr × Nat × List Ca) => ([(15, .int .i64 (y.1 : Int))] : List (Nat × Value))) (fun y => [.blk (.pointer (some ⟨r, 0, none⟩)) (.cells #[.int .i64 ((y.2.1 : Nat) : Int), .bool sel, .bool tl] 82), _, _, _, .blk (.pointer (some ⟨g10, 0, none⟩)) (.cells (cdV ⟨(zAH t.kind), (zBE t), [], 0, ga, y.2.2.2.2⟩ ⟨gao, gap, y.2.2.1, y.2.2.2.1⟩).toArray 46), .rowx (nz (.slice y.2.2.1 y.2.2.2.2.length y.2.2.2.1)) y.2.2.2.2.length 9 78 (MP.reads (fun m vs t => CaR m t vs) 9 y.2.2.2.2)]) (fun (y : Nat × Nat × Option Addr × Nat × List Ca) m => (fun (y : Nat) (nr : Nat) (gco : Option Addr) (gcp : Nat) (gc : List Ca) => (y ≤ t.arms.length) ∧ (Cas m gco gc.length gcp gc) ∧ (zDF (zO sel tl f) t.arms nq = gc ++ zDF (zO sel tl f) (t.arms.drop y) nr ∧ gc.length = y) ∧ (zCh (zO sel tl f) t.arms nq = zCh (zO sel tl f) (t.arms.drop y) nr) ∧ (nr + zr (t.arms.drop y) ≤ nq + zr t.arms)) y.1 y.2.1 y.2.2.1 y.2.2.2.1 y.2.2.2.2) (fun y => t.arms.length - y.1) ((0, nq, none, 0, ([] : List Ca))) ⟨hst22, MLe.refl _, hfr22.sub (.c <| .c <| .c <| .c <| .c <| .c <| .c <| .c <| .nil), ⟨Nat.zero_le _, hsl_ar, ⟨rfl, rfl⟩, rfl, Nat.le_refl _⟩⟩ fun y a23 w23 m23 hh23 => ?_
            have hst23 := hh23.st; have hle23 := hh23.le; have hfr23 := hh23.fr; have hrel := hh23.rel; clear hh23
            clear hst22 hfr22
            obtain ⟨y, nr, gco, gcp, gc⟩ := y
            dsimp only at hrel hfr23 hst23
            obtain ⟨hyn, hsl_gc, hlen_gc, hj3, hj4⟩ := hrel
            have hlh23 := hle23
            refine zB fun _ hK80 => ?_
            refine zB fun _ hK81 => ?_
            have zq49 := zq46.trans hle23
            replace hc3 := hc3.mono zq49
            refine rp0 hst23 hfr23 (.cons rfl (zD rfl) <| .cons rfl (zA (off := 6) rfl underlying33 rfl rfl sizeOf25 rfl) <| .cons rfl (zE rfl hc3 isAgg25 rfl) <| .cons rfl (zb rfl underlying25) <| .cons rfl (z1 rfl rfl) <| .nil) fun a24 w24 m24 hst24 hle24 hk24 => ?_
            have hfr24 := hk24.fr (.o 15 <| .o 13 <| .o 9 <| .o 0 <| .o 3 <| .o 4 <| .o 10 <| .o 11 <| .n 178 <| .nil)
            clear hst23 hfr23 hk24
            refine hK81 _ _ ?_
            refine zF hfr24 rfl rfl (fun hb178 => ?_) (fun hb178 => ?_)
            ·try simp only [nqs] at hb178
             refine zJ ?_
             refine hK80 _ _ ?_
             refine zB fun _ hK82 => ?_
             refine zL ?_
             refine zB fun _ hK83 => ?_
             have zq50 := zq49.trans hle24
             have zq51 := zq36.trans zq50
             have zq52 := zq31.trans zq51
             replace haa_t := haa_t.mono zq52
             obtain ⟨p84, vs84, x84, ho84, hd84, hm_x84, ht84, hcv84, hl84, hv84⟩ := haa_t.nth (k := y) (by omega)
             cases ho84
             obtain ⟨oV84, cV84, bs84, rfl, hva84, hbd84⟩ := hv84.open_
             have hbv84 := hva84.big; have hcv84_ := hva84.cap
             obtain ⟨⟨oK84b, cK84b, oA84b, cA84b, oR84b, cR84b, t084b, t184b, t284b, t384b, t484b, t584b, u084b, u184b, u284b, u384b, u484b, u584b⟩, rfl, hon84b, hkk84b, haa84b, hrr84b⟩ := hbd84.open_
             dsimp only at hkk84b haa84b hrr84b
             have hbg84b := hkk84b.big; have hcp84b := hkk84b.cap; have hbh84b := haa84b.big; have hcq84b := haa84b.cap
             rw [hd84] at hlen_gc hj3 hj4
             rw [zDF] at hlen_gc; rw [zCh] at hj3; rw [z8] at hj4
             have hLa := hL.arm hm_x84; have hcx := Zs hm_x84; have hbx := zAq hm_x84; have hal9 := Z9 t.arms
             have hgn := zAJ sel tl f x84.body nr hLa (by omega)
             replace hst24 := hst24.more (r := .free) trivial List.nodup_nil (by simp [Res.blocks])
             replace h_t := h_t.mono zq52
             replace hrr_t := hrr_t.mono zq52
             replace hM := hM.trans zq52
             replace hkk_t := hkk_t.mono zq51
             replace hcu62 := hcu62.mono zq51
             have zq53 := zq35.trans zq50
             replace hct62 := hct62.mono zq53
             have zq54 := zq34.trans zq50
             replace htb := htb.mono zq54
             have zq55 := hle23.trans hle24
             have zq56 := zq47.trans zq55
             replace hta := hta.mono zq56
             replace hsl_ga := hsl_ga.mono zq50
             replace hsl_ar := hsl_ar.mono zq55
             replace hc3 := hc3.mono hle24
             replace hsl_gc := hsl_gc.mono hle24
             refine ra0 (tch := [(7, 0, (fun _ => .blk (.pointer (some ⟨r, 0, none⟩)) (.cells #[.int .i64 ((((zO sel tl f) x84.body (nr)).2 : Nat) : Int), .bool sel, .bool tl] 82))), (8, 6, (fun v => .blk v _)), (9, 6, (fun v => .blkx v _ _))]) hst24 hfr24 (.cons rfl (zD rfl) <| .cons rfl (zA (off := 6) rfl underlying33 rfl rfl sizeOf25 rfl) <| .cons rfl (zE rfl hc3 isAgg25 rfl) <| .cons rfl (zD rfl) <| .cons rfl (zH (k := y) rfl rfl underlying25 sizeOf72 rfl (by omega)) <| .cons rfl (zA (off := 2) rfl underlying72 rfl rfl sizeOf33 rfl) <| .cons rfl (Zd rfl hcv84 isAgg33 sizeOf33 rfl rfl) <| .consT rfl rfl (fun _ => rfl) rfl (ZF rfl (.cons rfl <| .cons rfl <| .nil) call33 (κ := .ex (MP.cd ((zO sel tl f) x84.body (nr)).1)) (fun σ w m hK hr hkn => by have hle_ := KC.le hK; have hA := KC.agree hK; have hM := hM.trans hle_; have h_t := h_t.mono hle_; have hkk_t := hkk_t.mono hle_; have haa_t := haa_t.mono hle_; have hrr_t := hrr_t.mono hle_; have hc3 := hc3.mono hle_; have hct62 := hct62.mono hle_; have hcu62 := hcu62.mono hle_; have hta := hta.mono hle_; have htb := htb.mono hle_; have hsl_ar := hsl_ar.mono hle_; have hsl_ga := hsl_ga.mono hle_; have hsl_gc := hsl_gc.mono hle_; have hcv84 := hcv84.mono hle_; have hv84 := hv84.mono hle_; have hva84 := hva84.mono hle_; have hbd84 := hbd84.mono hle_; have hkk84b := hkk84b.mono hle_; have haa84b := haa84b.mono hle_; have hrr84b := hrr84b.mono hle_; exact zAO ih hA hr hbd84 hLa (by omega) (by omega) (by omega))) <| .consT rfl rfl (fun _ => rfl) rfl (zQ zeroValue46 rfl) <| .consT rfl rfl (fun _ => rfl) rfl (zT 16 rfl rfl rfl fun y16 => ZH 188 rfl rfl rfl fun y188 => ZU rfl rfl rfl rfl rfl sizeOf46 rfl rfl (fun w m hK => hK.2.one)) <| .nil) fun a25 w25 m25 hst25 hle25 hk25 => ?_
             have hfr25 := hk25.fr (.o 15 <| .o 13 <| .o 9 <| .o 0 <| .o 3 <| .o 4 <| .o 10 <| .o 11 <| .nil)
             obtain ⟨y85, e85, hy85⟩ := hk25.ex 188 rfl
             obtain ⟨g86, e86, _⟩ := hk25.ex 16 rfl
             replace hfr25 := hfr25.cons e86
             replace hst25 := hst25.fin (L' := [_, _, _, _, _, _, _]) (.cons e85 <| .cons e86 <| .cons e86 <| .nil)
             try simp only [List.take_succ_cons, List.take_zero, List.drop_succ_cons, List.drop_zero, List.cons_append, List.nil_append, List.append_nil, List.length_cons, List.length_nil, Nat.zero_add, Nat.reduceAdd] at hst25
             obtain ⟨yc, hyc, hst25⟩ := hst25.unx (k := 6) rfl (fun _ => rfl)
             clear hst24 hfr24 hk25
             refine hK83 _ _ ?_
             replace hc3 := hc3.mono hle25
             replace hcv84 := hcv84.mono hle25
             replace hva84 := hva84.mono hle25
             refine ZD (tch := [(17, 5, (fun v => .rowx (nz v) _ _ _ _)), (19, 4, (fun u => .blk _ (.cells (_ ++ [u] ++ _).toArray _)))]) (fun _ => mixed) hst25 hfr25 (by kernel_rfl) (by kernel_rfl) (by kernel_rfl) (.cons rfl (zA (off := 5) rfl underlying46 rfl rfl sizeOf44 rfl) <| .cons rfl (zP (j := 4) rfl rfl isAgg44 rfl) <| .cons rfl (zA (off := 6) rfl underlying33 rfl rfl sizeOf25 rfl) <| .cons rfl (zE rfl hc3 isAgg25 rfl) <| .cons rfl (zD rfl) <| .cons rfl (zH (k := y) rfl rfl underlying25 sizeOf72 rfl (by omega)) <| .cons rfl (zA (off := 0) rfl underlying72 rfl rfl sizeOf9 rfl) <| .cons rfl (zE rfl hcv84 isAgg9 rfl) <| .cons rfl (zA (off := 6) rfl underlying33 rfl rfl sizeOf25 rfl) <| .cons rfl (zE rfl hc3 isAgg25 rfl) <| .cons rfl (zD rfl) <| .cons rfl (zH (k := y) rfl rfl underlying25 sizeOf72 rfl (by omega)) <| .cons rfl (zA (off := 1) rfl underlying72 rfl rfl sizeOf27 rfl) <| .cons rfl (zE rfl hcv84 isAgg27 rfl) <| .cons rfl (zV (j := 6) rfl rfl isAgg46 sizeOf46 rfl) <| .cons rfl (zm (.cons rfl <| .cons rfl <| .cons rfl <| .nil) underlying78 zeroValue78 (.cons sizeOf9 <| .cons sizeOf27 <| .cons sizeOf4 <| .cons sizeOf46 <| .nil) rfl) <| .cons rfl (zp rfl underlying44 sizeOf78 zeroValue78 rfl rfl rfl rfl) <| .consT rfl rfl (fun _ => rfl) rfl (zT 205 rfl rfl rfl fun y205 => ZN (size := 9) (bytes := 144) (l := gc) (l' := [armC (zO sel tl f) x84 nr]) rfl rfl (fun _ => by first | exact .inl rfl | exact .inr (.inl rfl)) underlying44 type78 rfl rfl rfl rfl (fun w m hK => Sl.one (R := fun m vs t => CaR m t vs) hK.2 (CaR.len (zCZ (hva84.mono (KC.le hK)) (hyc.mono (KC.le hK)))) (zCZ (hva84.mono (KC.le hK)) (hyc.mono (KC.le hK)))) rfl (by decide) (by simp only [maxLen]; omega) (by omega)) <| .cons rfl (zA (off := 5) rfl underlying46 rfl rfl sizeOf44 rfl) <| .consT rfl rfl (fun _ => rfl) rfl (zT 206 rfl rfl rfl fun y206 => Zx rfl rfl rfl rfl rfl sizeOf44 rfl rfl rfl) <| .nil) fun a26 w26 m26 hst26 hle26 hk26 => ?_
             have hfr26 := hk26.fr (.o 15 <| .o 13 <| .o 9 <| .o 0 <| .o 3 <| .o 4 <| .o 10 <| .o 11 <| .nil)
             obtain ⟨⟨ar_88o, ar_88p⟩, e89, hsl_ar_88⟩ := hk26.ex 206 rfl
             replace hst26 := hst26.fin (L' := [_, _, _, _, _, _, _]) (.cons e89 <| .cons e89 <| .nil)
             try simp only [List.take_succ_cons, List.take_zero, List.drop_succ_cons, List.drop_zero, List.cons_append, List.nil_append, List.append_nil, List.length_cons, List.length_nil, Nat.zero_add, Nat.reduceAdd] at hst26
             clear hst25 hfr25 hk26
             replace hsl_ar_88 : Cas m26 ar_88o (gc ++ [armC (zO sel tl f) x84 nr]).length ar_88p (gc ++ [armC (zO sel tl f) x84 nr]) := hsl_ar_88
             refine hK82 _ _ ?_
             refine rp0 hst26 hfr26 (.cons rfl (zD rfl) <| .cons rfl (zk rfl rfl ⟨by omega, by omega⟩) <| .cons rfl (zC rfl) <| .nil) fun a27 w27 m27 hst27 hle27 hk27 => ?_
             have hfr27 := hk27.fr (.o 13 <| .o 9 <| .o 0 <| .o 3 <| .o 4 <| .o 10 <| .o 11 <| .n 15 <| .nil)
             clear hst26 hfr26 hk27
             have hst27 := hst27.take 6
             replace hsl_ar_88 := hsl_ar_88.mono hle27
             have zq57 := hle26.trans hle27
             have zq58 := hle25.trans zq57
             have zq59 := hle24.trans zq58
             have hlh27 := hlh23.trans zq59
             exact ⟨(y + 1, ((zO sel tl f) x84.body nr).2, ar_88o, ar_88p, (gc ++ [armC (zO sel tl f) x84 nr])), m27, by show t.arms.length - (y + 1) < t.arms.length - y; omega, ⟨hst27, hlh27, hfr27.sub (.c <| .c <| .c <| .c <| .c <| .c <| .c <| .c <| .nil), ⟨by show y + 1 ≤ t.arms.length; omega, hsl_ar_88, ⟨by rw [hlen_gc.1]; simp, by show (gc ++ [_]).length = y + 1; simp; exact hlen_gc.2⟩, hj3, by show ((zO sel tl f) x84.body nr).2 + zr (t.arms.drop (y + 1)) ≤ _; omega⟩⟩⟩
            ·try simp only [nqs] at hb178
             have hge : y = t.arms.length := by omega
             rw [List.drop_of_length_le (by omega)] at hlen_gc hj3
             rw [zDF, List.append_nil] at hlen_gc
             rw [zCh] at hj3
             refine zi ?_
             refine hK77 _ _ ?_
             refine zB fun _ hK90 => ?_
             refine zq 3 (by kernel_rfl) ?_
             have hce9 : zBd (zO sel tl f) t n = ⟨zAH t.kind, zBE t, [], 0, ga, gc⟩ := by unfold zBd; rw [← hgk, ← hnr, hlen_gc.1]
             have zq60 := zq49.trans hle24
             replace hsl_ga := hsl_ga.mono zq60
             replace hsl_gc := hsl_gc.mono hle24
             have hcore : CdR m24 (zBd (zO sel tl f) t n) (cdV ⟨zAH t.kind, zBE t, [], 0, ga, gc⟩ ⟨gao, gap, gco, gcp⟩) := by rw [hce9]; exact CdR.build trivial trivial hsl_ga hsl_gc
             have zq61 := zq34.trans zq60
             replace htb := htb.mono zq61
             refine zf (tch := []) hst24 hfr24 (by kernel_rfl) (by kernel_rfl) (by kernel_rfl) (.cons rfl (zD rfl) <| .cons rfl (zV (j := 4) rfl rfl isAgg46 sizeOf46 rfl) <| .cons rfl (zw (φ := MP.cd (ZX (Zu sel (zO sel tl f) (t.kids.take (ze t)) n) (zBd (zO sel tl f) t n))) rfl (.cons rfl <| .cons rfl <| .nil) call49 (fun w m hK => by have hle_ := KC.le hK; have hA := KC.agree hK; have htb := htb.mono hle_; have hcore := hcore.mono hle_; exact FnG.mono (raround_c hA htb (by exact hcore)) fun _ _ _ _ h => h)) <| .nil) fun a25 w25 m25 hst25 hle25 hk25 => ?_
             have hfr25 := hk25.fr (.o 15 <| .o 13 <| .o 9 <| .o 0 <| .o 3 <| .o 4 <| .o 10 <| .o 11 <| .nil)
             obtain ⟨yp, e91, hyp⟩ := hk25.ex 210 rfl
             replace hfr25 := hfr25.cons e91
             clear hst24 hfr24 hk25
             refine zf (tch := [(0, 3, (fun _ => .blk _ _))]) hst25 hfr25 (by kernel_rfl) (by kernel_rfl) (by kernel_rfl) (.consT rfl rfl (fun _ => rfl) rfl (zZ rfl rfl rfl sizeOf46 rfl rfl rfl) <| .nil) fun a26 w26 m26 hst26 hle26 hk26 => ?_
             have hfr26 := hk26.fr (.o 15 <| .o 13 <| .o 9 <| .o 0 <| .o 3 <| .o 4 <| .o 10 <| .o 11 <| .o 210 <| .nil)
             replace hst26 := hst26.fin (L' := [_, _, _, _, _, _]) (.cons rfl <| .nil)
             try simp only [List.take_succ_cons, List.take_zero, List.drop_succ_cons, List.drop_zero, List.cons_append, List.nil_append, List.append_nil, List.length_cons, List.length_nil, Nat.zero_add, Nat.reduceAdd] at hst26
             clear hst25 hfr25 hk26
             refine hK90 _ _ ?_
             refine zK ?_
             repeat (with_reducible first | refine zI ?_ | refine zG ?_)
             replace hyp := hyp.mono hle26
             exact zM hst26 hfr26 rfl (.cell rfl (zj (zh (hst26.loc.at_ (k := 3) rfl)) isAgg46 sizeOf46) <| .nil) (⟨by rw [hbd, ← hnr, hj3]; exact (hst26.take 1).loc, yp, by rw [hbd]; rfl, by rw [hbd]; exact hyp⟩)
          ·have hlj60 : MLe m13 m13 := MLe.refl _
           refine zB fun _ hK93 => ?_
           have zq62 := hle12.trans hle13
           replace hc3 := hc3.mono zq62
           refine rp0 hst13 hfr13 (.cons rfl (zA (off := 0) rfl underlying33 rfl rfl sizeOf3 rfl) <| .cons rfl (zE rfl hc3 isAgg3 rfl) <| .cons rfl (zY rfl rfl) <| .cons rfl (zD rfl) <| .cons rfl (zA (off := 0) rfl underlying33 rfl rfl sizeOf3 rfl) <| .cons rfl (zE rfl hc3 isAgg3 rfl) <| .cons rfl (zY rfl rfl) <| .cons rfl (zu rfl rfl rfl) <| .cons rfl (zD rfl) <| .cons rfl (zA (off := 0) rfl underlying33 rfl rfl sizeOf3 rfl) <| .cons rfl (zE rfl hc3 isAgg3 rfl) <| .cons rfl (zY rfl rfl) <| .cons rfl (zu rfl rfl rfl) <| .nil) fun a14 w14 m14 hst14 hle14 hk14 => ?_
           have hfr14 := hk14.fr (.o 9 <| .o 0 <| .o 3 <| .o 4 <| .o 10 <| .n 140 <| .nil)
           clear hst13 hfr13 hk14
           refine hK93 _ _ ?_
           refine zF hfr14 rfl rfl (fun hb140 => ?_) (fun hb140 => ?_)
           ·try simp only [nqs] at hb140
            refine ra0 (tch := [(1, 2, (fun _ => .blk _ _))]) hst14 hfr14 (.cons rfl (zA (off := 1) rfl underlying46 rfl rfl sizeOf9 rfl) <| .consT rfl rfl (fun _ => rfl) rfl (zy rfl rfl rfl sizeOf9 rfl rfl rfl) <| .nil) fun a15 w15 m15 hst15 hle15 hk15 => ?_
            have hfr15 := hk15.fr (.o 9 <| .o 0 <| .o 3 <| .o 4 <| .o 10 <| .nil)
            replace hst15 := hst15.fin (L' := [_, _, _]) (.cons rfl <| .nil)
            try simp only [List.take_succ_cons, List.take_zero, List.drop_succ_cons, List.drop_zero, List.cons_append, List.nil_append, List.append_nil, List.length_cons, List.length_nil, Nat.zero_add, Nat.reduceAdd] at hst15
            clear hst14 hfr14 hk15
            repeat (with_reducible first | refine ZB ?_ | refine zz ?_ | refine zo ?_)
            have zq63 := hle14.trans hle15
            replace hlj60 := hlj60.trans zq63
            exact hj60 (([] : Str)) _ _ _ ⟨hst15, hlj60, hfr15.sub (.c <| .c <| .c <| .c <| .c <| .nil), by unfold zBE; rw [if_neg (by omega)]⟩
           ·try simp only [nqs] at hb140
            refine zJ ?_
            repeat (with_reducible first | refine ZB ?_ | refine zz ?_ | refine zo ?_)
            replace hlj60 := hlj60.trans hle14
            exact hj60 (t.name) _ _ _ ⟨hst14, hlj60, hfr14.sub (.c <| .c <| .c <| .c <| .c <| .nil), name_other hL.here hlt9 hb49 hb75 hb97 (by omega) (by omega) (by omega)⟩
         ·have hlj59 : MLe m12 m12 := MLe.refl _
          refine zB fun _ hK94 => ?_
          replace hc3 := hc3.mono hle12
          refine rp0 hst12 hfr12 (.cons rfl (zA (off := 0) rfl underlying33 rfl rfl sizeOf3 rfl) <| .cons rfl (zE rfl hc3 isAgg3 rfl) <| .nil) fun a13 w13 m13 hst13 hle13 hk13 => ?_
          have hfr13 := hk13.fr (.o 0 <| .o 3 <| .o 4 <| .o 9 <| .o 10 <| .n 109 <| .nil)
          clear hst12 hfr12 hk13
          refine hK94 _ _ ?_
          refine zL ?_
          refine zB fun _ hK95 => ?_
          refine rp0 hst13 hfr13 (.cons rfl (zY rfl rfl) <| .cons rfl (zC rfl) <| .nil) fun a14 w14 m14 hst14 hle14 hk14 => ?_
          have hfr14 := hk14.fr (.o 0 <| .o 3 <| .o 4 <| .o 9 <| .o 10 <| .o 109 <| .n 110 <| .nil)
          clear hst13 hfr13 hk14
          refine hK95 _ _ ?_
          refine zF hfr14 rfl rfl (fun hb110 => ?_) (fun hb110 => ?_)
          ·try simp only [nqs] at hb110
           refine ra0 (tch := [(1, 2, (fun _ => .blk _ _))]) hst14 hfr14 (.cons rfl (zA (off := 0) rfl underlying46 rfl rfl sizeOf3 rfl) <| .consT rfl rfl (fun _ => rfl) rfl (zy rfl rfl rfl sizeOf3 rfl rfl rfl) <| .nil) fun a15 w15 m15 hst15 hle15 hk15 => ?_
           have hfr15 := hk15.fr (.o 0 <| .o 3 <| .o 4 <| .o 9 <| .o 10 <| .nil)
           replace hst15 := hst15.fin (L' := [_, _, _]) (.cons rfl <| .nil)
           try simp only [List.take_succ_cons, List.take_zero, List.drop_succ_cons, List.drop_zero, List.cons_append, List.nil_append, List.append_nil, List.length_cons, List.length_nil, Nat.zero_add, Nat.reduceAdd] at hst15
           clear hst14 hfr14 hk15
           repeat (with_reducible first | refine ZB ?_ | refine zz ?_ | refine zo ?_)
           have zq64 := hle14.trans hle15
           have zq65 := hle13.trans zq64
           replace hlj59 := hlj59.trans zq65
           exact hj59 ((6 : Int), t.kids.length) _ _ _ ⟨hst15, hlj59, hfr15.sub (.c <| .c <| .c <| .c <| .c <| .nil), ⟨by dsimp only; unfold zAH; (repeat' split) <;> omega, by dsimp only; unfold ze; split <;> omega⟩⟩
          ·try simp only [nqs] at hb110
           refine zB fun _ hK96 => ?_
           refine rp0 hst14 hfr14 (.cons rfl (zY rfl rfl) <| .cons rfl (zC rfl) <| .nil) fun a15 w15 m15 hst15 hle15 hk15 => ?_
           have hfr15 := hk15.fr (.o 0 <| .o 3 <| .o 4 <| .o 9 <| .o 10 <| .o 109 <| .n 113 <| .nil)
           clear hst14 hfr14 hk15
           refine hK96 _ _ ?_
           refine zF hfr15 rfl rfl (fun hb113 => ?_) (fun hb113 => ?_)
           ·try simp only [nqs] at hb113
            refine zB fun _ hK97 => ?_
            refine ra0 (tch := [(1, 2, (fun _ => .blk _ _))]) hst15 hfr15 (.cons rfl (zA (off := 0) rfl underlying46 rfl rfl sizeOf3 rfl) <| .consT rfl rfl (fun _ => rfl) rfl (zy rfl rfl rfl sizeOf3 rfl rfl rfl) <| .nil) fun a16 w16 m16 hst16 hle16 hk16 => ?_
            have hfr16 := hk16.fr (.o 0 <| .o 3 <| .o 4 <| .o 9 <| .o 10 <| .nil)
            replace hst16 := hst16.fin (L' := [_, _, _]) (.cons rfl <| .nil)
            try simp only [List.take_succ_cons, List.take_zero, List.drop_succ_cons, List.drop_zero, List.cons_append, List.nil_append, List.append_nil, List.length_cons, List.length_nil, Nat.zero_add, Nat.reduceAdd] at hst16
            clear hst15 hfr15 hk16
            refine hK97 _ _ ?_
            refine rp0 hst16 hfr16 (.cons rfl (zC rfl) <| .nil) fun a17 w17 m17 hst17 hle17 hk17 => ?_
            have hfr17 := hk17.fr (.o 0 <| .o 3 <| .o 4 <| .o 10 <| .n 9 <| .nil)
            clear hst16 hfr16 hk17
            repeat (with_reducible first | refine ZB ?_ | refine zz ?_ | refine zo ?_)
            have zq66 := hle16.trans hle17
            have zq67 := hle15.trans zq66
            have zq68 := hle14.trans zq67
            have zq69 := hle13.trans zq68
            replace hlj59 := hlj59.trans zq69
            exact hj59 ((10 : Int), 1) _ _ _ ⟨hst17, hlj59, hfr17.sub (.c <| .c <| .c <| .c <| .c <| .nil), ⟨by dsimp only; unfold zAH; (repeat' split) <;> omega, by dsimp only; unfold ze; split <;> omega⟩⟩
           ·try simp only [nqs] at hb113
            refine zB fun _ hK98 => ?_
            refine rp0 hst15 hfr15 (.cons rfl (zY rfl rfl) <| .cons rfl (zC rfl) <| .nil) fun a16 w16 m16 hst16 hle16 hk16 => ?_
            have hfr16 := hk16.fr (.o 0 <| .o 3 <| .o 4 <| .o 9 <| .o 10 <| .o 109 <| .n 116 <| .nil)
            clear hst15 hfr15 hk16
            refine hK98 _ _ ?_
            refine zF hfr16 rfl rfl (fun hb116 => ?_) (fun hb116 => ?_)
            ·try simp only [nqs] at hb116
             refine ra0 (tch := [(1, 2, (fun _ => .blk _ _))]) hst16 hfr16 (.cons rfl (zA (off := 0) rfl underlying46 rfl rfl sizeOf3 rfl) <| .consT rfl rfl (fun _ => rfl) rfl (zy rfl rfl rfl sizeOf3 rfl rfl rfl) <| .nil) fun a17 w17 m17 hst17 hle17 hk17 => ?_
             have hfr17 := hk17.fr (.o 0 <| .o 3 <| .o 4 <| .o 9 <| .o 10 <| .nil)
             replace hst17 := hst17.fin (L' := [_, _, _]) (.cons rfl <| .nil)
             try simp only [List.take_succ_cons, List.take_zero, List.drop_succ_cons, List.drop_zero, List.cons_append, List.nil_append, List.append_nil, List.length_cons, List.length_nil, Nat.zero_add, Nat.reduceAdd] at hst17
             clear hst16 hfr16 hk17
             repeat (with_reducible first | refine ZB ?_ | refine zz ?_ | refine zo ?_)
             have zq70 := hle16.trans hle17
             have zq71 := hle15.trans zq70
             have zq72 := hle14.trans zq71
             have zq73 := hle13.trans zq72
             replace hlj59 := hlj59.trans zq73
             exact hj59 ((11 : Int), t.kids.length) _ _ _ ⟨hst17, hlj59, hfr17.sub (.c <| .c <| .c <| .c <| .c <| .nil), ⟨by dsimp only; unfold zAH; (repeat' split) <;> omega, by dsimp only; unfold ze; split <;> omega⟩⟩
            ·try simp only [nqs] at hb116
             refine zB fun _ hK99 => ?_
             refine rp0 hst16 hfr16 (.cons rfl (zY rfl rfl) <| .cons rfl (zC rfl) <| .nil) fun a17 w17 m17 hst17 hle17 hk17 => ?_
             have hfr17 := hk17.fr (.o 0 <| .o 3 <| .o 4 <| .o 9 <| .o 10 <| .o 109 <| .n 119 <| .nil)
             clear hst16 hfr16 hk17
             refine hK99 _ _ ?_
             refine zF hfr17 rfl rfl (fun hb119 => ?_) (fun hb119 => ?_)
             ·try simp only [nqs] at hb119
              refine ra0 (tch := [(1, 2, (fun _ => .blk _ _))]) hst17 hfr17 (.cons rfl (zA (off := 0) rfl underlying46 rfl rfl sizeOf3 rfl) <| .consT rfl rfl (fun _ => rfl) rfl (zy rfl rfl rfl sizeOf3 rfl rfl rfl) <| .nil) fun a18 w18 m18 hst18 hle18 hk18 => ?_
              have hfr18 := hk18.fr (.o 0 <| .o 3 <| .o 4 <| .o 9 <| .o 10 <| .nil)
              replace hst18 := hst18.fin (L' := [_, _, _]) (.cons rfl <| .nil)
              try simp only [List.take_succ_cons, List.take_zero, List.drop_succ_cons, List.drop_zero, List.cons_append, List.nil_append, List.append_nil, List.length_cons, List.length_nil, Nat.zero_add, Nat.reduceAdd] at hst18
              clear hst17 hfr17 hk18
              repeat (with_reducible first | refine ZB ?_ | refine zz ?_ | refine zo ?_)
              have zq74 := hle17.trans hle18
              have zq75 := hle16.trans zq74
              have zq76 := hle15.trans zq75
              have zq77 := hle14.trans zq76
              have zq78 := hle13.trans zq77
              replace hlj59 := hlj59.trans zq78
              exact hj59 ((12 : Int), t.kids.length) _ _ _ ⟨hst18, hlj59, hfr18.sub (.c <| .c <| .c <| .c <| .c <| .nil), ⟨by dsimp only; unfold zAH; (repeat' split) <;> omega, by dsimp only; unfold ze; split <;> omega⟩⟩
             ·try simp only [nqs] at hb119
              refine zB fun _ hK100 => ?_
              refine rp0 hst17 hfr17 (.cons rfl (zY rfl rfl) <| .cons rfl (zC rfl) <| .nil) fun a18 w18 m18 hst18 hle18 hk18 => ?_
              have hfr18 := hk18.fr (.o 0 <| .o 3 <| .o 4 <| .o 9 <| .o 10 <| .o 109 <| .n 122 <| .nil)
              clear hst17 hfr17 hk18
              refine hK100 _ _ ?_
              refine zF hfr18 rfl rfl (fun hb122 => ?_) (fun hb122 => ?_)
              ·try simp only [nqs] at hb122
               refine ra0 (tch := [(1, 2, (fun _ => .blk _ _))]) hst18 hfr18 (.cons rfl (zA (off := 0) rfl underlying46 rfl rfl sizeOf3 rfl) <| .consT rfl rfl (fun _ => rfl) rfl (zy rfl rfl rfl sizeOf3 rfl rfl rfl) <| .nil) fun a19 w19 m19 hst19 hle19 hk19 => ?_
               have hfr19 := hk19.fr (.o 0 <| .o 3 <| .o 4 <| .o 9 <| .o 10 <| .nil)
               replace hst19 := hst19.fin (L' := [_, _, _]) (.cons rfl <| .nil)
               try simp only [List.take_succ_cons, List.take_zero, List.drop_succ_cons, List.drop_zero, List.cons_append, List.nil_append, List.append_nil, List.length_cons, List.length_nil, Nat.zero_add, Nat.reduceAdd] at hst19
               clear hst18 hfr18 hk19
               repeat (with_reducible first | refine ZB ?_ | refine zz ?_ | refine zo ?_)
               have zq79 := hle18.trans hle19
               have zq80 := hle17.trans zq79
               have zq81 := hle16.trans zq80
               have zq82 := hle15.trans zq81
               have zq83 := hle14.trans zq82
               have zq84 := hle13.trans zq83
               replace hlj59 := hlj59.trans zq84
               exact hj59 ((13 : Int), t.kids.length) _ _ _ ⟨hst19, hlj59, hfr19.sub (.c <| .c <| .c <| .c <| .c <| .nil), ⟨by dsimp only; unfold zAH; (repeat' split) <;> omega, by dsimp only; unfold ze; split <;> omega⟩⟩
              ·try simp only [nqs] at hb122
               refine zB fun _ hK101 => ?_
               refine rp0 hst18 hfr18 (.cons rfl (zY rfl rfl) <| .cons rfl (zC rfl) <| .nil) fun a19 w19 m19 hst19 hle19 hk19 => ?_
               have hfr19 := hk19.fr (.o 0 <| .o 3 <| .o 4 <| .o 9 <| .o 10 <| .n 125 <| .nil)
               clear hst18 hfr18 hk19
               refine hK101 _ _ ?_
               refine zF hfr19 rfl rfl (fun hb125 => ?_) (fun hb125 => ?_)
               ·try simp only [nqs] at hb125
                refine ra0 (tch := [(1, 2, (fun _ => .blk _ _))]) hst19 hfr19 (.cons rfl (zA (off := 0) rfl underlying46 rfl rfl sizeOf3 rfl) <| .consT rfl rfl (fun _ => rfl) rfl (zy rfl rfl rfl sizeOf3 rfl rfl rfl) <| .nil) fun a20 w20 m20 hst20 hle20 hk20 => ?_
                have hfr20 := hk20.fr (.o 0 <| .o 3 <| .o 4 <| .o 9 <| .o 10 <| .nil)
                replace hst20 := hst20.fin (L' := [_, _, _]) (.cons rfl <| .nil)
                try simp only [List.take_succ_cons, List.take_zero, List.drop_succ_cons, List.drop_zero, List.cons_append, List.nil_append, List.append_nil, List.length_cons, List.length_nil, Nat.zero_add, Nat.reduceAdd] at hst20
                clear hst19 hfr19 hk20
                repeat (with_reducible first | refine ZB ?_ | refine zz ?_ | refine zo ?_)
                have zq85 := hle19.trans hle20
                have zq86 := hle18.trans zq85
                have zq87 := hle17.trans zq86
                have zq88 := hle16.trans zq87
                have zq89 := hle15.trans zq88
                have zq90 := hle14.trans zq89
                have zq91 := hle13.trans zq90
                replace hlj59 := hlj59.trans zq91
                exact hj59 ((14 : Int), t.kids.length) _ _ _ ⟨hst20, hlj59, hfr20.sub (.c <| .c <| .c <| .c <| .c <| .nil), ⟨by dsimp only; unfold zAH; (repeat' split) <;> omega, by dsimp only; unfold ze; split <;> omega⟩⟩
               ·try simp only [nqs] at hb125
                refine zJ ?_
                repeat (with_reducible first | refine ZB ?_ | refine zz ?_ | refine zo ?_)
                have zq92 := hle18.trans hle19
                have zq93 := hle17.trans zq92
                have zq94 := hle16.trans zq93
                have zq95 := hle15.trans zq94
                have zq96 := hle14.trans zq95
                have zq97 := hle13.trans zq96
                replace hlj59 := hlj59.trans zq97
                exact hj59 ((0 : Int), t.kids.length) _ _ _ ⟨hst19, hlj59, hfr19.sub (.c <| .c <| .c <| .c <| .c <| .nil), ⟨by dsimp only; unfold zAH; (repeat' split) <;> omega, by dsimp only; unfold ze; split <;> omega⟩⟩
theorem rcode_c : ∀ f, zBp f
 | 0 => fun _ _ _ _ hf _ _ => absurd hf (Nat.not_le_of_gt (zEO _))
 | f + 1 => fun hA hr h hL hf hbk hnb => rcode_s hA hr h (rcode_c f) hL hf hbk hnb
set_option maxHeartbeats 400000 in
theorem rlower_c {w : World} {m : Mem} {t : Tm} {vs_t : List Value} {sel tl : Bool} (hA : Agree w m) (h_t : TmR m t vs_t) (hL : LwT t) (hf : zS t ≤ 100000000) (hbk : ZG t ≤ 1000000000) : FnV Tryd.prog 14 #[.agg vs_t.toArray, .agg #[.bool sel, .bool tl]] w m (fun _ m v => (MP.cd (zDA sel tl t)).p m v) := by
 obtain ⟨⟨oK_t, cK_t, oA_t, cA_t, oR_t, cR_t, t0_t, t1_t, t2_t, t3_t, t4_t, t5_t, u0_t, u1_t, u2_t, u3_t, u4_t, u5_t⟩, rfl, hon_t, hkk_t, haa_t, hrr_t⟩ := h_t.open_
 dsimp only at hkk_t haa_t hrr_t
 have hbg_t := hkk_t.big; have hcp_t := hkk_t.cap; have hbh_t := haa_t.big; have hcq_t := haa_t.cap
 refine za (vs := [_, _]) func14 rfl rfl rfl fun a0 hfr0 => ?_
 have hst0 := zX hA (zl [] _ w m)
 have hM : MLe m m := MLe.refl m
 refine zB fun _ hK1 => ?_
 replace hst0 := hst0.more (r := .free) trivial List.nodup_nil (by simp [Res.blocks])
 refine ra0 (tch := [(2, 0, (fun v => .blk v _))]) hst0 hfr0 (.cons rfl (zx rfl rfl) <| .cons rfl (zx rfl rfl) <| .consT rfl rfl (fun _ => rfl) rfl (zQ zeroValue46 rfl) <| .nil) fun a1 w1 m1 hst1 hle1 hk1 => ?_
 have hfr1 := hk1.fr (.nil)
 obtain ⟨g2, e2, hc2⟩ := hk1.ex 2 rfl
 replace hfr1 := hfr1.cons e2
 obtain ⟨g3, e3, hc3⟩ := hk1.ex 3 rfl
 replace hfr1 := hfr1.cons e3
 obtain ⟨g4, e4, _⟩ := hk1.ex 4 rfl
 replace hfr1 := hfr1.cons e4
 replace hst1 := hst1.fin (L' := [_]) (.cons e4 <| .nil)
 replace h_t := h_t.mono hle1
 replace hkk_t := hkk_t.mono hle1
 replace haa_t := haa_t.mono hle1
 replace hrr_t := hrr_t.mono hle1
 replace hM := hM.trans hle1
 clear hst0 hfr0 hk1
 refine hK1 _ _ ?_
 refine zB fun _ hK5 => ?_
 replace hst1 := hst1.more (r := .free) trivial List.nodup_nil (by simp [Res.blocks])
 refine ra0 (tch := [(2, 1, (fun v => .blk v _))]) hst1 hfr1 (.cons rfl (zN rfl hc3 isAgg38 sizeOf38 rfl rfl) <| .cons rfl (zm (.cons rfl <| .nil) underlying82 zeroValue82 (.cons sizeOf3 <| .cons sizeOf38 <| .nil) rfl) <| .consT rfl rfl (fun _ => rfl) rfl (zDy rfl rfl) <| .consA 8 rfl rfl <| .nil) fun a2 w2 m2 hst2 hle2 hk2 => ?_
 have hfr2 := hk2.fr (.o 2 <| .o 4 <| .nil)
 obtain ⟨g8, e6, _⟩ := hk2.ex 8 rfl
 replace hfr2 := hfr2.cons (hk2.same 5 rfl e6)
 replace hst2 := hst2.fin (L' := [_, _]) (.cons e6 <| .nil)
 replace h_t := h_t.mono hle2
 replace hkk_t := hkk_t.mono hle2
 replace haa_t := haa_t.mono hle2
 replace hrr_t := hrr_t.mono hle2
 replace hc2 := hc2.mono hle2
 replace hc3 := hc3.mono hle2
 replace hM := hM.trans hle2
 clear hst1 hfr1 hk2
 refine hK5 _ _ ?_
 refine zB fun _ hK7 => ?_
 refine zq 3 (by kernel_rfl) ?_
 refine zf (tch := [(2, 1, (fun _ => .blk (.pointer (some ⟨g8, 0, none⟩)) (.cells #[.int .i64 (((zO sel tl (zS t) t 0).2 : Nat) : Int), .bool sel, .bool tl] 82)))]) hst2 hfr2 (by kernel_rfl) (by kernel_rfl) (by kernel_rfl) (.cons rfl (zD rfl) <| .cons rfl (zN rfl hc2 isAgg33 sizeOf33 rfl rfl) <| .consT rfl rfl (fun _ => rfl) rfl (ZF rfl (.cons rfl <| .cons rfl <| .nil) call33 (κ := .ex (MP.cd (zDA sel tl t))) (fun σ w m hK hr hkn => by have hle_ := KC.le hK; have hA := KC.agree hK; have hM := hM.trans hle_; have h_t := h_t.mono hle_; have hkk_t := hkk_t.mono hle_; have haa_t := haa_t.mono hle_; have hrr_t := hrr_t.mono hle_; have hc2 := hc2.mono hle_; have hc3 := hc3.mono hle_; exact zAO (n := 0) (rcode_c (zS t)) hA hr h_t hL (Nat.le_refl _) hbk (by omega))) <| .nil) fun a3 w3 m3 hst3 hle3 hk3 => ?_
 have hfr3 := hk3.fr (.o 2 <| .o 4 <| .o 5 <| .nil)
 obtain ⟨yp, e8, hyp⟩ := hk3.ex 11 rfl
 replace hfr3 := hfr3.cons e8
 replace hst3 := hst3.fin (L' := [_, _]) (.cons e8 <| .nil)
 clear hst2 hfr2 hk3
 refine zf (tch := [(0, 0, (fun _ => .blk _ _))]) hst3 hfr3 (by kernel_rfl) (by kernel_rfl) (by kernel_rfl) (.consT rfl rfl (fun _ => rfl) rfl (zZ rfl rfl rfl sizeOf46 rfl rfl rfl) <| .nil) fun a4 w4 m4 hst4 hle4 hk4 => ?_
 have hfr4 := hk4.fr (.o 2 <| .o 4 <| .o 5 <| .o 11 <| .nil)
 replace hst4 := hst4.fin (L' := [_, _]) (.cons rfl <| .nil)
 try simp only [List.take_succ_cons, List.take_zero, List.drop_succ_cons, List.drop_zero, List.cons_append, List.nil_append, List.append_nil, List.length_cons, List.length_nil, Nat.zero_add, Nat.reduceAdd] at hst4
 replace hyp := hyp.mono hle4
 clear hst3 hfr3 hk4
 refine hK7 _ _ ?_
 refine zK ?_
 repeat (with_reducible first | refine zI ?_ | refine zG ?_)
 exact zM hst4 hfr4 rfl (.cell rfl (zj (zh (hst4.loc.at_ (k := 0) rfl)) isAgg46 sizeOf46) <| .nil) (⟨yp, rfl, hyp⟩)
end Go.Proofs.YtmdhhjmomilhjaaDoor
