/-
  A law's function. Conditions: those of each theorem.
-/
import Derived.Test.YtibkcojlgbmlhaaShown
namespace Go.Proofs.Ytibkcojlgbmlhaa
open Go.RowKit
set_option maxHeartbeats 400000 in
theorem law_drops {w : World} {m : Mem} {o : Option Addr} {n c : Nat} {l : List RE} {k1 k2 : Int} (hA : Agree w m) (h : Ents m o n c l) :
    FnV Try.prog 5 #[.slice o n c, .int .i64 k1, .int .i64 k2] w m (fun _ _ v => v = .bool true) := by
  refine fn_enter (vs := [.slice o n c, .int .i64 k1, .int .i64 k2]) Try.func5 rfl rfl rfl fun a0 hfr0 => ?_
  have hst0 := st_enter hA (loc_nil [] _ w m)
  have hbig := h.big
  have hcap := h.cap
  have hlen := h.len
  obtain ⟨n2, hn2⟩ : ∃ n2, n2 = min n 60 := ⟨_, rfl⟩
  obtain ⟨l6, hl6⟩ : ∃ l6, l6 = l.take 60 := ⟨_, rfl⟩
  have hn60 : n2 ≤ 60 := by omega
  have hln : l6.length = n2 := by rw [hl6, hn2, List.length_take, hlen, Nat.min_comm]
  refine seq_any fun K1 hK1 => ?_
  refine region_plain (fun h => by cases h) hst0 hfr0 (by kernel_rfl) (by kernel_rfl) (.cons rfl (ob_assign rfl) <|
      .nil) ?_
  intro a1 w1 m1 hst1 hle1 hk1
  have hfr1 := hk1.fr (T' := [(0, _), (1, _), (2, _), (6, _)]) (.old rfl rfl <| .old rfl rfl <| .old rfl rfl <| .new rfl <| .nil)
  replace h := h.mono hle1
  clear hst0 hfr0 hk1
  refine hK1 _ _ ?_; try clear hK1 K1
  refine seq_any fun K2 hK2 => ?_
  refine region_plain (fun h => by cases h) hst1 hfr1 (by kernel_rfl) (by kernel_rfl) (.cons rfl (ob_callE rfl (.nil) Try.call8 (fun w m hK => by exact shown_c (KC.agree hK))) <|
      .cons rfl (ob_assign rfl) <|
      .nil) ?_
  intro a2 w2 m2 hst2 hle2 hk2
  have hfr2 := hk2.fr (T' := [(0, _), (1, _), (2, _), (6, _), (7, _)]) (.old rfl rfl <| .old rfl rfl <| .old rfl rfl <| .old rfl rfl <| .new rfl <| .nil)
  replace h := h.mono hle2
  clear hst1 hfr1 hk2
  refine hK2 _ _ ?_; try clear hK2 K2
  refine seq_any fun K3 hK3 => ?_
  replace hst2 := hst2.more (r := .free) trivial List.nodup_nil (by simp [Res.blocks])
  refine region_any (tch := [(5, 0, (fun v => .blk v _)), (6, 0, (fun v => .blkx v _ _))]) (fun h => by cases h) hst2 hfr2 (by kernel_rfl) (by kernel_rfl) (by kernel_rfl) (.cons rfl (ob_move rfl) <|
      .cons rfl (ob_call (φ := MP.mem (fun y : Option Addr × Option Addr × Nat => .tuple #[.agg #[.pointer y.1], .slice y.2.1 n2 y.2.2]) (fun y m => Chain m (l6.reverse.map RE.ve) y.1 ∧ Ents m y.2.1 n2 y.2.2 l6) (fun hm h => ⟨h.1.mono hm, h.2.mono hm⟩)) rfl (.cons rfl <| .nil) Try.call9 (fun w m hK => by exact FnG.mono (built_c' (KC.agree hK) (h.mono (KC.le hK)) hn2 hl6) fun _ _ _ _ h => h)) <|
      .cons rfl (ob_imgV 16 rfl rfl rfl fun y16 => ob_move rfl) <|
      .cons rfl (ob_imgV 14 rfl rfl rfl fun y14 => ob_extract rfl rfl) <|
      .cons rfl (ob_imgV 14 rfl rfl rfl fun y14 => ob_extract rfl rfl) <|
      .consT rfl rfl (fun _ => rfl) rfl (ob_allocL Try.zeroValue26 rfl) <|
      .consT rfl rfl (fun _ => rfl) rfl (ob_imgT 8 rfl rfl rfl fun y8 => ob_imgTX 17 rfl rfl rfl fun y17 => ob_storeF rfl rfl rfl rfl Try.sizeOf26 rfl rfl rfl) <|
      .consA 18 rfl rfl <|
      .nil) ?_
  intro a3 w3 m3 hst3 hle3 hk3
  have hfr3 := hk3.fr (T' := [(1, _), (2, _), (6, _), (7, _)]) (.old rfl rfl <| .old rfl rfl <| .old rfl rfl <| .old rfl rfl <| .nil)
  obtain ⟨⟨s2, o2, c2⟩, e4, hq0, h2⟩ := hk3.ex 18 rfl
  replace hfr3 := hfr3.cons e4
  obtain ⟨gv, e5, _⟩ := hk3.ex 8 rfl
  replace hfr3 := hfr3.cons e5
  replace hfr3 := hfr3.cons (hk3.same 0 rfl e4)
  replace hst3 := hst3.fin (L' := [_]) (.cons e5 <| .cons e5 <| .nil)
  obtain ⟨⟨b2, s3, c3⟩, ⟨hy2, _⟩, hst3⟩ := hst3.unx (k := 0) rfl (fun _ => rfl)
  replace h := h.mono hle3
  clear hst2 hfr2 hk3
  change Ents m3 o2 n2 c2 l6 at h2
  dsimp only at hy2
  have hcap2 := h2.cap
  clear h
  refine hK3 _ _ ?_; try clear hK3 K3
  refine seq_any fun K7 hK7 => ?_
  refine region_plain (fun h => by cases h) hst3 hfr3 (by kernel_rfl) (by kernel_rfl) (.cons rfl (ob_move rfl) <|
      .cons rfl (ob_band rfl rfl) <|
      .cons rfl (ob_assign rfl) <|
      .nil) ?_
  intro a4 w4 m4 hst4 hle4 hk4
  have hfr4 := hk4.fr (T' := [(2, _), (6, _), (7, _), (8, _), (0, _), (1, _)]) (.old rfl rfl <| .old rfl rfl <| .old rfl rfl <| .old rfl rfl <| .old rfl rfl <| .new rfl <| .nil)
  replace h2 := h2.mono hle4
  replace hy2 := hy2.mono hle4
  clear hst3 hfr3 hk4
  obtain ⟨p, hbp, hbp2⟩ : ∃ i : Nat, band k1 63 = i ∧ i ≤ 63 := by
    have hb : 0 ≤ band k1 63 ∧ band k1 63 ≤ 63 := band_le k1 63 (by omega)
    exact ⟨(band k1 63).toNat, by omega, by omega⟩
  rw [hbp] at hfr4
  clear hbp
  refine hK7 _ _ ?_; try clear hK7 K7
  refine seq_any fun K8 hK8 => ?_
  refine region_plain (fun h => by cases h) hst4 hfr4 (by kernel_rfl) (by kernel_rfl) (.cons rfl (ob_move rfl) <|
      .cons rfl (ob_band rfl rfl) <|
      .cons rfl (ob_assign rfl) <|
      .nil) ?_
  intro a5 w5 m5 hst5 hle5 hk5
  have hfr5 := hk5.fr (T' := [(6, _), (7, _), (8, _), (0, _), (1, _), (2, _)]) (.old rfl rfl <| .old rfl rfl <| .old rfl rfl <| .old rfl rfl <| .old rfl rfl <| .new rfl <| .nil)
  replace h2 := h2.mono hle5
  replace hy2 := hy2.mono hle5
  clear hst4 hfr4 hk5
  obtain ⟨q, hbq, hbq2⟩ : ∃ i : Nat, band k2 63 = i ∧ i ≤ 63 := by
    have hb : 0 ≤ band k2 63 ∧ band k2 63 ≤ 63 := band_le k2 63 (by omega)
    exact ⟨(band k2 63).toNat, by omega, by omega⟩
  rw [hbq] at hfr5
  clear hbq
  refine hK8 _ _ ?_; try clear hK8 K8
  refine seq_any fun K9 hK9 => ?_
  replace hst5 := hst5.more (r := .free) trivial List.nodup_nil (by simp [Res.blocks])
  refine region_any (tch := [(5, 1, (fun v => .blk v _)), (6, 1, (fun v => .blkx v _ _))]) (fun h => by cases h) hst5 hfr5 (by kernel_rfl) (by kernel_rfl) (by kernel_rfl) (.cons rfl (ob_loadLS' (j := 0) rfl rfl Try.isAgg26 Try.sizeOf26 rfl rfl) <|
      .cons rfl (ob_move rfl) <|
      .cons rfl (ob_call (φ := MP.mem (fun a => .agg #[.pointer a]) (fun a m => Chain m ((l6.reverse.map RE.ve).drop p) a) (fun hm h => h.mono hm)) rfl (.cons rfl <| .cons rfl <| .nil) Try.call14 (fun w m hK => by exact FnG.mono (drop_c (n := (p : Int)) (KC.agree hK) (hy2.mono (KC.le hK)) ⟨by omega, by omega⟩) fun _ _ _ _ h => h)) <|
      .cons rfl (ob_move rfl) <|
      .cons rfl (ob_imgE 25 rfl rfl rfl fun y25 => ob_call (φ := MP.mem (fun a => .agg #[.pointer a]) (fun a m => Chain m (((l6.reverse.map RE.ve).drop p).drop q) a) (fun hm h => h.mono hm)) rfl (.cons rfl <| .cons rfl <| .nil) Try.call14 (fun w m hK => by exact FnG.mono (drop_c (n := (q : Int)) (KC.agree hK.1) hK.2 ⟨by omega, by omega⟩) fun _ _ _ _ h => h)) <|
      .consT rfl rfl (fun _ => rfl) rfl (ob_allocL Try.zeroValue26 rfl) <|
      .consT rfl rfl (fun _ => rfl) rfl (ob_imgT 9 rfl rfl rfl fun y9 => ob_imgTX 27 rfl rfl rfl fun y27 => ob_storeF rfl rfl rfl rfl Try.sizeOf26 rfl rfl rfl) <|
      .nil) ?_
  intro a6 w6 m6 hst6 hle6 hk6
  have hfr6 := hk6.fr (T' := [(6, _), (7, _), (8, _), (0, _), (1, _), (2, _)]) (.old rfl rfl <| .old rfl rfl <| .old rfl rfl <| .old rfl rfl <| .old rfl rfl <| .old rfl rfl <| .nil)
  obtain ⟨g9, e10, _⟩ := hk6.ex 9 rfl
  replace hfr6 := hfr6.cons e10
  replace hst6 := hst6.fin (L' := [_, _]) (.cons e10 <| .cons e10 <| .nil)
  obtain ⟨b9, hy9, hst6⟩ := hst6.unx (k := 1) rfl (fun _ => rfl)
  replace h2 := h2.mono hle6
  replace hy2 := hy2.mono hle6
  clear hst5 hfr5 hk6
  refine hK9 _ _ ?_; try clear hK9 K9
  refine seq_any fun K12 hK12 => ?_
  replace hst6 := hst6.more (r := .free) trivial List.nodup_nil (by simp [Res.blocks])
  refine region_any (tch := [(5, 2, (fun v => .blk v _)), (6, 2, (fun v => .blkx v _ _))]) (fun h => by cases h) hst6 hfr6 (by kernel_rfl) (by kernel_rfl) (by kernel_rfl) (.cons rfl (ob_loadLS' (j := 0) rfl rfl Try.isAgg26 Try.sizeOf26 rfl rfl) <|
      .cons rfl (ob_move rfl) <|
      .cons rfl (ob_move rfl) <|
      .cons rfl (ob_add rfl rfl ⟨by omega, by omega⟩) <|
      .cons rfl (ob_call (φ := MP.mem (fun a => .agg #[.pointer a]) (fun a m => Chain m ((l6.reverse.map RE.ve).drop (p + q)) a) (fun hm h => h.mono hm)) rfl (.cons rfl <| .cons rfl <| .nil) Try.call14 (fun w m hK => by exact FnG.mono (drop_c (n := (p : Int) + (q : Int)) (KC.agree hK) (hy2.mono (KC.le hK)) ⟨by omega, by omega⟩) fun _ _ _ _ h => h)) <|
      .consT rfl rfl (fun _ => rfl) rfl (ob_allocL Try.zeroValue26 rfl) <|
      .consT rfl rfl (fun _ => rfl) rfl (ob_imgT 10 rfl rfl rfl fun y10 => ob_imgTX 32 rfl rfl rfl fun y32 => ob_storeF rfl rfl rfl rfl Try.sizeOf26 rfl rfl rfl) <|
      .nil) ?_
  intro a7 w7 m7 hst7 hle7 hk7
  have hfr7 := hk7.fr (T' := [(6, _), (7, _), (8, _), (0, _), (1, _), (2, _), (9, _)]) (.old rfl rfl <| .old rfl rfl <| .old rfl rfl <| .old rfl rfl <| .old rfl rfl <| .old rfl rfl <| .old rfl rfl <| .nil)
  obtain ⟨g10, e13, _⟩ := hk7.ex 10 rfl
  replace hfr7 := hfr7.cons e13
  replace hst7 := hst7.fin (L' := [_, _, _]) (.cons e13 <| .cons e13 <| .nil)
  obtain ⟨b10, hy10, hst7⟩ := hst7.unx (k := 2) rfl (fun _ => rfl)
  replace h2 := h2.mono hle7
  replace hy2 := hy2.mono hle7
  replace hy9 := hy9.mono hle7
  clear hst6 hfr6 hk7
  refine hK12 _ _ ?_; try clear hK12 K12
  refine seq_any fun K15 hK15 => ?_
  replace hst7 := hst7.more (r := .free) trivial List.nodup_nil (by simp [Res.blocks])
  refine region_any (tch := [(3, 3, (fun v => .blk v _)), (4, 3, (fun v => .blkx v _ _))]) (fun h => by cases h) hst7 hfr7 (by kernel_rfl) (by kernel_rfl) (by kernel_rfl) (.cons rfl (ob_loadLS' (j := 0) rfl rfl Try.isAgg26 Try.sizeOf26 rfl rfl) <|
      .cons rfl (ob_move rfl) <|
      .cons rfl (ob_call (φ := MP.mem (fun a => .agg #[.pointer a]) (fun a m => Chain m ((l6.take (n2 - p)).reverse.map RE.ve) a) (fun hm h => h.mono hm)) rfl (.cons rfl <| .cons rfl <| .nil) Try.call14 (fun w m hK => by exact FnG.mono ((drop_c (n := (p : Int)) (KC.agree hK) (hy2.mono (KC.le hK)) ⟨by omega, by omega⟩).mono fun _ _ _ _ ⟨o, e, h⟩ => ⟨o, e, by have h : Chain _ ((l6.reverse.map RE.ve).drop p) o := h; rw [rev_drop', hln] at h; exact h⟩) fun _ _ _ _ h => h)) <|
      .consT rfl rfl (fun _ => rfl) rfl (ob_allocL Try.zeroValue26 rfl) <|
      .consT rfl rfl (fun _ => rfl) rfl (ob_imgT 11 rfl rfl rfl fun y11 => ob_imgTX 35 rfl rfl rfl fun y35 => ob_storeF rfl rfl rfl rfl Try.sizeOf26 rfl rfl rfl) <|
      .nil) ?_
  intro a8 w8 m8 hst8 hle8 hk8
  have hfr8 := hk8.fr (T' := [(6, _), (7, _), (8, _), (0, _), (1, _), (2, _), (9, _), (10, _)]) (.old rfl rfl <| .old rfl rfl <| .old rfl rfl <| .old rfl rfl <| .old rfl rfl <| .old rfl rfl <| .old rfl rfl <| .old rfl rfl <| .nil)
  obtain ⟨g11, e16, _⟩ := hk8.ex 11 rfl
  replace hfr8 := hfr8.cons e16
  replace hst8 := hst8.fin (L' := [_, _, _, _]) (.cons e16 <| .cons e16 <| .nil)
  obtain ⟨b11, hy11, hst8⟩ := hst8.unx (k := 3) rfl (fun _ => rfl)
  replace h2 := h2.mono hle8
  replace hy2 := hy2.mono hle8
  replace hy9 := hy9.mono hle8
  replace hy10 := hy10.mono hle8
  clear hst7 hfr7 hk8
  refine hK15 _ _ ?_; try clear hK15 K15
  refine seq_any fun K18 hK18 => ?_
  refine seq_any fun K19 hK19 => ?_
  refine region_plain (fun h => by cases h) hst8 hfr8 (by kernel_rfl) (by kernel_rfl) (.cons rfl (ob_move rfl) <|
      .cons rfl (ob_len rfl Try.underlying22) <|
      .cons rfl (ob_move rfl) <|
      .cons rfl (ob_sub rfl rfl ⟨by omega, by omega⟩) <|
      .cons rfl (ob_max2 rfl rfl) <|
      .cons rfl (ob_assign rfl) <|
      .nil) ?_
  intro a9 w9 m9 hst9 hle9 hk9
  have hfr9 := hk9.fr (T' := [(6, _), (7, _), (8, _), (0, _), (1, _), (2, _), (9, _), (10, _), (11, _), (12, _)]) (.old rfl rfl <| .old rfl rfl <| .old rfl rfl <| .old rfl rfl <| .old rfl rfl <| .old rfl rfl <| .old rfl rfl <| .old rfl rfl <| .old rfl rfl <| .new rfl <| .nil)
  replace h2 := h2.mono hle9
  replace hy2 := hy2.mono hle9
  replace hy9 := hy9.mono hle9
  replace hy10 := hy10.mono hle9
  replace hy11 := hy11.mono hle9
  clear hst8 hfr8 hk9
  have hs : (if ((n2 : Int) - (p : Int)) > 0 then ((n2 : Int) - (p : Int)) else 0) = ((n2 - p : Nat) : Int) := by split <;> omega
  rw [hs] at hfr9
  clear hs
  refine hK19 _ _ ?_; try clear hK19 K19
  refine wp_block ?_
  refine loop_any (T := [(6, _), (7, _), (8, _), (0, _), (1, _), (2, _), (9, _), (10, _), (11, _)]) (fun (y : Nat × Option Addr) => ([(12, .int .i64 (y.1 : Int))] : List (Nat × Value))) (fun y => [.blk (.pointer (some ⟨gv, 0, none⟩)) (.cells #[.pointer b2] 26), .blk (.pointer (some ⟨g9, 0, none⟩)) (.cells #[.pointer b9] 26), .blk (.pointer (some ⟨g10, 0, none⟩)) (.cells #[.pointer b10] 26), .blk (.pointer (some ⟨g11, 0, none⟩)) (.cells #[.pointer y.2] 26)]) (fun (y : Nat × Option Addr) m => y.1 ≤ n2 ∧ Chain m ((l6.take y.1).reverse.map RE.ve) y.2) (fun y => n2 - y.1) ((n2 - p, b11)) ⟨hst9, MLe.refl _, hfr9.sub (.cons rfl <| .cons rfl <| .cons rfl <| .cons rfl <| .cons rfl <| .cons rfl <| .cons rfl <| .cons rfl <| .cons rfl <| .cons rfl <| .nil), ⟨Nat.sub_le _ _, hy11⟩⟩ fun y a10 w10 m10 hh10 => ?_
  have hst10 := hh10.st; have hle10 := hh10.le; have hfr10 := hh10.fr; have hrel := hh10.rel; clear hh10
  replace h2 := h2.mono hle10
  replace hy2 := hy2.mono hle10
  replace hy9 := hy9.mono hle10
  replace hy10 := hy10.mono hle10
  replace hy11 := hy11.mono hle10
  clear hst9 hfr9
  obtain ⟨j, a⟩ := y
  obtain ⟨hj, hch⟩ := hrel
  dsimp only at hj hch hfr10 hst10
  have hlh10 := hle10
  refine seq_any fun K21 hK21 => ?_
  refine seq_any fun K22 hK22 => ?_
  refine region_plain (fun h => by cases h) hst10 hfr10 (by kernel_rfl) (by kernel_rfl) (.cons rfl (ob_move rfl) <|
      .cons rfl (ob_move rfl) <|
      .cons rfl (ob_len rfl Try.underlying22) <|
      .cons rfl (ob_lss rfl rfl) <|
      .nil) ?_
  intro a11 w11 m11 hst11 hle11 hk11
  have hfr11 := hk11.fr (T' := [(12, _), (6, _), (7, _), (8, _), (0, _), (1, _), (2, _), (9, _), (10, _), (11, _), (44, _)]) (.old rfl rfl <| .old rfl rfl <| .old rfl rfl <| .old rfl rfl <| .old rfl rfl <| .old rfl rfl <| .old rfl rfl <| .old rfl rfl <| .old rfl rfl <| .old rfl rfl <| .new rfl <| .nil)
  replace h2 := h2.mono hle11
  replace hy2 := hy2.mono hle11
  replace hy9 := hy9.mono hle11
  replace hy10 := hy10.mono hle11
  replace hy11 := hy11.mono hle11
  replace hch := hch.mono hle11
  have hlh11 := hlh10.trans hle11
  clear hst10 hfr10 hk11
  refine hK22 _ _ ?_; try clear hK22 K22
  refine cond_any hfr11 rfl rfl (fun hb44 => ?_) (fun hb44 => ?_)
  · have hlt2 : j < n2 := by simpa using hb44
    obtain ⟨pp, hx, rfl, hc⟩ := h2.get hlt2
    refine wp_skip ?_
    refine hK21 _ _ ?_; try clear hK21 K21
    refine seq_any fun K23 hK23 => ?_
    refine wp_block ?_
    refine region_any (tch := [(17, 3, (fun _ => .blkx _ _ _))]) (fun _ => mixed) hst11 hfr11 (by kernel_rfl) (by kernel_rfl) (by kernel_rfl) (.cons rfl (ob_loadLS' (j := 3) rfl rfl Try.isAgg26 Try.sizeOf26 rfl rfl) <|
        .cons rfl (ob_move rfl) <|
        .cons rfl (ob_move rfl) <|
        .cons rfl (ob_indexAddr rfl rfl Try.underlying22 Try.sizeOf31 rfl hlt2) <|
        .cons rfl (ob_fieldAddr rfl Try.underlying31 rfl Try.sizeOf9 rfl) <|
        .cons rfl (ob_load1 rfl hc Try.isAgg9 rfl) <|
        .cons rfl (ob_move rfl) <|
        .cons rfl (ob_move rfl) <|
        .cons rfl (ob_indexAddr rfl rfl Try.underlying22 Try.sizeOf31 rfl hlt2) <|
        .cons rfl (ob_fieldAddr rfl Try.underlying31 rfl Try.sizeOf3 rfl) <|
        .cons rfl (ob_load1 rfl hc Try.isAgg3 rfl) <|
        .cons rfl (ob_move rfl) <|
        .cons rfl (ob_move rfl) <|
        .cons rfl (ob_indexAddr rfl rfl Try.underlying22 Try.sizeOf31 rfl hlt2) <|
        .cons rfl (ob_fieldAddr rfl Try.underlying31 rfl Try.sizeOf9 rfl) <|
        .cons rfl (ob_load1 rfl hc Try.isAgg9 rfl) <|
        .cons rfl (ob_call (φ := MP.mem (fun a => .agg #[.pointer a]) (fun a m => Chain m (⟨l6[j].e, l6[j].mrk, S l6[j].k⟩ :: (l6.take j).reverse.map RE.ve) a) (fun hm h => h.mono hm)) rfl (.cons rfl <| .cons rfl <| .cons rfl <| .cons rfl <| .nil) Try.call10 (fun w m hK => by exact FnG.mono (push_c (e := l6[j].e) (n := l6[j].mrk) (k := l6[j].k) (KC.agree hK) (hch.mono (KC.le hK)) (by simp; omega)) fun _ _ _ _ h => h)) <|
        .consT rfl rfl (fun _ => rfl) rfl (ob_imgTX 63 rfl rfl rfl fun y63 => ob_store' rfl rfl rfl Try.sizeOf26 rfl rfl rfl) <|
        .nil) ?_
    intro a12 w12 m12 hst12 hle12 hk12
    have hfr12 := hk12.fr (T' := [(12, _), (6, _), (7, _), (8, _), (0, _), (1, _), (2, _), (9, _), (10, _), (11, _)]) (.old rfl rfl <| .old rfl rfl <| .old rfl rfl <| .old rfl rfl <| .old rfl rfl <| .old rfl rfl <| .old rfl rfl <| .old rfl rfl <| .old rfl rfl <| .old rfl rfl <| .nil)
    replace hst12 := hst12.fin (L' := [_, _, _, _]) (.cons rfl <| .nil)
    obtain ⟨b3, hc2, hst12⟩ := hst12.unx (k := 3) rfl (fun _ => rfl)
    replace h2 := h2.mono hle12
    replace hy2 := hy2.mono hle12
    replace hy9 := hy9.mono hle12
    replace hy10 := hy10.mono hle12
    replace hy11 := hy11.mono hle12
    replace hch := hch.mono hle12
    replace hc := hc.mono hle12
    have hlh12 := hlh11.trans hle12
    clear hst11 hfr11 hk12
    refine hK23 _ _ ?_; try clear hK23 K23
    refine region_plain (fun h => by cases h) hst12 hfr12 (by kernel_rfl) (by kernel_rfl) (.cons rfl (ob_move rfl) <|
        .cons rfl (ob_add rfl rfl ⟨by omega, by omega⟩) <|
        .cons rfl (ob_assign rfl) <|
        .nil) ?_
    intro a13 w13 m13 hst13 hle13 hk13
    have hfr13 := hk13.fr (T' := [(6, _), (7, _), (8, _), (0, _), (1, _), (2, _), (9, _), (10, _), (11, _), (12, _)]) (.old rfl rfl <| .old rfl rfl <| .old rfl rfl <| .old rfl rfl <| .old rfl rfl <| .old rfl rfl <| .old rfl rfl <| .old rfl rfl <| .old rfl rfl <| .new rfl <| .nil)
    replace h2 := h2.mono hle13
    replace hy2 := hy2.mono hle13
    replace hy9 := hy9.mono hle13
    replace hy10 := hy10.mono hle13
    replace hy11 := hy11.mono hle13
    replace hch := hch.mono hle13
    replace hc := hc.mono hle13
    replace hc2 := hc2.mono hle13
    have hlh13 := hlh12.trans hle13
    clear hst12 hfr12 hk13
    exact ⟨(j + 1, b3), m13, by show n2 - (j + 1) < n2 - j; omega, ⟨hst13, hlh13, hfr13.sub (.cons rfl <| .cons rfl <| .cons rfl <| .cons rfl <| .cons rfl <| .cons rfl <| .cons rfl <| .cons rfl <| .cons rfl <| .cons rfl <| .nil), ⟨by show j + 1 ≤ n2; omega, by show Chain _ ((l6.take (j + 1)).reverse.map RE.ve) b3; rw [← take_rev hx]; exact hc2⟩⟩⟩
  · have hge : j = n2 := by simp at hb44; omega
    subst hge
    rw [List.take_of_length_le (by omega)] at hch
    refine wp_exit ?_
    refine hK18 _ _ ?_; try clear hK18 K18
    refine seq_any fun K25 hK25 => ?_
    refine region_plain (fun _ => mixed) hst11 hfr11 (by kernel_rfl) (by kernel_rfl) (.cons rfl (ob_move rfl) <|
        .cons rfl (ob_move rfl) <|
        .cons rfl (ob_loadLS' (j := 1) rfl rfl Try.isAgg26 Try.sizeOf26 rfl rfl) <|
        .cons rfl (ob_call (φ := MP.mem (fun y : Option Addr × Nat => .slice y.1 (((l6.reverse.map RE.ve).drop p).drop q).length y.2) (fun y m => Ints m y.1 (((l6.reverse.map RE.ve).drop p).drop q).length y.2 ((((l6.reverse.map RE.ve).drop p).drop q).map VE.mrk)) (fun hm h => h.mono hm)) rfl (.cons rfl <| .nil) Try.call17 (fun w m hK => by exact FnG.mono ((markers_c (l := (((l6.reverse.map RE.ve).drop p).drop q)) (KC.agree hK) (hy9.mono (KC.le hK)) (by simp; omega)).mono fun _ _ _ _ ⟨y, e, hr, hc⟩ => ⟨y, e, Ints.of_row (by simpa [Function.comp_def] using hr) (by simp) hc (by simp; omega)⟩) fun _ _ _ _ h => h)) <|
        .cons rfl (ob_loadLS' (j := 2) rfl rfl Try.isAgg26 Try.sizeOf26 rfl rfl) <|
        .cons rfl (ob_call (φ := MP.mem (fun y : Option Addr × Nat => .slice y.1 ((l6.reverse.map RE.ve).drop (p + q)).length y.2) (fun y m => Ints m y.1 ((l6.reverse.map RE.ve).drop (p + q)).length y.2 (((l6.reverse.map RE.ve).drop (p + q)).map VE.mrk)) (fun hm h => h.mono hm)) rfl (.cons rfl <| .nil) Try.call17 (fun w m hK => by exact FnG.mono ((markers_c (l := ((l6.reverse.map RE.ve).drop (p + q))) (KC.agree hK) (hy10.mono (KC.le hK)) (by simp; omega)).mono fun _ _ _ _ ⟨y, e, hr, hc⟩ => ⟨y, e, Ints.of_row (by simpa [Function.comp_def] using hr) (by simp) hc (by simp; omega)⟩) fun _ _ _ _ h => h)) <|
        .cons rfl (ob_imgE 67 rfl rfl rfl fun y67 => ob_imgE 69 rfl rfl rfl fun y69 => ob_callE rfl (.cons rfl <| .cons rfl <| .nil) Try.call16 (fun w m hK => by exact sameInts_c (KC.agree hK) hK.1.2 hK.2)) <|
        .cons rfl (ob_and rfl rfl rfl) <|
        .cons rfl (ob_move rfl) <|
        .cons rfl (ob_loadLS' (j := 1) rfl rfl Try.isAgg26 Try.sizeOf26 rfl rfl) <|
        .cons rfl (ob_callE rfl (.cons rfl <| .nil) Try.call15 (fun w m hK => by exact len_c (l := (((l6.reverse.map RE.ve).drop p).drop q)) (KC.agree hK) (hy9.mono (KC.le hK)))) <|
        .cons rfl (ob_move rfl) <|
        .cons rfl (ob_len rfl Try.underlying22) <|
        .cons rfl (ob_move rfl) <|
        .cons rfl (ob_sub rfl rfl ⟨by omega, by omega⟩) <|
        .cons rfl (ob_move rfl) <|
        .cons rfl (ob_sub rfl rfl ⟨by omega, by omega⟩) <|
        .cons rfl (ob_max2 rfl rfl) <|
        .cons rfl (ob_eql rfl rfl) <|
        .cons rfl (ob_and rfl rfl rfl) <|
        .cons rfl (ob_move rfl) <|
        .cons rfl (ob_loadLS' (j := 3) rfl rfl Try.isAgg26 Try.sizeOf26 rfl rfl) <|
        .cons rfl (ob_move rfl) <|
        .cons rfl (ob_callE rfl (.cons rfl <| .cons rfl <| .nil) Try.call13 (fun w m hK => by exact same_true (KC.agree hK) (h2.mono (KC.le hK)) (hch.mono (KC.le hK)) (by omega) (mrk_ve _))) <|
        .cons rfl (ob_and rfl rfl rfl) <|
        .cons rfl (ob_move rfl) <|
        .cons rfl (ob_loadLS' (j := 0) rfl rfl Try.isAgg26 Try.sizeOf26 rfl rfl) <|
        .cons rfl (ob_move rfl) <|
        .cons rfl (ob_callE rfl (.cons rfl <| .cons rfl <| .nil) Try.call13 (fun w m hK => by exact same_true (KC.agree hK) (h2.mono (KC.le hK)) (hy2.mono (KC.le hK)) (by omega) (mrk_ve _))) <|
        .cons rfl (ob_and rfl rfl rfl) <|
        .cons rfl (ob_assign rfl) <|
        .nil) ?_
    intro a12 w12 m12 hst12 hle12 hk12
    have hfr12 := hk12.fr (T' := [(12, _), (7, _), (8, _), (0, _), (1, _), (2, _), (9, _), (10, _), (11, _), (6, _)]) (.old rfl rfl <| .old rfl rfl <| .old rfl rfl <| .old rfl rfl <| .old rfl rfl <| .old rfl rfl <| .old rfl rfl <| .old rfl rfl <| .old rfl rfl <| .new rfl <| .nil)
    replace h2 := h2.mono hle12
    replace hy2 := hy2.mono hle12
    replace hy9 := hy9.mono hle12
    replace hy10 := hy10.mono hle12
    replace hy11 := hy11.mono hle12
    replace hch := hch.mono hle12
    have hlh12 := hlh11.trans hle12
    clear hst11 hfr11 hk12
    refine hK25 _ _ ?_; try clear hK25 K25
    refine wp_ret ?_
    repeat (with_reducible first | refine then_ret ?_ | refine block_ret ?_)
    have ed : (((l6.reverse.map RE.ve).drop p).drop q) = ((l6.reverse.map RE.ve).drop (p + q)) := List.drop_drop
    have el : (((((l6.reverse.map RE.ve).drop p).drop q).length : Int) = if ((j : Int) - (p : Int) - (q : Int)) > 0 then ((j : Int) - (p : Int) - (q : Int)) else 0) := by rw [ed]; simp; split <;> omega
    exact fn_ret hst12 hfr12 rfl (.tmp rfl <| .nil) (by rw [← el, ed]; simp [bundle])

end Go.Proofs.Ytibkcojlgbmlhaa
