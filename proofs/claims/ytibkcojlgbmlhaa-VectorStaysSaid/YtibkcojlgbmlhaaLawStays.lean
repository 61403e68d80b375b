/-
  A law's function. Conditions: those of each theorem.
-/
import Derived.Test.YtibkcojlgbmlhaaShown
namespace Go.Proofs.Ytibkcojlgbmlhaa
open Go.RowKit
set_option maxHeartbeats 400000 in
theorem law_stays {w : World} {m : Mem} {o : Option Addr} {n c : Nat} {l : List RE} {k0 : Int} {e : Str} {k : Int} {kk : Str} (hA : Agree w m) (h : Ents m o n c l) :
    FnV Try.prog 3 #[.slice o n c, .int .i64 k0, S e, .int .i64 k, S kk] w m (fun _ _ v => v = .bool true) := by
  refine fn_enter (vs := [.slice o n c, .int .i64 k0, S e, .int .i64 k, S kk]) Try.func3 rfl rfl rfl fun a0 hfr0 => ?_
  have hst0 := st_enter hA (loc_nil [] _ w m)
  have hbig := h.big
  have hcap := h.cap
  have hlen := h.len
  refine seq_any fun K1 hK1 => ?_
  refine region_plain (fun h => by cases h) hst0 hfr0 (by kernel_rfl) (by kernel_rfl) (.cons rfl (ob_assign rfl) <|
      .nil) ?_
  intro a1 w1 m1 hst1 hle1 hk1
  have hfr1 := hk1.fr (T' := [(0, _), (1, _), (2, _), (3, _), (4, _), (10, _)]) (.old rfl rfl <| .old rfl rfl <| .old rfl rfl <| .old rfl rfl <| .old rfl rfl <| .new rfl <| .nil)
  replace h := h.mono hle1
  clear hst0 hfr0 hk1
  refine hK1 _ _ ?_; try clear hK1 K1
  refine seq_any fun K2 hK2 => ?_
  refine region_plain (fun h => by cases h) hst1 hfr1 (by kernel_rfl) (by kernel_rfl) (.cons rfl (ob_callE rfl (.nil) Try.call8 (fun w m hK => by exact shown_c (KC.agree hK))) <|
      .cons rfl (ob_assign rfl) <|
      .nil) ?_
  intro a2 w2 m2 hst2 hle2 hk2
  have hfr2 := hk2.fr (T' := [(0, _), (1, _), (2, _), (3, _), (4, _), (10, _), (11, _)]) (.old rfl rfl <| .old rfl rfl <| .old rfl rfl <| .old rfl rfl <| .old rfl rfl <| .old rfl rfl <| .new rfl <| .nil)
  replace h := h.mono hle2
  clear hst1 hfr1 hk2
  refine hK2 _ _ ?_; try clear hK2 K2
  refine seq_any fun K3 hK3 => ?_
  refine region_plain (fun h => by cases h) hst2 hfr2 (by kernel_rfl) (by kernel_rfl) (.cons rfl (ob_move rfl) <|
      .cons rfl (ob_move rfl) <|
      .cons rfl (ob_len rfl Try.underlying22) <|
      .cons rfl (ob_min2 rfl rfl) <|
      .cons rfl (ob_slice rfl .none (.some (k := min n 60) rfl (by split <;> omega)) Try.underlying22 Try.sizeOf31 (by omega) (by omega)) <|
      .cons rfl (ob_assign rfl) <|
      .nil) ?_
  intro a3 w3 m3 hst3 hle3 hk3
  have hfr3 := hk3.fr (T' := [(1, _), (2, _), (3, _), (4, _), (10, _), (11, _), (0, _)]) (.old rfl rfl <| .old rfl rfl <| .old rfl rfl <| .old rfl rfl <| .old rfl rfl <| .old rfl rfl <| .new rfl <| .nil)
  replace h := h.mono hle3
  clear hst2 hfr2 hk3
  have h2 : Ents m3 (if c = 0 then o else o.map (·.add (0 * 3))) (min n 60 - 0) (c - 0) (l.take 60) := by
    have := h.cut (l := 0) (k := min n 60) (by omega) (by omega)
    rw [List.drop_zero] at this
    have e : l.take (min n 60) = l.take 60 := by rw [← hlen, Nat.min_comm, ← List.take_take]; simp
    rwa [e] at this
  generalize (if c = 0 then o else o.map (·.add (0 * 3))) = o2 at hfr3 h2
  generalize c - 0 = c2 at hfr3 h2
  obtain ⟨n2, hn2⟩ : ∃ n2, n2 = min n 60 - 0 := ⟨_, rfl⟩
  rw [← hn2] at hfr3 h2
  have hn3 : n2 = min n 60 := hn2
  clear hn2
  have hn60 : n2 ≤ 60 := by omega
  have hle2 := h2.len
  have hcap2 := h2.cap
  obtain ⟨l6, hl6⟩ : ∃ l6, l6 = l.take 60 := ⟨_, rfl⟩
  rw [← hl6] at h2 hle2
  clear h
  refine hK3 _ _ ?_; try clear hK3 K3
  refine seq_any fun K4 hK4 => ?_
  refine region_plain (fun h => by cases h) hst3 hfr3 (by kernel_rfl) (by kernel_rfl) (.cons rfl (ob_move rfl) <|
      .cons rfl (ob_band rfl rfl) <|
      .cons rfl (ob_move rfl) <|
      .cons rfl (ob_len rfl Try.underlying22) <|
      .cons rfl (ob_add rfl rfl ⟨by omega, by omega⟩) <|
      .cons rfl (ob_rem rfl rfl (by omega)) <|
      .cons rfl (ob_assign rfl) <|
      .nil) ?_
  intro a4 w4 m4 hst4 hle4 hk4
  have hfr4 := hk4.fr (T' := [(2, _), (3, _), (4, _), (10, _), (11, _), (0, _), (1, _)]) (.old rfl rfl <| .old rfl rfl <| .old rfl rfl <| .old rfl rfl <| .old rfl rfl <| .old rfl rfl <| .new rfl <| .nil)
  replace h2 := h2.mono hle4
  clear hst3 hfr3 hk4
  obtain ⟨i, hi, hin⟩ : ∃ i : Nat, (band k0 65535).tmod ((n2 : Int) + 1) = i ∧ i ≤ n2 := by
    have hb : 0 ≤ band k0 65535 ∧ band k0 65535 ≤ 65535 := band_le k0 65535 (by omega)
    rw [Int.tmod_eq_emod_of_nonneg hb.1]
    have h0 := Int.emod_nonneg (band k0 65535) (show ((n2 : Int) + 1) ≠ 0 by omega)
    have h1 := Int.emod_lt_of_pos (band k0 65535) (show (0 : Int) < (n2 : Int) + 1 by omega)
    exact ⟨((band k0 65535) % ((n2 : Int) + 1)).toNat, by omega, by omega⟩
  rw [hi] at hfr4
  clear hi
  have hci : Ents m4 _ _ _ _ := h2.cut (l := 0) (k := i) (by omega) hin
  rw [List.drop_zero] at hci
  have hlt := List.length_take (i := i) (l := l6)
  refine hK4 _ _ ?_; try clear hK4 K4
  refine seq_any fun K5 hK5 => ?_
  replace hst4 := hst4.more (r := .free) trivial List.nodup_nil (by simp [Res.blocks])
  refine region_any (tch := [(7, 0, (fun v => .blk v _)), (8, 0, (fun v => .blkx v _ _))]) (fun h => by cases h) hst4 hfr4 (by kernel_rfl) (by kernel_rfl) (by kernel_rfl) (.cons rfl (ob_move rfl) <|
      .cons rfl (ob_move rfl) <|
      .cons rfl (ob_slice rfl .none (.some (k := i) rfl rfl) Try.underlying22 Try.sizeOf31 (by omega) (by omega)) <|
      .cons rfl (ob_call (φ := MP.mem (fun y : Option Addr × Option Addr × Nat => .tuple #[.agg #[.pointer y.1], .slice y.2.1 (min (i - 0) 60) y.2.2]) (fun y m => Chain m ((l6.take i).reverse.map RE.ve) y.1) (fun hm h => h.mono hm)) rfl (.cons rfl <| .nil) Try.call9 (fun w m hK => by exact FnG.mono ((built_c (KC.agree hK) (hci.mono (KC.le hK))).mono fun _ _ _ _ ⟨y, e, h, _⟩ => ⟨y, e, by rw [List.take_of_length_le (by omega)] at h; exact h⟩) fun _ _ _ _ h => h)) <|
      .cons rfl (ob_imgV 39 rfl rfl rfl fun y39 => ob_move rfl) <|
      .cons rfl (ob_imgV 35 rfl rfl rfl fun y35 => ob_extract rfl rfl) <|
      .cons rfl (ob_imgV 35 rfl rfl rfl fun y35 => ob_extract rfl rfl) <|
      .consT rfl rfl (fun _ => rfl) rfl (ob_allocL Try.zeroValue26 rfl) <|
      .consT rfl rfl (fun _ => rfl) rfl (ob_imgT 12 rfl rfl rfl fun y12 => ob_imgTX 40 rfl rfl rfl fun y40 => ob_storeF rfl rfl rfl rfl Try.sizeOf26 rfl rfl rfl) <|
      .consA 41 rfl rfl <|
      .nil) ?_
  intro a5 w5 m5 hst5 hle5 hk5
  have hfr5 := hk5.fr (T' := [(2, _), (3, _), (4, _), (10, _), (11, _), (0, _), (1, _)]) (.old rfl rfl <| .old rfl rfl <| .old rfl rfl <| .old rfl rfl <| .old rfl rfl <| .old rfl rfl <| .old rfl rfl <| .nil)
  obtain ⟨y6, e6, hy6⟩ := hk5.ex 41 rfl
  replace hfr5 := hfr5.cons e6
  obtain ⟨gv, e7, _⟩ := hk5.ex 12 rfl
  replace hfr5 := hfr5.cons e7
  replace hst5 := hst5.fin (L' := [_]) (.cons e7 <| .cons e7 <| .nil)
  obtain ⟨⟨a4, s4, c4⟩, hy4, hst5⟩ := hst5.unx (k := 0) rfl (fun _ => rfl)
  replace h2 := h2.mono hle5
  replace hci := hci.mono hle5
  clear hst4 hfr4 hk5
  refine hK5 _ _ ?_; try clear hK5 K5
  refine seq_any fun K9 hK9 => ?_
  replace hst5 := hst5.more (r := .free) trivial List.nodup_nil (by simp [Res.blocks])
  refine region_any (tch := [(1, 1, (fun v => .blk v _)), (2, 1, (fun v => .blk v _))]) (fun h => by cases h) hst5 hfr5 (by kernel_rfl) (by kernel_rfl) (by kernel_rfl) (.cons rfl (ob_loadLS' (j := 0) rfl rfl Try.isAgg26 Try.sizeOf26 rfl rfl) <|
      .consT rfl rfl (fun _ => rfl) rfl (ob_allocL Try.zeroValue26 rfl) <|
      .consT rfl rfl (fun _ => rfl) rfl (ob_imgT 14 rfl rfl rfl fun y14 => ob_storeF rfl rfl rfl rfl Try.sizeOf26 rfl rfl rfl) <|
      .nil) ?_
  intro a6 w6 m6 hst6 hle6 hk6
  have hfr6 := hk6.fr (T' := [(2, _), (3, _), (4, _), (10, _), (11, _), (0, _), (1, _), (12, _)]) (.old rfl rfl <| .old rfl rfl <| .old rfl rfl <| .old rfl rfl <| .old rfl rfl <| .old rfl rfl <| .old rfl rfl <| .old rfl rfl <| .nil)
  obtain ⟨ga, e10, _⟩ := hk6.ex 14 rfl
  replace hfr6 := hfr6.cons e10
  replace hst6 := hst6.fin (L' := [_, _]) (.cons e10 <| .cons e10 <| .nil)
  replace h2 := h2.mono hle6
  replace hci := hci.mono hle6
  replace hy4 := hy4.mono hle6
  clear hst5 hfr5 hk6
  refine hK9 _ _ ?_; try clear hK9 K9
  refine seq_any fun K11 hK11 => ?_
  refine seq_any fun K12 hK12 => ?_
  refine region_plain (fun h => by cases h) hst6 hfr6 (by kernel_rfl) (by kernel_rfl) (.cons rfl (ob_move rfl) <|
      .cons rfl (ob_assign rfl) <|
      .nil) ?_
  intro a7 w7 m7 hst7 hle7 hk7
  have hfr7 := hk7.fr (T' := [(2, _), (3, _), (4, _), (10, _), (11, _), (0, _), (1, _), (12, _), (14, _), (15, _)]) (.old rfl rfl <| .old rfl rfl <| .old rfl rfl <| .old rfl rfl <| .old rfl rfl <| .old rfl rfl <| .old rfl rfl <| .old rfl rfl <| .old rfl rfl <| .new rfl <| .nil)
  replace h2 := h2.mono hle7
  replace hci := hci.mono hle7
  replace hy4 := hy4.mono hle7
  clear hst6 hfr6 hk7
  refine hK12 _ _ ?_; try clear hK12 K12
  refine wp_block ?_
  refine loop_any (T := [(2, _), (3, _), (4, _), (10, _), (11, _), (0, _), (1, _), (12, _), (14, _)]) (fun (y : Nat × Option Addr) => ([(15, .int .i64 (y.1 : Int))] : List (Nat × Value))) (fun y => [.blk (.pointer (some ⟨gv, 0, none⟩)) (.cells #[.pointer a4] 26), .blk (.pointer (some ⟨ga, 0, none⟩)) (.cells #[.pointer y.2] 26)]) (fun (y : Nat × Option Addr) m => i ≤ y.1 ∧ y.1 ≤ n2 ∧ Chain m ((l6.take y.1).reverse.map RE.ve) y.2) (fun y => n2 - y.1) ((i, a4)) ⟨hst7, MLe.refl _, hfr7.sub (.cons rfl <| .cons rfl <| .cons rfl <| .cons rfl <| .cons rfl <| .cons rfl <| .cons rfl <| .cons rfl <| .cons rfl <| .cons rfl <| .nil), ⟨Nat.le_refl _, hin, hy4⟩⟩ fun y a8 w8 m8 hh8 => ?_
  have hst8 := hh8.st; have hle8 := hh8.le; have hfr8 := hh8.fr; have hrel := hh8.rel; clear hh8
  replace h2 := h2.mono hle8
  replace hci := hci.mono hle8
  replace hy4 := hy4.mono hle8
  clear hst7 hfr7
  obtain ⟨j, a⟩ := y
  obtain ⟨hji, hj, hch⟩ := hrel
  dsimp only at hji hj hch hfr8 hst8
  have hlh8 := hle8
  refine seq_any fun K14 hK14 => ?_
  refine seq_any fun K15 hK15 => ?_
  refine region_plain (fun h => by cases h) hst8 hfr8 (by kernel_rfl) (by kernel_rfl) (.cons rfl (ob_move rfl) <|
      .cons rfl (ob_move rfl) <|
      .cons rfl (ob_len rfl Try.underlying22) <|
      .cons rfl (ob_lss rfl rfl) <|
      .nil) ?_
  intro a9 w9 m9 hst9 hle9 hk9
  have hfr9 := hk9.fr (T' := [(15, _), (2, _), (3, _), (4, _), (10, _), (11, _), (0, _), (1, _), (12, _), (14, _), (47, _)]) (.old rfl rfl <| .old rfl rfl <| .old rfl rfl <| .old rfl rfl <| .old rfl rfl <| .old rfl rfl <| .old rfl rfl <| .old rfl rfl <| .old rfl rfl <| .old rfl rfl <| .new rfl <| .nil)
  replace h2 := h2.mono hle9
  replace hci := hci.mono hle9
  replace hy4 := hy4.mono hle9
  replace hch := hch.mono hle9
  have hlh9 := hlh8.trans hle9
  clear hst8 hfr8 hk9
  refine hK15 _ _ ?_; try clear hK15 K15
  refine cond_any hfr9 rfl rfl (fun hb47 => ?_) (fun hb47 => ?_)
  · have hlt2 : j < n2 := by simpa using hb47
    obtain ⟨p, hx, rfl, hc⟩ := h2.get hlt2
    refine wp_skip ?_
    refine hK14 _ _ ?_; try clear hK14 K14
    refine seq_any fun K16 hK16 => ?_
    refine wp_block ?_
    refine region_any (tch := [(17, 1, (fun _ => .blkx _ _ _))]) (fun _ => mixed) hst9 hfr9 (by kernel_rfl) (by kernel_rfl) (by kernel_rfl) (.cons rfl (ob_loadLS' (j := 1) rfl rfl Try.isAgg26 Try.sizeOf26 rfl rfl) <|
        .cons rfl (ob_move rfl) <|
        .cons rfl (ob_move rfl) <|
        .cons rfl (ob_indexAddr rfl rfl Try.underlying22 Try.sizeOf31 rfl hlt2) <|
        .cons rfl (ob_fieldAddr rfl Try.underlying31 rfl Try.sizeOf9 rfl) <|
        .cons rfl (ob_load1 rfl hc Try.isAgg9 rfl) <|
        .cons rfl (ob_move rfl) <|
        .cons rfl (ob_move rfl) <|
        .cons rfl (ob_indexAddr rfl rfl Try.underlying22 Try.sizeOf31 rfl hlt2) <|
        .cons rfl (ob_fieldAddr rfl Try.underlying31 rfl Try.sizeOf3 rfl) <|
        .cons rfl (ob_load1 rfl hc Try.isAgg3 rfl) <|
        .cons rfl (ob_move rfl) <|
        .cons rfl (ob_move rfl) <|
        .cons rfl (ob_indexAddr rfl rfl Try.underlying22 Try.sizeOf31 rfl hlt2) <|
        .cons rfl (ob_fieldAddr rfl Try.underlying31 rfl Try.sizeOf9 rfl) <|
        .cons rfl (ob_load1 rfl hc Try.isAgg9 rfl) <|
        .cons rfl (ob_call (φ := MP.mem (fun a => .agg #[.pointer a]) (fun a m => Chain m (⟨l6[j].e, l6[j].mrk, S l6[j].k⟩ :: (l6.take j).reverse.map RE.ve) a) (fun hm h => h.mono hm)) rfl (.cons rfl <| .cons rfl <| .cons rfl <| .cons rfl <| .nil) Try.call10 (fun w m hK => by exact FnG.mono (push_c (e := l6[j].e) (n := l6[j].mrk) (k := l6[j].k) (KC.agree hK) (hch.mono (KC.le hK)) (by simp; omega)) fun _ _ _ _ h => h)) <|
        .consT rfl rfl (fun _ => rfl) rfl (ob_imgTX 66 rfl rfl rfl fun y66 => ob_store' rfl rfl rfl Try.sizeOf26 rfl rfl rfl) <|
        .nil) ?_
    intro a10 w10 m10 hst10 hle10 hk10
    have hfr10 := hk10.fr (T' := [(15, _), (2, _), (3, _), (4, _), (10, _), (11, _), (0, _), (1, _), (12, _), (14, _)]) (.old rfl rfl <| .old rfl rfl <| .old rfl rfl <| .old rfl rfl <| .old rfl rfl <| .old rfl rfl <| .old rfl rfl <| .old rfl rfl <| .old rfl rfl <| .old rfl rfl <| .nil)
    replace hst10 := hst10.fin (L' := [_, _]) (.cons rfl <| .nil)
    obtain ⟨a2, hc2, hst10⟩ := hst10.unx (k := 1) rfl (fun _ => rfl)
    replace h2 := h2.mono hle10
    replace hci := hci.mono hle10
    replace hy4 := hy4.mono hle10
    replace hch := hch.mono hle10
    replace hc := hc.mono hle10
    have hlh10 := hlh9.trans hle10
    clear hst9 hfr9 hk10
    refine hK16 _ _ ?_; try clear hK16 K16
    refine region_plain (fun h => by cases h) hst10 hfr10 (by kernel_rfl) (by kernel_rfl) (.cons rfl (ob_move rfl) <|
        .cons rfl (ob_add rfl rfl ⟨by omega, by omega⟩) <|
        .cons rfl (ob_assign rfl) <|
        .nil) ?_
    intro a11 w11 m11 hst11 hle11 hk11
    have hfr11 := hk11.fr (T' := [(2, _), (3, _), (4, _), (10, _), (11, _), (0, _), (1, _), (12, _), (14, _), (15, _)]) (.old rfl rfl <| .old rfl rfl <| .old rfl rfl <| .old rfl rfl <| .old rfl rfl <| .old rfl rfl <| .old rfl rfl <| .old rfl rfl <| .old rfl rfl <| .new rfl <| .nil)
    replace h2 := h2.mono hle11
    replace hci := hci.mono hle11
    replace hy4 := hy4.mono hle11
    replace hch := hch.mono hle11
    replace hc := hc.mono hle11
    replace hc2 := hc2.mono hle11
    have hlh11 := hlh10.trans hle11
    clear hst10 hfr10 hk11
    exact ⟨(j + 1, a2), m11, by show n2 - (j + 1) < n2 - j; omega, ⟨hst11, hlh11, hfr11.sub (.cons rfl <| .cons rfl <| .cons rfl <| .cons rfl <| .cons rfl <| .cons rfl <| .cons rfl <| .cons rfl <| .cons rfl <| .cons rfl <| .nil), ⟨by show i ≤ j + 1; omega, by show j + 1 ≤ n2; omega, by show Chain _ ((l6.take (j + 1)).reverse.map RE.ve) a2; rw [← take_rev hx]; exact hc2⟩⟩⟩
  · have hge : j = n2 := by simp at hb47; omega
    subst hge
    rw [List.take_of_length_le (by omega)] at hch
    refine wp_exit ?_
    refine hK11 _ _ ?_; try clear hK11 K11
    refine seq_any fun K18 hK18 => ?_
    replace hst9 := hst9.more (r := .free) trivial List.nodup_nil (by simp [Res.blocks])
    refine region_any (tch := [(5, 2, (fun v => .blk v _)), (6, 2, (fun v => .blkx v _ _))]) (fun h => by cases h) hst9 hfr9 (by kernel_rfl) (by kernel_rfl) (by kernel_rfl) (.cons rfl (ob_loadLS' (j := 0) rfl rfl Try.isAgg26 Try.sizeOf26 rfl rfl) <|
        .cons rfl (ob_move rfl) <|
        .cons rfl (ob_move rfl) <|
        .cons rfl (ob_move rfl) <|
        .cons rfl (ob_call (φ := MP.mem (fun a => .agg #[.pointer a]) (fun a m => Chain m (⟨e, k, S kk⟩ :: (l6.take i).reverse.map RE.ve) a) (fun hm h => h.mono hm)) rfl (.cons rfl <| .cons rfl <| .cons rfl <| .cons rfl <| .nil) Try.call10 (fun w m hK => by exact FnG.mono (push_c (e := e) (n := k) (k := kk) (KC.agree hK) (hy4.mono (KC.le hK)) (by simp; omega)) fun _ _ _ _ h => h)) <|
        .consT rfl rfl (fun _ => rfl) rfl (ob_allocL Try.zeroValue26 rfl) <|
        .consT rfl rfl (fun _ => rfl) rfl (ob_imgT 16 rfl rfl rfl fun y16 => ob_imgTX 71 rfl rfl rfl fun y71 => ob_storeF rfl rfl rfl rfl Try.sizeOf26 rfl rfl rfl) <|
        .nil) ?_
    intro a10 w10 m10 hst10 hle10 hk10
    have hfr10 := hk10.fr (T' := [(15, _), (2, _), (3, _), (4, _), (10, _), (11, _), (0, _), (1, _), (12, _), (14, _)]) (.old rfl rfl <| .old rfl rfl <| .old rfl rfl <| .old rfl rfl <| .old rfl rfl <| .old rfl rfl <| .old rfl rfl <| .old rfl rfl <| .old rfl rfl <| .old rfl rfl <| .nil)
    obtain ⟨g19, e19, _⟩ := hk10.ex 16 rfl
    replace hfr10 := hfr10.cons e19
    replace hst10 := hst10.fin (L' := [_, _, _]) (.cons e19 <| .cons e19 <| .nil)
    obtain ⟨y10, hy10, hst10⟩ := hst10.unx (k := 2) rfl (fun _ => rfl)
    replace h2 := h2.mono hle10
    replace hci := hci.mono hle10
    replace hy4 := hy4.mono hle10
    replace hch := hch.mono hle10
    have hlh10 := hlh9.trans hle10
    clear hst9 hfr9 hk10
    refine hK18 _ _ ?_; try clear hK18 K18
    refine seq_any fun K21 hK21 => ?_
    replace hst10 := hst10.more (r := .free) trivial List.nodup_nil (by simp [Res.blocks])
    refine region_any (tch := [(8, 3, (fun v => .blk v _)), (11, 3, (fun v => .blkx v _ _))]) (fun h => by cases h) hst10 hfr10 (by kernel_rfl) (by kernel_rfl) (by kernel_rfl) (.cons rfl (ob_loadLS' (j := 2) rfl rfl Try.isAgg26 Try.sizeOf26 rfl rfl) <|
        .cons rfl (ob_move rfl) <|
        .cons rfl (ob_call (φ := MP.mem (fun o => .tuple #[S kk, .int .i64 k, .agg #[.pointer o], .bool true]) (fun o m => Chain m ((l6.take i).reverse.map RE.ve) o) (fun hm h => h.mono hm)) rfl (.cons rfl <| .cons rfl <| .nil) Try.call11 (fun w m hK => by exact FnG.mono (find_some (l := (⟨e, k, S kk⟩ :: (l6.take i).reverse.map RE.ve)) (e := e) (x := ⟨e, k, S kk⟩) (xs := (l6.take i).reverse.map RE.ve) (KC.agree hK) (hy10.mono (KC.le hK)) (by simp [List.dropWhile])) fun _ _ _ _ h => h)) <|
        .cons rfl (ob_imgV 75 rfl rfl rfl fun y75 => ob_move rfl) <|
        .cons rfl (ob_imgV 72 rfl rfl rfl fun y72 => ob_extract rfl rfl) <|
        .cons rfl (ob_imgV 72 rfl rfl rfl fun y72 => ob_extract rfl rfl) <|
        .cons rfl (ob_imgV 72 rfl rfl rfl fun y72 => ob_extract rfl rfl) <|
        .cons rfl (ob_imgV 72 rfl rfl rfl fun y72 => ob_extract rfl rfl) <|
        .consT rfl rfl (fun _ => rfl) rfl (ob_allocL Try.zeroValue26 rfl) <|
        .consA 76 rfl rfl <|
        .consA 77 rfl rfl <|
        .consT rfl rfl (fun _ => rfl) rfl (ob_imgT 19 rfl rfl rfl fun y19 => ob_imgTX 78 rfl rfl rfl fun y78 => ob_storeF rfl rfl rfl rfl Try.sizeOf26 rfl rfl rfl) <|
        .consA 79 rfl rfl <|
        .nil) ?_
    intro a11 w11 m11 hst11 hle11 hk11
    have hfr11 := hk11.fr (T' := [(15, _), (2, _), (3, _), (4, _), (10, _), (11, _), (0, _), (1, _), (12, _), (14, _), (16, _)]) (.old rfl rfl <| .old rfl rfl <| .old rfl rfl <| .old rfl rfl <| .old rfl rfl <| .old rfl rfl <| .old rfl rfl <| .old rfl rfl <| .old rfl rfl <| .old rfl rfl <| .old rfl rfl <| .nil)
    obtain ⟨y22, e22, hy22⟩ := hk11.ex 76 rfl
    replace hfr11 := hfr11.cons e22
    obtain ⟨y23, e23, hy23⟩ := hk11.ex 77 rfl
    replace hfr11 := hfr11.cons e23
    obtain ⟨y24, e24, hy24⟩ := hk11.ex 79 rfl
    replace hfr11 := hfr11.cons e24
    obtain ⟨g25, e25, _⟩ := hk11.ex 19 rfl
    replace hfr11 := hfr11.cons e25
    replace hfr11 := hfr11.cons (hk11.same 17 rfl e22)
    replace hfr11 := hfr11.cons (hk11.same 18 rfl e23)
    replace hfr11 := hfr11.cons (hk11.same 20 rfl e24)
    replace hst11 := hst11.fin (L' := [_, _, _, _]) (.cons e25 <| .cons e25 <| .nil)
    obtain ⟨y11, hy11, hst11⟩ := hst11.unx (k := 3) rfl (fun _ => rfl)
    replace h2 := h2.mono hle11
    replace hci := hci.mono hle11
    replace hy4 := hy4.mono hle11
    replace hch := hch.mono hle11
    replace hy10 := hy10.mono hle11
    have hlh11 := hlh10.trans hle11
    clear hst10 hfr10 hk11
    refine hK21 _ _ ?_; try clear hK21 K21
    refine seq_any fun K27 hK27 => ?_
    refine region_plain (fun h => by cases h) hst11 hfr11 (by kernel_rfl) (by kernel_rfl) (.cons rfl (ob_loadLS' (j := 2) rfl rfl Try.isAgg26 Try.sizeOf26 rfl rfl) <|
        .cons rfl (ob_move rfl) <|
        .cons rfl (ob_callE rfl (.cons rfl <| .cons rfl <| .nil) Try.call12 (fun w m hK => by exact (show FnV Try.prog _ _ _ _ (fun _ _ v => v = .tuple #[.int .i64 0, .bool true]) from (first_c (l := (⟨e, k, S kk⟩ :: (l6.take i).reverse.map RE.ve)) (e := e) (KC.agree hK) (hy10.mono (KC.le hK)) (by simp; omega)).mono fun _ _ _ _ h => h.trans (by simp [firstRes, List.findIdx?_cons])))) <|
        .cons rfl (ob_move rfl) <|
        .cons rfl (ob_extract rfl rfl) <|
        .cons rfl (ob_extract rfl rfl) <|
        .cons rfl (ob_assign rfl) <|
        .cons rfl (ob_assign rfl) <|
        .nil) ?_
    intro a12 w12 m12 hst12 hle12 hk12
    have hfr12 := hk12.fr (T' := [(15, _), (2, _), (3, _), (4, _), (10, _), (11, _), (0, _), (1, _), (12, _), (14, _), (16, _), (19, _), (17, _), (18, _), (20, _), (21, _), (22, _)]) (.old rfl rfl <| .old rfl rfl <| .old rfl rfl <| .old rfl rfl <| .old rfl rfl <| .old rfl rfl <| .old rfl rfl <| .old rfl rfl <| .old rfl rfl <| .old rfl rfl <| .old rfl rfl <| .old rfl rfl <| .old rfl rfl <| .old rfl rfl <| .old rfl rfl <| .new rfl <| .new rfl <| .nil)
    replace h2 := h2.mono hle12
    replace hci := hci.mono hle12
    replace hy4 := hy4.mono hle12
    replace hch := hch.mono hle12
    replace hy10 := hy10.mono hle12
    replace hy11 := hy11.mono hle12
    have hlh12 := hlh11.trans hle12
    clear hst11 hfr11 hk12
    refine hK27 _ _ ?_; try clear hK27 K27
    refine seq_any fun K28 hK28 => ?_
    refine region_plain (fun _ => mixed) hst12 hfr12 (by kernel_rfl) (by kernel_rfl) (.cons rfl (ob_move rfl) <|
        .cons rfl (ob_move rfl) <|
        .cons rfl (ob_loadLS' (j := 0) rfl rfl Try.isAgg26 Try.sizeOf26 rfl rfl) <|
        .cons rfl (ob_move rfl) <|
        .cons rfl (ob_move rfl) <|
        .cons rfl (ob_slice rfl .none (.some (k := i) rfl rfl) Try.underlying22 Try.sizeOf31 (by omega) (by omega)) <|
        .cons rfl (ob_callE rfl (.cons rfl <| .cons rfl <| .nil) Try.call13 (fun w m hK => by exact same_true (KC.agree hK) (hci.mono (KC.le hK)) (hy4.mono (KC.le hK)) (by omega) (by first | exact mrk_ve _ | exact hmv))) <|
        .cons rfl (ob_and rfl rfl rfl) <|
        .cons rfl (ob_move rfl) <|
        .cons rfl (ob_loadLS' (j := 1) rfl rfl Try.isAgg26 Try.sizeOf26 rfl rfl) <|
        .cons rfl (ob_move rfl) <|
        .cons rfl (ob_callE rfl (.cons rfl <| .cons rfl <| .nil) Try.call13 (fun w m hK => by exact same_true (KC.agree hK) (h2.mono (KC.le hK)) (hch.mono (KC.le hK)) (by omega) (by first | exact mrk_ve _ | exact hmv))) <|
        .cons rfl (ob_and rfl rfl rfl) <|
        .cons rfl (ob_move rfl) <|
        .cons rfl (ob_move rfl) <|
        .cons rfl (ob_move rfl) <|
        .cons rfl (ob_seql rfl rfl) <|
        .cons rfl (ob_and rfl rfl rfl) <|
        .cons rfl (ob_move rfl) <|
        .cons rfl (ob_move rfl) <|
        .cons rfl (ob_move rfl) <|
        .cons rfl (ob_eql rfl rfl) <|
        .cons rfl (ob_and rfl rfl rfl) <|
        .cons rfl (ob_move rfl) <|
        .cons rfl (ob_loadLS' (j := 3) rfl rfl Try.isAgg26 Try.sizeOf26 rfl rfl) <|
        .cons rfl (ob_move rfl) <|
        .cons rfl (ob_move rfl) <|
        .cons rfl (ob_slice rfl .none (.some (k := i) rfl rfl) Try.underlying22 Try.sizeOf31 (by omega) (by omega)) <|
        .cons rfl (ob_callE rfl (.cons rfl <| .cons rfl <| .nil) Try.call13 (fun w m hK => by exact same_true (KC.agree hK) (hci.mono (KC.le hK)) (hy11.mono (KC.le hK)) (by omega) (by first | exact mrk_ve _ | exact hmv))) <|
        .cons rfl (ob_and rfl rfl rfl) <|
        .cons rfl (ob_move rfl) <|
        .cons rfl (ob_move rfl) <|
        .cons rfl (ob_and rfl rfl rfl) <|
        .cons rfl (ob_move rfl) <|
        .cons rfl (ob_move rfl) <|
        .cons rfl (ob_eql rfl rfl) <|
        .cons rfl (ob_and rfl rfl rfl) <|
        .cons rfl (ob_move rfl) <|
        .cons rfl (ob_move rfl) <|
        .cons rfl (ob_and rfl rfl rfl) <|
        .cons rfl (ob_move rfl) <|
        .cons rfl (ob_loadLS' (j := 2) rfl rfl Try.isAgg26 Try.sizeOf26 rfl rfl) <|
        .cons rfl (ob_call (φ := MP.mem (fun a => .agg #[.pointer a]) (fun a m => Chain m ((l6.take i).reverse.map RE.ve) a) (fun hm h => h.mono hm)) rfl (.cons rfl <| .cons rfl <| .nil) Try.call14 (fun w m hK => by exact FnG.mono (drop_c (n := 1) (KC.agree hK) (hy10.mono (KC.le hK)) ⟨by omega, by omega⟩) fun _ _ _ _ h => h)) <|
        .cons rfl (ob_move rfl) <|
        .cons rfl (ob_move rfl) <|
        .cons rfl (ob_slice rfl .none (.some (k := i) rfl rfl) Try.underlying22 Try.sizeOf31 (by omega) (by omega)) <|
        .cons rfl (ob_imgE 128 rfl rfl rfl fun y128 => ob_callE rfl (.cons rfl <| .cons rfl <| .nil) Try.call13 (fun w m hK => by exact same_true (KC.agree hK.1) (hci.mono (KC.le hK.1)) hK.2 (by omega) (mrk_ve _))) <|
        .cons rfl (ob_and rfl rfl rfl) <|
        .cons rfl (ob_move rfl) <|
        .cons rfl (ob_loadLS' (j := 1) rfl rfl Try.isAgg26 Try.sizeOf26 rfl rfl) <|
        .cons rfl (ob_move rfl) <|
        .cons rfl (ob_len rfl Try.underlying22) <|
        .cons rfl (ob_move rfl) <|
        .cons rfl (ob_sub rfl rfl ⟨by omega, by omega⟩) <|
        .cons rfl (ob_call (φ := MP.mem (fun a => .agg #[.pointer a]) (fun a m => Chain m ((l6.take i).reverse.map RE.ve) a) (fun hm h => h.mono hm)) rfl (.cons rfl <| .cons rfl <| .nil) Try.call14 (fun w m hK => by exact FnG.mono ((drop_c (n := (j : Int) - (i : Int)) (KC.agree hK) (hch.mono (KC.le hK)) ⟨by omega, by omega⟩).mono fun _ _ _ _ ⟨o, e, h⟩ => ⟨o, e, by rw [show ((j : Int) - (i : Int)).toNat = l6.length - i by omega, rev_drop _ _ (by omega)] at h; exact h⟩) fun _ _ _ _ h => h)) <|
        .cons rfl (ob_move rfl) <|
        .cons rfl (ob_move rfl) <|
        .cons rfl (ob_slice rfl .none (.some (k := i) rfl rfl) Try.underlying22 Try.sizeOf31 (by omega) (by omega)) <|
        .cons rfl (ob_imgE 140 rfl rfl rfl fun y140 => ob_callE rfl (.cons rfl <| .cons rfl <| .nil) Try.call13 (fun w m hK => by exact same_true (KC.agree hK.1) (hci.mono (KC.le hK.1)) hK.2 (by omega) (mrk_ve _))) <|
        .cons rfl (ob_and rfl rfl rfl) <|
        .cons rfl (ob_assign rfl) <|
        .nil) ?_
    intro a13 w13 m13 hst13 hle13 hk13
    have hfr13 := hk13.fr (T' := [(15, _), (2, _), (3, _), (4, _), (11, _), (0, _), (1, _), (12, _), (14, _), (16, _), (19, _), (17, _), (18, _), (20, _), (21, _), (22, _), (10, _)]) (.old rfl rfl <| .old rfl rfl <| .old rfl rfl <| .old rfl rfl <| .old rfl rfl <| .old rfl rfl <| .old rfl rfl <| .old rfl rfl <| .old rfl rfl <| .old rfl rfl <| .old rfl rfl <| .old rfl rfl <| .old rfl rfl <| .old rfl rfl <| .old rfl rfl <| .old rfl rfl <| .new rfl <| .nil)
    replace h2 := h2.mono hle13
    replace hci := hci.mono hle13
    replace hy4 := hy4.mono hle13
    replace hch := hch.mono hle13
    replace hy10 := hy10.mono hle13
    replace hy11 := hy11.mono hle13
    have hlh13 := hlh12.trans hle13
    clear hst12 hfr12 hk13
    refine hK28 _ _ ?_; try clear hK28 K28
    refine wp_ret ?_
    repeat (with_reducible first | refine then_ret ?_ | refine block_ret ?_)
    exact fn_ret hst13 hfr13 rfl (.tmp rfl <| .nil) (by simp [bundle])

end Go.Proofs.Ytibkcojlgbmlhaa
