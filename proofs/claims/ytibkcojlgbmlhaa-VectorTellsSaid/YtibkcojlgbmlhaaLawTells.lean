/-
  A law's function. Conditions: those of each theorem.
-/
import Derived.Test.YtibkcojlgbmlhaaShown
namespace Go.Proofs.Ytibkcojlgbmlhaa
open Go.RowKit
set_option maxHeartbeats 400000 in
theorem law_tells {w : World} {m : Mem} {o : Option Addr} {n c : Nat} {l : List RE} {e : Str} {k n0 : Int} (hA : Agree w m) (h : Ents m o n c l) :
    FnV Try.prog 6 #[.slice o n c, S e, .int .i64 k, .int .i64 n0] w m (fun _ _ v => v = .bool true) := by
  refine fn_enter (vs := [.slice o n c, S e, .int .i64 k, .int .i64 n0]) Try.func6 rfl rfl rfl fun a0 hfr0 => ?_
  have hst0 := st_enter hA (loc_nil [] _ w m)
  have hbig := h.big
  have hcap := h.cap
  have hlen := h.len
  obtain ⟨n2, hn2⟩ : ∃ n2, n2 = min n 60 := ⟨_, rfl⟩
  obtain ⟨l6, hl6⟩ : ∃ l6, l6 = l.take 60 := ⟨_, rfl⟩
  have hn60 : n2 ≤ 60 := by omega
  have hln : l6.length = n2 := by rw [hl6, hn2, List.length_take, hlen, Nat.min_comm]
  refine seq_any fun K1 hK1 => ?_
  refine region_plain (fun h => by cases h) hst0 hfr0 (by kernel_rfl) (by kernel_rfl) (.cons rfl (ob_assign rfl) <|
      .nil) ?_
  intro a1 w1 m1 hst1 hle1 hk1
  have hfr1 := hk1.fr (T' := [(0, _), (1, _), (2, _), (3, _), (8, _)]) (.old rfl rfl <| .old rfl rfl <| .old rfl rfl <| .old rfl rfl <| .new rfl <| .nil)
  replace h := h.mono hle1
  clear hst0 hfr0 hk1
  refine hK1 _ _ ?_; try clear hK1 K1
  refine seq_any fun K2 hK2 => ?_
  refine region_plain (fun h => by cases h) hst1 hfr1 (by kernel_rfl) (by kernel_rfl) (.cons rfl (ob_callE rfl (.nil) Try.call8 (fun w m hK => by exact shown_c (KC.agree hK))) <|
      .cons rfl (ob_assign rfl) <|
      .nil) ?_
  intro a2 w2 m2 hst2 hle2 hk2
  have hfr2 := hk2.fr (T' := [(0, _), (1, _), (2, _), (3, _), (8, _), (9, _)]) (.old rfl rfl <| .old rfl rfl <| .old rfl rfl <| .old rfl rfl <| .old rfl rfl <| .new rfl <| .nil)
  replace h := h.mono hle2
  clear hst1 hfr1 hk2
  refine hK2 _ _ ?_; try clear hK2 K2
  refine seq_any fun K3 hK3 => ?_
  replace hst2 := hst2.more (r := .free) trivial List.nodup_nil (by simp [Res.blocks])
  refine region_any (tch := [(5, 0, (fun v => .blk v _)), (6, 0, (fun v => .blkx v _ _))]) (fun h => by cases h) hst2 hfr2 (by kernel_rfl) (by kernel_rfl) (by kernel_rfl) (.cons rfl (ob_move rfl) <|
      .cons rfl (ob_call (φ := MP.mem (fun y : Option Addr × Option Addr × Nat => .tuple #[.agg #[.pointer y.1], .slice y.2.1 n2 y.2.2]) (fun y m => Chain m (l6.reverse.map RE.ve) y.1 ∧ Ents m y.2.1 n2 y.2.2 l6) (fun hm h => ⟨h.1.mono hm, h.2.mono hm⟩)) rfl (.cons rfl <| .nil) Try.call9 (fun w m hK => by exact FnG.mono (built_c' (KC.agree hK) (h.mono (KC.le hK)) hn2 hl6) fun _ _ _ _ h => h)) <|
      .cons rfl (ob_imgV 25 rfl rfl rfl fun y25 => ob_move rfl) <|
      .cons rfl (ob_imgV 23 rfl rfl rfl fun y23 => ob_extract rfl rfl) <|
      .cons rfl (ob_imgV 23 rfl rfl rfl fun y23 => ob_extract rfl rfl) <|
      .consT rfl rfl (fun _ => rfl) rfl (ob_allocL Try.zeroValue26 rfl) <|
      .consT rfl rfl (fun _ => rfl) rfl (ob_imgT 10 rfl rfl rfl fun y10 => ob_imgTX 26 rfl rfl rfl fun y26 => ob_storeF rfl rfl rfl rfl Try.sizeOf26 rfl rfl rfl) <|
      .consA 27 rfl rfl <|
      .nil) ?_
  intro a3 w3 m3 hst3 hle3 hk3
  have hfr3 := hk3.fr (T' := [(1, _), (2, _), (3, _), (8, _), (9, _)]) (.old rfl rfl <| .old rfl rfl <| .old rfl rfl <| .old rfl rfl <| .old rfl rfl <| .nil)
  obtain ⟨⟨s2, o2, c2⟩, e4, hq0, h2⟩ := hk3.ex 27 rfl
  replace hfr3 := hfr3.cons e4
  obtain ⟨gv, e5, _⟩ := hk3.ex 10 rfl
  replace hfr3 := hfr3.cons e5
  replace hfr3 := hfr3.cons (hk3.same 0 rfl e4)
  replace hst3 := hst3.fin (L' := [_]) (.cons e5 <| .cons e5 <| .nil)
  obtain ⟨⟨b2, s3, c3⟩, ⟨hy2, _⟩, hst3⟩ := hst3.unx (k := 0) rfl (fun _ => rfl)
  replace h := h.mono hle3
  clear hst2 hfr2 hk3
  change Ents m3 o2 n2 c2 l6 at h2
  dsimp only at hy2
  have hcap2 := h2.cap
  clear h
  refine hK3 _ _ ?_; try clear hK3 K3
  refine seq_any fun K7 hK7 => ?_
  rcases ve_cases (fun x : RE => decide (x.e = e)) (fun x : VE => decide (x.e = e)) (fun _ => rfl) l6 with ⟨hl, hno, hdw, hfi⟩ | ⟨j, hj, hl, hq, hno, hdw, hfi⟩
  · skip
    rw [hln] at hl
    replace hst3 := hst3.more (r := .free) trivial List.nodup_nil (by simp [Res.blocks])
    refine region_any (tch := [(8, 1, (fun v => .blk v _)), (11, 1, (fun v => .blk v _))]) (fun h => by cases h) hst3 hfr3 (by kernel_rfl) (by kernel_rfl) (by kernel_rfl) (.cons rfl (ob_loadLS' (j := 0) rfl rfl Try.isAgg26 Try.sizeOf26 rfl rfl) <|
        .cons rfl (ob_move rfl) <|
        .cons rfl (ob_callE rfl (.cons rfl <| .cons rfl <| .nil) Try.call11 (fun w m hK => by exact find_none (l := (l6.reverse.map RE.ve)) (e := e) (KC.agree hK) (hy2.mono (KC.le hK)) hdw)) <|
        .cons rfl (ob_move rfl) <|
        .cons rfl (ob_extract rfl rfl) <|
        .cons rfl (ob_extract rfl rfl) <|
        .cons rfl (ob_extract rfl rfl) <|
        .cons rfl (ob_extract rfl rfl) <|
        .consT rfl rfl (fun _ => rfl) rfl (ob_allocL Try.zeroValue26 rfl) <|
        .cons rfl (ob_assign rfl) <|
        .cons rfl (ob_assign rfl) <|
        .consT rfl rfl (fun _ => rfl) rfl (ob_imgT 13 rfl rfl rfl fun y13 => ob_storeF rfl rfl rfl rfl Try.sizeOf26 rfl rfl rfl) <|
        .cons rfl (ob_assign rfl) <|
        .nil) ?_
    intro a4 w4 m4 hst4 hle4 hk4
    have hfr4 := hk4.fr (T' := [(1, _), (2, _), (3, _), (8, _), (9, _), (10, _), (0, _), (11, _), (12, _), (14, _)]) (.old rfl rfl <| .old rfl rfl <| .old rfl rfl <| .old rfl rfl <| .old rfl rfl <| .old rfl rfl <| .old rfl rfl <| .new rfl <| .new rfl <| .new rfl <| .nil)
    obtain ⟨g8, e8, _⟩ := hk4.ex 13 rfl
    replace hfr4 := hfr4.cons e8
    replace hst4 := hst4.fin (L' := [_, _]) (.cons e8 <| .cons e8 <| .nil)
    replace h2 := h2.mono hle4
    replace hy2 := hy2.mono hle4
    clear hst3 hfr3 hk4
    refine hK7 _ _ ?_; try clear hK7 K7
    refine seq_any fun K9 hK9 => ?_
    refine region_plain (fun h => by cases h) hst4 hfr4 (by kernel_rfl) (by kernel_rfl) (.cons rfl (ob_move rfl) <|
        .cons rfl (ob_move rfl) <|
        .cons rfl (ob_callE rfl (.cons rfl <| .cons rfl <| .nil) Try.call18 (fun w m hK => by exact (show FnV Try.prog _ _ _ _ (fun _ _ v => v = .int .i64 (-1)) from (refFind_c (e := e) (KC.agree hK) (h2.mono (KC.le hK))).mono fun _ _ _ _ h => h.trans (by rw [hl])))) <|
        .cons rfl (ob_assign rfl) <|
        .nil) ?_
    intro a5 w5 m5 hst5 hle5 hk5
    have hfr5 := hk5.fr (T' := [(1, _), (2, _), (3, _), (8, _), (9, _), (10, _), (0, _), (11, _), (12, _), (14, _), (13, _), (15, _)]) (.old rfl rfl <| .old rfl rfl <| .old rfl rfl <| .old rfl rfl <| .old rfl rfl <| .old rfl rfl <| .old rfl rfl <| .old rfl rfl <| .old rfl rfl <| .old rfl rfl <| .old rfl rfl <| .new rfl <| .nil)
    replace h2 := h2.mono hle5
    replace hy2 := hy2.mono hle5
    clear hst4 hfr4 hk5
    refine hK9 _ _ ?_; try clear hK9 K9
    refine seq_any fun K10 hK10 => ?_
    refine seq_any fun K11 hK11 => ?_
    refine region_plain (fun _ => mixed) hst5 hfr5 (by kernel_rfl) (by kernel_rfl) (.cons rfl (ob_move rfl) <|
        .cons rfl (ob_move rfl) <|
        .cons rfl (ob_geq rfl rfl) <|
        .cons rfl (ob_bneq rfl rfl Try.underlying4) <|
        .cons rfl (ob_move rfl) <|
        .cons rfl (ob_move rfl) <|
        .cons rfl (ob_not rfl) <|
        .cons rfl (ob_move rfl) <|
        .cons rfl (ob_move rfl) <|
        .cons rfl (ob_sneq rfl rfl) <|
        .cons rfl (ob_move rfl) <|
        .cons rfl (ob_move rfl) <|
        .cons rfl (ob_neq rfl rfl) <|
        .cons rfl (ob_or rfl rfl rfl) <|
        .cons rfl (ob_move rfl) <|
        .cons rfl (ob_loadLS' (j := 1) rfl rfl Try.isAgg26 Try.sizeOf26 rfl rfl) <|
        .cons rfl (ob_callE rfl (.cons rfl <| .nil) Try.call15 (fun w m hK => by exact len_c (l := []) (KC.agree hK) rfl)) <|
        .cons rfl (ob_neq rfl rfl) <|
        .cons rfl (ob_or rfl rfl rfl) <|
        .cons rfl (ob_and rfl rfl rfl) <|
        .cons rfl (ob_or rfl rfl rfl) <|
        .cons rfl (ob_move rfl) <|
        .cons rfl (ob_move rfl) <|
        .cons rfl (ob_move rfl) <|
        .cons rfl (ob_guard (κ := .eq (.bool false)) (b := true) 62 rfl rfl (fun h => by simp at h)) <|
        .cons rfl (ob_guard (κ := .eq (.bool false)) (b := true) 62 rfl rfl (fun h => by simp at h)) <|
        .cons rfl (ob_guard (κ := .eq (.bool false)) (b := true) 62 rfl rfl (fun h => by simp at h)) <|
        .cons rfl (ob_guard (κ := .eq (.bool false)) (b := true) 62 rfl rfl (fun h => by simp at h)) <|
        .cons rfl (ob_guard (κ := .eq (.bool false)) (b := true) 62 rfl rfl (fun h => by simp at h)) <|
        .cons rfl (ob_guard (κ := .eq (.bool false)) (b := true) 62 rfl rfl (fun h => by simp at h)) <|
        .cons rfl (ob_guard (κ := .eq (.bool false)) (b := true) 62 rfl rfl (fun h => by simp at h)) <|
        .cons rfl (ob_guard (κ := .eq (.bool true)) (b := true) 62 rfl rfl (fun h => by simp at h)) <|
        .cons rfl (ob_guard (κ := .eq (.bool false)) (b := false) 70 rfl rfl (fun h => by simp at h)) <|
        .cons rfl (ob_guard (κ := .eq (.bool false)) (b := false) 70 rfl rfl (fun h => by simp at h)) <|
        .cons rfl (ob_guard (κ := .eq (.bool false)) (b := false) 70 rfl rfl (fun h => by simp at h)) <|
        .cons rfl (ob_guard (κ := .eq (.bool false)) (b := false) 70 rfl rfl (fun h => by simp at h)) <|
        .cons rfl (ob_guard (κ := .eq (.bool false)) (b := false) 70 rfl rfl (fun h => by simp at h)) <|
        .cons rfl (ob_guard (κ := .eq (.bool false)) (b := false) 70 rfl rfl (fun h => by simp at h)) <|
        .cons rfl (ob_guard (κ := .eq (.bool false)) (b := false) 70 rfl rfl (fun h => by simp at h)) <|
        .cons rfl (ob_guard (κ := .eq (.bool false)) (b := true) 62 rfl rfl (fun h => by simp at h)) <|
        .cons rfl (ob_guard (κ := .eq (.bool true)) (b := true) 62 rfl rfl (fun h => by simp at h)) <|
        .cons rfl (ob_guard (κ := .eq (.bool false)) (b := false) 79 rfl rfl (fun h => by simp at h)) <|
        .cons rfl (ob_guard (κ := .eq (.bool false)) (b := false) 79 rfl rfl (fun h => by simp at h)) <|
        .cons rfl (ob_guard (κ := .eq (.bool false)) (b := false) 79 rfl rfl (fun h => by simp at h)) <|
        .cons rfl (ob_guard (κ := .eq (.bool false)) (b := false) 79 rfl rfl (fun h => by simp at h)) <|
        .cons rfl (ob_guard (κ := .eq (.bool false)) (b := false) 79 rfl rfl (fun h => by simp at h)) <|
        .cons rfl (ob_guard (κ := .eq (.bool false)) (b := false) 79 rfl rfl (fun h => by simp at h)) <|
        .cons rfl (ob_guard (κ := .eq (.bool false)) (b := true) 62 rfl rfl (fun h => by simp at h)) <|
        .cons rfl (ob_and rfl rfl rfl) <|
        .cons rfl (ob_or rfl rfl rfl) <|
        .nil) ?_
    intro a6 w6 m6 hst6 hle6 hk6
    have hfr6 := hk6.fr (T' := [(1, _), (2, _), (3, _), (8, _), (9, _), (10, _), (0, _), (11, _), (12, _), (14, _), (13, _), (15, _), (88, _)]) (.old rfl rfl <| .old rfl rfl <| .old rfl rfl <| .old rfl rfl <| .old rfl rfl <| .old rfl rfl <| .old rfl rfl <| .old rfl rfl <| .old rfl rfl <| .old rfl rfl <| .old rfl rfl <| .old rfl rfl <| .new rfl <| .nil)
    replace h2 := h2.mono hle6
    replace hy2 := hy2.mono hle6
    clear hst5 hfr5 hk6
    refine hK11 _ _ ?_; try clear hK11 K11
    refine cond_any hfr6 rfl rfl (fun hb88 => ?_) (fun hb88 => ?_)
    · simp at hb88
    · refine wp_skip ?_
      refine hK10 _ _ ?_; try clear hK10 K10
      refine seq_any fun K12 hK12 => ?_
      refine region_plain (fun h => by cases h) hst6 hfr6 (by kernel_rfl) (by kernel_rfl) (.cons rfl (ob_loadLS' (j := 0) rfl rfl Try.isAgg26 Try.sizeOf26 rfl rfl) <|
          .cons rfl (ob_move rfl) <|
          .cons rfl (ob_callE rfl (.cons rfl <| .cons rfl <| .nil) Try.call12 (fun w m hK => by exact (show FnV Try.prog _ _ _ _ (fun _ _ v => v = .tuple #[.int .i64 0, .bool false]) from (first_c (l := (l6.reverse.map RE.ve)) (e := e) (KC.agree hK) (hy2.mono (KC.le hK)) (by simp; omega)).mono fun _ _ _ _ h => h.trans (by rw [hfi]; rfl)))) <|
          .cons rfl (ob_move rfl) <|
          .cons rfl (ob_extract rfl rfl) <|
          .cons rfl (ob_extract rfl rfl) <|
          .cons rfl (ob_assign rfl) <|
          .cons rfl (ob_assign rfl) <|
          .nil) ?_
      intro a7 w7 m7 hst7 hle7 hk7
      have hfr7 := hk7.fr (T' := [(1, _), (2, _), (3, _), (8, _), (9, _), (10, _), (0, _), (11, _), (12, _), (14, _), (13, _), (15, _), (16, _), (17, _)]) (.old rfl rfl <| .old rfl rfl <| .old rfl rfl <| .old rfl rfl <| .old rfl rfl <| .old rfl rfl <| .old rfl rfl <| .old rfl rfl <| .old rfl rfl <| .old rfl rfl <| .old rfl rfl <| .old rfl rfl <| .new rfl <| .new rfl <| .nil)
      replace h2 := h2.mono hle7
      replace hy2 := hy2.mono hle7
      clear hst6 hfr6 hk7
      refine hK12 _ _ ?_; try clear hK12 K12
      refine seq_any fun K13 hK13 => ?_
      refine seq_any fun K14 hK14 => ?_
      refine region_plain (fun h => by cases h) hst7 hfr7 (by kernel_rfl) (by kernel_rfl) (.cons rfl (ob_move rfl) <|
          .cons rfl (ob_move rfl) <|
          .cons rfl (ob_bneq rfl rfl Try.underlying4) <|
          .cons rfl (ob_move rfl) <|
          .cons rfl (ob_move rfl) <|
          .cons rfl (ob_move rfl) <|
          .cons rfl (ob_move rfl) <|
          .cons rfl (ob_move rfl) <|
          .cons rfl (ob_len rfl Try.underlying22) <|
          .cons rfl (ob_sub rfl rfl ⟨by omega, by omega⟩) <|
          .cons rfl (ob_move rfl) <|
          .cons rfl (ob_sub rfl rfl ⟨by omega, by omega⟩) <|
          .cons rfl (ob_neq rfl rfl) <|
          .cons rfl (ob_and rfl rfl rfl) <|
          .cons rfl (ob_or rfl rfl rfl) <|
          .cons rfl (ob_move rfl) <|
          .cons rfl (ob_move rfl) <|
          .cons rfl (ob_not rfl) <|
          .cons rfl (ob_move rfl) <|
          .cons rfl (ob_move rfl) <|
          .cons rfl (ob_neq rfl rfl) <|
          .cons rfl (ob_and rfl rfl rfl) <|
          .cons rfl (ob_or rfl rfl rfl) <|
          .nil) ?_
      intro a8 w8 m8 hst8 hle8 hk8
      have hfr8 := hk8.fr (T' := [(1, _), (2, _), (3, _), (8, _), (9, _), (10, _), (0, _), (11, _), (12, _), (14, _), (13, _), (15, _), (16, _), (17, _), (117, _)]) (.old rfl rfl <| .old rfl rfl <| .old rfl rfl <| .old rfl rfl <| .old rfl rfl <| .old rfl rfl <| .old rfl rfl <| .old rfl rfl <| .old rfl rfl <| .old rfl rfl <| .old rfl rfl <| .old rfl rfl <| .old rfl rfl <| .old rfl rfl <| .new rfl <| .nil)
      replace h2 := h2.mono hle8
      replace hy2 := hy2.mono hle8
      clear hst7 hfr7 hk8
      refine hK14 _ _ ?_; try clear hK14 K14
      refine cond_any hfr8 rfl rfl (fun hb117 => ?_) (fun hb117 => ?_)
      · simp at hb117
      · refine wp_skip ?_
        refine hK13 _ _ ?_; try clear hK13 K13
        refine seq_any fun K15 hK15 => ?_
        rcases ve_cases (fun x : RE => decide (x.mrk = k)) (fun x : VE => decide (x.mrk = k)) (fun _ => rfl) l6 with ⟨hlq, hnoq, hdwq, hfiq⟩ | ⟨jq, hjq, hlq, hqq, hnoq, hdwq, hfiq⟩
        · skip
          rw [hln] at hlq
          replace hst8 := hst8.more (r := .free) trivial List.nodup_nil (by simp [Res.blocks])
          refine region_any (tch := [(7, 2, (fun v => .blk v _)), (9, 2, (fun v => .blk v _))]) (fun h => by cases h) hst8 hfr8 (by kernel_rfl) (by kernel_rfl) (by kernel_rfl) (.cons rfl (ob_loadLS' (j := 0) rfl rfl Try.isAgg26 Try.sizeOf26 rfl rfl) <|
              .cons rfl (ob_move rfl) <|
              .cons rfl (ob_callE rfl (.cons rfl <| .cons rfl <| .nil) Try.call19 (fun w m hK => by exact at_none (l := (l6.reverse.map RE.ve)) (k := k) (KC.agree hK) (hy2.mono (KC.le hK)) hdwq)) <|
              .cons rfl (ob_move rfl) <|
              .cons rfl (ob_extract rfl rfl) <|
              .cons rfl (ob_extract rfl rfl) <|
              .cons rfl (ob_extract rfl rfl) <|
              .consT rfl rfl (fun _ => rfl) rfl (ob_allocL Try.zeroValue26 rfl) <|
              .cons rfl (ob_assign rfl) <|
              .consT rfl rfl (fun _ => rfl) rfl (ob_imgT 19 rfl rfl rfl fun y19 => ob_storeF rfl rfl rfl rfl Try.sizeOf26 rfl rfl rfl) <|
              .cons rfl (ob_assign rfl) <|
              .nil) ?_
          intro a9 w9 m9 hst9 hle9 hk9
          have hfr9 := hk9.fr (T' := [(1, _), (2, _), (3, _), (8, _), (9, _), (10, _), (0, _), (11, _), (12, _), (14, _), (13, _), (15, _), (16, _), (17, _), (18, _), (20, _)]) (.old rfl rfl <| .old rfl rfl <| .old rfl rfl <| .old rfl rfl <| .old rfl rfl <| .old rfl rfl <| .old rfl rfl <| .old rfl rfl <| .old rfl rfl <| .old rfl rfl <| .old rfl rfl <| .old rfl rfl <| .old rfl rfl <| .old rfl rfl <| .new rfl <| .new rfl <| .nil)
          obtain ⟨g16, e16, _⟩ := hk9.ex 19 rfl
          replace hfr9 := hfr9.cons e16
          replace hst9 := hst9.fin (L' := [_, _, _]) (.cons e16 <| .cons e16 <| .nil)
          replace h2 := h2.mono hle9
          replace hy2 := hy2.mono hle9
          clear hst8 hfr8 hk9
          refine hK15 _ _ ?_; try clear hK15 K15
          refine seq_any fun K17 hK17 => ?_
          refine region_plain (fun h => by cases h) hst9 hfr9 (by kernel_rfl) (by kernel_rfl) (.cons rfl (ob_move rfl) <|
              .cons rfl (ob_move rfl) <|
              .cons rfl (ob_callE rfl (.cons rfl <| .cons rfl <| .nil) Try.call20 (fun w m hK => by exact (show FnV Try.prog _ _ _ _ (fun _ _ v => v = .int .i64 (-1)) from (refAt_c (k := k) (KC.agree hK) (h2.mono (KC.le hK))).mono fun _ _ _ _ h => h.trans (by rw [hlq])))) <|
              .cons rfl (ob_assign rfl) <|
              .nil) ?_
          intro a10 w10 m10 hst10 hle10 hk10
          have hfr10 := hk10.fr (T' := [(1, _), (2, _), (3, _), (8, _), (9, _), (10, _), (0, _), (11, _), (12, _), (14, _), (13, _), (15, _), (16, _), (17, _), (18, _), (20, _), (19, _), (21, _)]) (.old rfl rfl <| .old rfl rfl <| .old rfl rfl <| .old rfl rfl <| .old rfl rfl <| .old rfl rfl <| .old rfl rfl <| .old rfl rfl <| .old rfl rfl <| .old rfl rfl <| .old rfl rfl <| .old rfl rfl <| .old rfl rfl <| .old rfl rfl <| .old rfl rfl <| .old rfl rfl <| .old rfl rfl <| .new rfl <| .nil)
          replace h2 := h2.mono hle10
          replace hy2 := hy2.mono hle10
          clear hst9 hfr9 hk10
          refine hK17 _ _ ?_; try clear hK17 K17
          refine seq_any fun K18 hK18 => ?_
          refine seq_any fun K19 hK19 => ?_
          refine region_plain (fun _ => mixed) hst10 hfr10 (by kernel_rfl) (by kernel_rfl) (.cons rfl (ob_move rfl) <|
              .cons rfl (ob_move rfl) <|
              .cons rfl (ob_geq rfl rfl) <|
              .cons rfl (ob_bneq rfl rfl Try.underlying4) <|
              .cons rfl (ob_move rfl) <|
              .cons rfl (ob_move rfl) <|
              .cons rfl (ob_not rfl) <|
              .cons rfl (ob_move rfl) <|
              .cons rfl (ob_move rfl) <|
              .cons rfl (ob_sneq rfl rfl) <|
              .cons rfl (ob_move rfl) <|
              .cons rfl (ob_loadLS' (j := 2) rfl rfl Try.isAgg26 Try.sizeOf26 rfl rfl) <|
              .cons rfl (ob_callE rfl (.cons rfl <| .nil) Try.call15 (fun w m hK => by exact len_c (l := []) (KC.agree hK) rfl)) <|
              .cons rfl (ob_neq rfl rfl) <|
              .cons rfl (ob_or rfl rfl rfl) <|
              .cons rfl (ob_and rfl rfl rfl) <|
              .cons rfl (ob_or rfl rfl rfl) <|
              .cons rfl (ob_move rfl) <|
              .cons rfl (ob_move rfl) <|
              .cons rfl (ob_move rfl) <|
              .cons rfl (ob_guard (κ := .eq (.bool false)) (b := true) 147 rfl rfl (fun h => by simp at h)) <|
              .cons rfl (ob_guard (κ := .eq (.bool false)) (b := true) 147 rfl rfl (fun h => by simp at h)) <|
              .cons rfl (ob_guard (κ := .eq (.bool false)) (b := true) 147 rfl rfl (fun h => by simp at h)) <|
              .cons rfl (ob_guard (κ := .eq (.bool false)) (b := true) 147 rfl rfl (fun h => by simp at h)) <|
              .cons rfl (ob_guard (κ := .eq (.bool false)) (b := true) 147 rfl rfl (fun h => by simp at h)) <|
              .cons rfl (ob_guard (κ := .eq (.bool false)) (b := true) 147 rfl rfl (fun h => by simp at h)) <|
              .cons rfl (ob_guard (κ := .eq (.bool false)) (b := true) 147 rfl rfl (fun h => by simp at h)) <|
              .cons rfl (ob_guard (κ := .eq (.bool true)) (b := true) 147 rfl rfl (fun h => by simp at h)) <|
              .cons rfl (ob_guard (κ := .eq (.bool false)) (b := false) 155 rfl rfl (fun h => by simp at h)) <|
              .cons rfl (ob_guard (κ := .eq (.bool false)) (b := false) 155 rfl rfl (fun h => by simp at h)) <|
              .cons rfl (ob_guard (κ := .eq (.bool false)) (b := false) 155 rfl rfl (fun h => by simp at h)) <|
              .cons rfl (ob_guard (κ := .eq (.bool false)) (b := false) 155 rfl rfl (fun h => by simp at h)) <|
              .cons rfl (ob_guard (κ := .eq (.bool false)) (b := false) 155 rfl rfl (fun h => by simp at h)) <|
              .cons rfl (ob_guard (κ := .eq (.bool false)) (b := false) 155 rfl rfl (fun h => by simp at h)) <|
              .cons rfl (ob_guard (κ := .eq (.bool false)) (b := true) 147 rfl rfl (fun h => by simp at h)) <|
              .cons rfl (ob_and rfl rfl rfl) <|
              .cons rfl (ob_or rfl rfl rfl) <|
              .nil) ?_
          intro a11 w11 m11 hst11 hle11 hk11
          have hfr11 := hk11.fr (T' := [(1, _), (2, _), (3, _), (8, _), (9, _), (10, _), (0, _), (11, _), (12, _), (14, _), (13, _), (15, _), (16, _), (17, _), (18, _), (20, _), (19, _), (21, _), (164, _)]) (.old rfl rfl <| .old rfl rfl <| .old rfl rfl <| .old rfl rfl <| .old rfl rfl <| .old rfl rfl <| .old rfl rfl <| .old rfl rfl <| .old rfl rfl <| .old rfl rfl <| .old rfl rfl <| .old rfl rfl <| .old rfl rfl <| .old rfl rfl <| .old rfl rfl <| .old rfl rfl <| .old rfl rfl <| .old rfl rfl <| .new rfl <| .nil)
          replace h2 := h2.mono hle11
          replace hy2 := hy2.mono hle11
          clear hst10 hfr10 hk11
          refine hK19 _ _ ?_; try clear hK19 K19
          refine cond_any hfr11 rfl rfl (fun hb164 => ?_) (fun hb164 => ?_)
          · simp at hb164
          · refine wp_skip ?_
            refine hK18 _ _ ?_; try clear hK18 K18
            refine seq_any fun K20 hK20 => ?_
            refine region_plain (fun h => by cases h) hst11 hfr11 (by kernel_rfl) (by kernel_rfl) (.cons rfl (ob_move rfl) <|
                .cons rfl (ob_band rfl rfl) <|
                .cons rfl (ob_assign rfl) <|
                .nil) ?_
            intro a12 w12 m12 hst12 hle12 hk12
            have hfr12 := hk12.fr (T' := [(1, _), (2, _), (8, _), (9, _), (10, _), (0, _), (11, _), (12, _), (14, _), (13, _), (15, _), (16, _), (17, _), (18, _), (20, _), (19, _), (21, _), (3, _)]) (.old rfl rfl <| .old rfl rfl <| .old rfl rfl <| .old rfl rfl <| .old rfl rfl <| .old rfl rfl <| .old rfl rfl <| .old rfl rfl <| .old rfl rfl <| .old rfl rfl <| .old rfl rfl <| .old rfl rfl <| .old rfl rfl <| .old rfl rfl <| .old rfl rfl <| .old rfl rfl <| .old rfl rfl <| .new rfl <| .nil)
            replace h2 := h2.mono hle12
            replace hy2 := hy2.mono hle12
            clear hst11 hfr11 hk12
            obtain ⟨q, hbq, hbq2⟩ : ∃ i : Nat, band n0 127 = i ∧ i ≤ 127 := by
              have hb : 0 ≤ band n0 127 ∧ band n0 127 ≤ 127 := band_le n0 127 (by omega)
              exact ⟨(band n0 127).toNat, by omega, by omega⟩
            rw [hbq] at hfr12
            clear hbq
            have hcq : Ents m12 _ _ _ _ := h2.cut (l := 0) (k := n2 - q) (by omega) (by omega)
            rw [List.drop_zero] at hcq
            refine hK20 _ _ ?_; try clear hK20 K20
            refine seq_any fun K21 hK21 => ?_
            refine region_plain (fun _ => mixed) hst12 hfr12 (by kernel_rfl) (by kernel_rfl) (.cons rfl (ob_move rfl) <|
                .cons rfl (ob_move rfl) <|
                .cons rfl (ob_loadLS' (j := 0) rfl rfl Try.isAgg26 Try.sizeOf26 rfl rfl) <|
                .cons rfl (ob_move rfl) <|
                .cons rfl (ob_callE rfl (.cons rfl <| .cons rfl <| .nil) Try.call13 (fun w m hK => by exact same_true (KC.agree hK) (h2.mono (KC.le hK)) (hy2.mono (KC.le hK)) (by omega) (mrk_ve _))) <|
                .cons rfl (ob_and rfl rfl rfl) <|
                .cons rfl (ob_move rfl) <|
                .cons rfl (ob_loadLS' (j := 0) rfl rfl Try.isAgg26 Try.sizeOf26 rfl rfl) <|
                .cons rfl (ob_move rfl) <|
                .cons rfl (ob_call (φ := MP.mem (fun a => .agg #[.pointer a]) (fun a m => Chain m ((l6.take (n2 - q)).reverse.map RE.ve) a) (fun hm h => h.mono hm)) rfl (.cons rfl <| .cons rfl <| .nil) Try.call14 (fun w m hK => by exact FnG.mono ((drop_c (n := (q : Int)) (KC.agree hK) (hy2.mono (KC.le hK)) ⟨by omega, by omega⟩).mono fun _ _ _ _ ⟨o, e, h⟩ => ⟨o, e, by have h : Chain _ ((l6.reverse.map RE.ve).drop q) o := h; rw [rev_drop', hln] at h; exact h⟩) fun _ _ _ _ h => h)) <|
                .cons rfl (ob_move rfl) <|
                .cons rfl (ob_move rfl) <|
                .cons rfl (ob_len rfl Try.underlying22) <|
                .cons rfl (ob_move rfl) <|
                .cons rfl (ob_sub rfl rfl ⟨by omega, by omega⟩) <|
                .cons rfl (ob_max2 rfl rfl) <|
                .cons rfl (ob_slice rfl .none (.some (k := n2 - q) rfl (by split <;> omega)) Try.underlying22 Try.sizeOf31 (by omega) (by show n2 - q ≤ c2; omega)) <|
                .cons rfl (ob_imgE 176 rfl rfl rfl fun y176 => ob_callE rfl (.cons rfl <| .cons rfl <| .nil) Try.call13 (fun w m hK => by exact same_true (KC.agree hK.1) (hcq.mono (KC.le hK.1)) (hK.2) (by omega) (mrk_ve _))) <|
                .cons rfl (ob_and rfl rfl rfl) <|
                .cons rfl (ob_move rfl) <|
                .cons rfl (ob_loadLS' (j := 0) rfl rfl Try.isAgg26 Try.sizeOf26 rfl rfl) <|
                .cons rfl (ob_move rfl) <|
                .cons rfl (ob_neg rfl ⟨by omega, by omega⟩) <|
                .cons rfl (ob_call (φ := MP.mem (fun a => .agg #[.pointer a]) (fun a m => Chain m (l6.reverse.map RE.ve) a) (fun hm h => h.mono hm)) rfl (.cons rfl <| .cons rfl <| .nil) Try.call14 (fun w m hK => by exact FnG.mono ((drop_c (n := -(q : Int)) (KC.agree hK) (hy2.mono (KC.le hK)) ⟨by omega, by omega⟩).mono fun _ _ _ _ ⟨o, e, h⟩ => ⟨o, e, by rw [show (-(q : Int)).toNat = 0 by omega] at h; exact h⟩) fun _ _ _ _ h => h)) <|
                .cons rfl (ob_move rfl) <|
                .cons rfl (ob_imgE 190 rfl rfl rfl fun y190 => ob_callE rfl (.cons rfl <| .cons rfl <| .nil) Try.call13 (fun w m hK => by exact same_true (KC.agree hK.1) (h2.mono (KC.le hK.1)) (hK.2) (by omega) (mrk_ve _))) <|
                .cons rfl (ob_and rfl rfl rfl) <|
                .cons rfl (ob_assign rfl) <|
                .nil) ?_
            intro a13 w13 m13 hst13 hle13 hk13
            have hfr13 := hk13.fr (T' := [(1, _), (2, _), (9, _), (10, _), (0, _), (11, _), (12, _), (14, _), (13, _), (15, _), (16, _), (17, _), (18, _), (20, _), (19, _), (21, _), (3, _), (8, _)]) (.old rfl rfl <| .old rfl rfl <| .old rfl rfl <| .old rfl rfl <| .old rfl rfl <| .old rfl rfl <| .old rfl rfl <| .old rfl rfl <| .old rfl rfl <| .old rfl rfl <| .old rfl rfl <| .old rfl rfl <| .old rfl rfl <| .old rfl rfl <| .old rfl rfl <| .old rfl rfl <| .old rfl rfl <| .new rfl <| .nil)
            replace h2 := h2.mono hle13
            replace hy2 := hy2.mono hle13
            replace hcq := hcq.mono hle13
            clear hst12 hfr12 hk13
            refine hK21 _ _ ?_; try clear hK21 K21
            refine wp_ret ?_
            repeat (with_reducible first | refine then_ret ?_ | refine block_ret ?_)
            exact fn_ret hst13 hfr13 rfl (.tmp rfl <| .nil) (by simp [bundle])
        · skip
          rw [hln] at hlq
          generalize hxq : l6[jq] = z at hdwq hqq
          have hjnq : jq < n2 := by omega
          have hcjq : Ents m8 _ _ _ _ := h2.cut (l := 0) (k := jq) (by omega) (by omega)
          rw [List.drop_zero] at hcjq
          obtain ⟨pz, hxz, hso, hcz⟩ := h2.get hjnq
          rw [hxq] at hcz
          subst hso
          replace hst8 := hst8.more (r := .free) trivial List.nodup_nil (by simp [Res.blocks])
          refine region_any (tch := [(7, 2, (fun v => .blk v _)), (9, 2, (fun v => .blkx v _ _))]) (fun h => by cases h) hst8 hfr8 (by kernel_rfl) (by kernel_rfl) (by kernel_rfl) (.cons rfl (ob_loadLS' (j := 0) rfl rfl Try.isAgg26 Try.sizeOf26 rfl rfl) <|
              .cons rfl (ob_move rfl) <|
              .cons rfl (ob_call (φ := MP.mem (fun o => .tuple #[S z.k, .agg #[.pointer o], .bool true]) (fun o m => Chain m ((l6.take jq).reverse.map RE.ve) o) (fun hm h => h.mono hm)) rfl (.cons rfl <| .cons rfl <| .nil) Try.call19 (fun w m hK => by exact FnG.mono (at_some (l := (l6.reverse.map RE.ve)) (k := k) (x := RE.ve z) (xs := ((l6.take jq).reverse.map RE.ve)) (KC.agree hK) (hy2.mono (KC.le hK)) hdwq) fun _ _ _ _ h => h)) <|
              .cons rfl (ob_imgV 121 rfl rfl rfl fun y121 => ob_move rfl) <|
              .cons rfl (ob_imgV 118 rfl rfl rfl fun y118 => ob_extract rfl rfl) <|
              .cons rfl (ob_imgV 118 rfl rfl rfl fun y118 => ob_extract rfl rfl) <|
              .cons rfl (ob_imgV 118 rfl rfl rfl fun y118 => ob_extract rfl rfl) <|
              .consT rfl rfl (fun _ => rfl) rfl (ob_allocL Try.zeroValue26 rfl) <|
              .consA 122 rfl rfl <|
              .consT rfl rfl (fun _ => rfl) rfl (ob_imgT 19 rfl rfl rfl fun y19 => ob_imgTX 123 rfl rfl rfl fun y123 => ob_storeF rfl rfl rfl rfl Try.sizeOf26 rfl rfl rfl) <|
              .consA 124 rfl rfl <|
              .nil) ?_
          intro a9 w9 m9 hst9 hle9 hk9
          have hfr9 := hk9.fr (T' := [(1, _), (2, _), (3, _), (8, _), (9, _), (10, _), (0, _), (11, _), (12, _), (14, _), (13, _), (15, _), (16, _), (17, _)]) (.old rfl rfl <| .old rfl rfl <| .old rfl rfl <| .old rfl rfl <| .old rfl rfl <| .old rfl rfl <| .old rfl rfl <| .old rfl rfl <| .old rfl rfl <| .old rfl rfl <| .old rfl rfl <| .old rfl rfl <| .old rfl rfl <| .old rfl rfl <| .nil)
          obtain ⟨y23, e23, hy23⟩ := hk9.ex 122 rfl
          replace hfr9 := hfr9.cons e23
          obtain ⟨y24, e24, hy24⟩ := hk9.ex 124 rfl
          replace hfr9 := hfr9.cons e24
          obtain ⟨g25, e25, _⟩ := hk9.ex 19 rfl
          replace hfr9 := hfr9.cons e25
          replace hfr9 := hfr9.cons (hk9.same 18 rfl e23)
          replace hfr9 := hfr9.cons (hk9.same 20 rfl e24)
          replace hst9 := hst9.fin (L' := [_, _, _]) (.cons e25 <| .cons e25 <| .nil)
          obtain ⟨b10, hy10, hst9⟩ := hst9.unx (k := 2) rfl (fun _ => rfl)
          replace h2 := h2.mono hle9
          replace hy2 := hy2.mono hle9
          replace hcjq := hcjq.mono hle9
          replace hcz := hcz.mono hle9
          clear hst8 hfr8 hk9
          refine hK15 _ _ ?_; try clear hK15 K15
          refine seq_any fun K27 hK27 => ?_
          refine region_plain (fun h => by cases h) hst9 hfr9 (by kernel_rfl) (by kernel_rfl) (.cons rfl (ob_move rfl) <|
              .cons rfl (ob_move rfl) <|
              .cons rfl (ob_callE rfl (.cons rfl <| .cons rfl <| .nil) Try.call20 (fun w m hK => by exact (show FnV Try.prog _ _ _ _ (fun _ _ v => v = .int .i64 (jq : Int)) from (refAt_c (k := k) (KC.agree hK) (h2.mono (KC.le hK))).mono fun _ _ _ _ h => h.trans (by rw [hlq])))) <|
              .cons rfl (ob_assign rfl) <|
              .nil) ?_
          intro a10 w10 m10 hst10 hle10 hk10
          have hfr10 := hk10.fr (T' := [(1, _), (2, _), (3, _), (8, _), (9, _), (10, _), (0, _), (11, _), (12, _), (14, _), (13, _), (15, _), (16, _), (17, _), (19, _), (18, _), (20, _), (21, _)]) (.old rfl rfl <| .old rfl rfl <| .old rfl rfl <| .old rfl rfl <| .old rfl rfl <| .old rfl rfl <| .old rfl rfl <| .old rfl rfl <| .old rfl rfl <| .old rfl rfl <| .old rfl rfl <| .old rfl rfl <| .old rfl rfl <| .old rfl rfl <| .old rfl rfl <| .old rfl rfl <| .old rfl rfl <| .new rfl <| .nil)
          replace h2 := h2.mono hle10
          replace hy2 := hy2.mono hle10
          replace hcjq := hcjq.mono hle10
          replace hcz := hcz.mono hle10
          replace hy10 := hy10.mono hle10
          clear hst9 hfr9 hk10
          refine hK27 _ _ ?_; try clear hK27 K27
          refine seq_any fun K28 hK28 => ?_
          refine seq_any fun K29 hK29 => ?_
          refine region_plain (fun _ => mixed) hst10 hfr10 (by kernel_rfl) (by kernel_rfl) (.cons rfl (ob_move rfl) <|
              .cons rfl (ob_move rfl) <|
              .cons rfl (ob_geq rfl rfl) <|
              .cons rfl (ob_bneq rfl rfl Try.underlying4) <|
              .cons rfl (ob_move rfl) <|
              .cons rfl (ob_move rfl) <|
              .cons rfl (ob_not rfl) <|
              .cons rfl (ob_move rfl) <|
              .cons rfl (ob_move rfl) <|
              .cons rfl (ob_sneq rfl rfl) <|
              .cons rfl (ob_move rfl) <|
              .cons rfl (ob_loadLS' (j := 2) rfl rfl Try.isAgg26 Try.sizeOf26 rfl rfl) <|
              .cons rfl (ob_callE rfl (.cons rfl <| .nil) Try.call15 (fun w m hK => by exact len_c (l := ((l6.take jq).reverse.map RE.ve)) (KC.agree hK) (hy10.mono (KC.le hK)))) <|
              .cons rfl (ob_neq rfl rfl) <|
              .cons rfl (ob_or rfl rfl rfl) <|
              .cons rfl (ob_and rfl rfl rfl) <|
              .cons rfl (ob_or rfl rfl rfl) <|
              .cons rfl (ob_move rfl) <|
              .cons rfl (ob_move rfl) <|
              .cons rfl (ob_move rfl) <|
              .cons rfl (ob_move rfl) <|
              .cons rfl (ob_move rfl) <|
              .cons rfl (ob_move rfl) <|
              .cons rfl (ob_indexAddr rfl rfl Try.underlying22 Try.sizeOf31 rfl hjnq) <|
              .cons rfl (ob_fieldAddr rfl Try.underlying31 rfl Try.sizeOf9 rfl) <|
              .cons rfl (ob_load1 rfl hcz Try.isAgg9 rfl) <|
              .cons rfl (ob_sneq rfl rfl) <|
              .cons rfl (ob_move rfl) <|
              .cons rfl (ob_loadLS' (j := 2) rfl rfl Try.isAgg26 Try.sizeOf26 rfl rfl) <|
              .cons rfl (ob_move rfl) <|
              .cons rfl (ob_move rfl) <|
              .cons rfl (ob_slice rfl .none (.some (k := jq) rfl rfl) Try.underlying22 Try.sizeOf31 (by omega) (by show jq ≤ c2; omega)) <|
              .cons rfl (ob_callE rfl (.cons rfl <| .cons rfl <| .nil) Try.call13 (fun w m hK => by exact same_true (KC.agree hK) (hcjq.mono (KC.le hK)) (hy10.mono (KC.le hK)) (by omega) (mrk_ve _))) <|
              .cons rfl (ob_not rfl) <|
              .cons rfl (ob_or rfl rfl rfl) <|
              .cons rfl (ob_and rfl rfl rfl) <|
              .cons rfl (ob_or rfl rfl rfl) <|
              .nil) ?_
          intro a11 w11 m11 hst11 hle11 hk11
          have hfr11 := hk11.fr (T' := [(1, _), (2, _), (3, _), (8, _), (9, _), (10, _), (0, _), (11, _), (12, _), (14, _), (13, _), (15, _), (16, _), (17, _), (19, _), (18, _), (20, _), (21, _), (164, _)]) (.old rfl rfl <| .old rfl rfl <| .old rfl rfl <| .old rfl rfl <| .old rfl rfl <| .old rfl rfl <| .old rfl rfl <| .old rfl rfl <| .old rfl rfl <| .old rfl rfl <| .old rfl rfl <| .old rfl rfl <| .old rfl rfl <| .old rfl rfl <| .old rfl rfl <| .old rfl rfl <| .old rfl rfl <| .old rfl rfl <| .new rfl <| .nil)
          replace h2 := h2.mono hle11
          replace hy2 := hy2.mono hle11
          replace hcjq := hcjq.mono hle11
          replace hcz := hcz.mono hle11
          replace hy10 := hy10.mono hle11
          clear hst10 hfr10 hk11
          refine hK29 _ _ ?_; try clear hK29 K29
          refine cond_any hfr11 rfl rfl (fun hb164 => ?_) (fun hb164 => ?_)
          · simp at hb164
          · refine wp_skip ?_
            refine hK28 _ _ ?_; try clear hK28 K28
            refine seq_any fun K30 hK30 => ?_
            refine region_plain (fun h => by cases h) hst11 hfr11 (by kernel_rfl) (by kernel_rfl) (.cons rfl (ob_move rfl) <|
                .cons rfl (ob_band rfl rfl) <|
                .cons rfl (ob_assign rfl) <|
                .nil) ?_
            intro a12 w12 m12 hst12 hle12 hk12
            have hfr12 := hk12.fr (T' := [(1, _), (2, _), (8, _), (9, _), (10, _), (0, _), (11, _), (12, _), (14, _), (13, _), (15, _), (16, _), (17, _), (19, _), (18, _), (20, _), (21, _), (3, _)]) (.old rfl rfl <| .old rfl rfl <| .old rfl rfl <| .old rfl rfl <| .old rfl rfl <| .old rfl rfl <| .old rfl rfl <| .old rfl rfl <| .old rfl rfl <| .old rfl rfl <| .old rfl rfl <| .old rfl rfl <| .old rfl rfl <| .old rfl rfl <| .old rfl rfl <| .old rfl rfl <| .old rfl rfl <| .new rfl <| .nil)
            replace h2 := h2.mono hle12
            replace hy2 := hy2.mono hle12
            replace hcjq := hcjq.mono hle12
            replace hcz := hcz.mono hle12
            replace hy10 := hy10.mono hle12
            clear hst11 hfr11 hk12
            obtain ⟨q, hbq, hbq2⟩ : ∃ i : Nat, band n0 127 = i ∧ i ≤ 127 := by
              have hb : 0 ≤ band n0 127 ∧ band n0 127 ≤ 127 := band_le n0 127 (by omega)
              exact ⟨(band n0 127).toNat, by omega, by omega⟩
            rw [hbq] at hfr12
            clear hbq
            have hcq : Ents m12 _ _ _ _ := h2.cut (l := 0) (k := n2 - q) (by omega) (by omega)
            rw [List.drop_zero] at hcq
            refine hK30 _ _ ?_; try clear hK30 K30
            refine seq_any fun K31 hK31 => ?_
            refine region_plain (fun _ => mixed) hst12 hfr12 (by kernel_rfl) (by kernel_rfl) (.cons rfl (ob_move rfl) <|
                .cons rfl (ob_move rfl) <|
                .cons rfl (ob_loadLS' (j := 0) rfl rfl Try.isAgg26 Try.sizeOf26 rfl rfl) <|
                .cons rfl (ob_move rfl) <|
                .cons rfl (ob_callE rfl (.cons rfl <| .cons rfl <| .nil) Try.call13 (fun w m hK => by exact same_true (KC.agree hK) (h2.mono (KC.le hK)) (hy2.mono (KC.le hK)) (by omega) (mrk_ve _))) <|
                .cons rfl (ob_and rfl rfl rfl) <|
                .cons rfl (ob_move rfl) <|
                .cons rfl (ob_loadLS' (j := 0) rfl rfl Try.isAgg26 Try.sizeOf26 rfl rfl) <|
                .cons rfl (ob_move rfl) <|
                .cons rfl (ob_call (φ := MP.mem (fun a => .agg #[.pointer a]) (fun a m => Chain m ((l6.take (n2 - q)).reverse.map RE.ve) a) (fun hm h => h.mono hm)) rfl (.cons rfl <| .cons rfl <| .nil) Try.call14 (fun w m hK => by exact FnG.mono ((drop_c (n := (q : Int)) (KC.agree hK) (hy2.mono (KC.le hK)) ⟨by omega, by omega⟩).mono fun _ _ _ _ ⟨o, e, h⟩ => ⟨o, e, by have h : Chain _ ((l6.reverse.map RE.ve).drop q) o := h; rw [rev_drop', hln] at h; exact h⟩) fun _ _ _ _ h => h)) <|
                .cons rfl (ob_move rfl) <|
                .cons rfl (ob_move rfl) <|
                .cons rfl (ob_len rfl Try.underlying22) <|
                .cons rfl (ob_move rfl) <|
                .cons rfl (ob_sub rfl rfl ⟨by omega, by omega⟩) <|
                .cons rfl (ob_max2 rfl rfl) <|
                .cons rfl (ob_slice rfl .none (.some (k := n2 - q) rfl (by split <;> omega)) Try.underlying22 Try.sizeOf31 (by omega) (by show n2 - q ≤ c2; omega)) <|
                .cons rfl (ob_imgE 176 rfl rfl rfl fun y176 => ob_callE rfl (.cons rfl <| .cons rfl <| .nil) Try.call13 (fun w m hK => by exact same_true (KC.agree hK.1) (hcq.mono (KC.le hK.1)) (hK.2) (by omega) (mrk_ve _))) <|
                .cons rfl (ob_and rfl rfl rfl) <|
                .cons rfl (ob_move rfl) <|
                .cons rfl (ob_loadLS' (j := 0) rfl rfl Try.isAgg26 Try.sizeOf26 rfl rfl) <|
                .cons rfl (ob_move rfl) <|
                .cons rfl (ob_neg rfl ⟨by omega, by omega⟩) <|
                .cons rfl (ob_call (φ := MP.mem (fun a => .agg #[.pointer a]) (fun a m => Chain m (l6.reverse.map RE.ve) a) (fun hm h => h.mono hm)) rfl (.cons rfl <| .cons rfl <| .nil) Try.call14 (fun w m hK => by exact FnG.mono ((drop_c (n := -(q : Int)) (KC.agree hK) (hy2.mono (KC.le hK)) ⟨by omega, by omega⟩).mono fun _ _ _ _ ⟨o, e, h⟩ => ⟨o, e, by rw [show (-(q : Int)).toNat = 0 by omega] at h; exact h⟩) fun _ _ _ _ h => h)) <|
                .cons rfl (ob_move rfl) <|
                .cons rfl (ob_imgE 190 rfl rfl rfl fun y190 => ob_callE rfl (.cons rfl <| .cons rfl <| .nil) Try.call13 (fun w m hK => by exact same_true (KC.agree hK.1) (h2.mono (KC.le hK.1)) (hK.2) (by omega) (mrk_ve _))) <|
                .cons rfl (ob_and rfl rfl rfl) <|
                .cons rfl (ob_assign rfl) <|
                .nil) ?_
            intro a13 w13 m13 hst13 hle13 hk13
            have hfr13 := hk13.fr (T' := [(1, _), (2, _), (9, _), (10, _), (0, _), (11, _), (12, _), (14, _), (13, _), (15, _), (16, _), (17, _), (19, _), (18, _), (20, _), (21, _), (3, _), (8, _)]) (.old rfl rfl <| .old rfl rfl <| .old rfl rfl <| .old rfl rfl <| .old rfl rfl <| .old rfl rfl <| .old rfl rfl <| .old rfl rfl <| .old rfl rfl <| .old rfl rfl <| .old rfl rfl <| .old rfl rfl <| .old rfl rfl <| .old rfl rfl <| .old rfl rfl <| .old rfl rfl <| .old rfl rfl <| .new rfl <| .nil)
            replace h2 := h2.mono hle13
            replace hy2 := hy2.mono hle13
            replace hcjq := hcjq.mono hle13
            replace hcz := hcz.mono hle13
            replace hy10 := hy10.mono hle13
            replace hcq := hcq.mono hle13
            clear hst12 hfr12 hk13
            refine hK31 _ _ ?_; try clear hK31 K31
            refine wp_ret ?_
            repeat (with_reducible first | refine then_ret ?_ | refine block_ret ?_)
            exact fn_ret hst13 hfr13 rfl (.tmp rfl <| .nil) (by simp [bundle])
  · skip
    rw [hln] at hl hfi
    generalize hxe : l6[j] = x at hdw hq
    have hjn : j < n2 := by omega
    have hcj : Ents m3 _ _ _ _ := h2.cut (l := 0) (k := j) (by omega) (by omega)
    rw [List.drop_zero] at hcj
    obtain ⟨px, hxx, hso, hcx⟩ := h2.get hjn
    rw [hxe] at hcx
    subst hso
    replace hst3 := hst3.more (r := .free) trivial List.nodup_nil (by simp [Res.blocks])
    refine region_any (tch := [(8, 1, (fun v => .blk v _)), (11, 1, (fun v => .blkx v _ _))]) (fun h => by cases h) hst3 hfr3 (by kernel_rfl) (by kernel_rfl) (by kernel_rfl) (.cons rfl (ob_loadLS' (j := 0) rfl rfl Try.isAgg26 Try.sizeOf26 rfl rfl) <|
        .cons rfl (ob_move rfl) <|
        .cons rfl (ob_call (φ := MP.mem (fun o => .tuple #[S x.k, .int .i64 x.mrk, .agg #[.pointer o], .bool true]) (fun o m => Chain m ((l6.take j).reverse.map RE.ve) o) (fun hm h => h.mono hm)) rfl (.cons rfl <| .cons rfl <| .nil) Try.call11 (fun w m hK => by exact FnG.mono (find_some (l := (l6.reverse.map RE.ve)) (e := e) (x := RE.ve x) (xs := ((l6.take j).reverse.map RE.ve)) (KC.agree hK) (hy2.mono (KC.le hK)) hdw) fun _ _ _ _ h => h)) <|
        .cons rfl (ob_imgV 31 rfl rfl rfl fun y31 => ob_move rfl) <|
        .cons rfl (ob_imgV 28 rfl rfl rfl fun y28 => ob_extract rfl rfl) <|
        .cons rfl (ob_imgV 28 rfl rfl rfl fun y28 => ob_extract rfl rfl) <|
        .cons rfl (ob_imgV 28 rfl rfl rfl fun y28 => ob_extract rfl rfl) <|
        .cons rfl (ob_imgV 28 rfl rfl rfl fun y28 => ob_extract rfl rfl) <|
        .consT rfl rfl (fun _ => rfl) rfl (ob_allocL Try.zeroValue26 rfl) <|
        .consA 32 rfl rfl <|
        .consA 33 rfl rfl <|
        .consT rfl rfl (fun _ => rfl) rfl (ob_imgT 13 rfl rfl rfl fun y13 => ob_imgTX 34 rfl rfl rfl fun y34 => ob_storeF rfl rfl rfl rfl Try.sizeOf26 rfl rfl rfl) <|
        .consA 35 rfl rfl <|
        .nil) ?_
    intro a4 w4 m4 hst4 hle4 hk4
    have hfr4 := hk4.fr (T' := [(1, _), (2, _), (3, _), (8, _), (9, _), (10, _), (0, _)]) (.old rfl rfl <| .old rfl rfl <| .old rfl rfl <| .old rfl rfl <| .old rfl rfl <| .old rfl rfl <| .old rfl rfl <| .nil)
    obtain ⟨y33, e33, hy33⟩ := hk4.ex 32 rfl
    replace hfr4 := hfr4.cons e33
    obtain ⟨y34, e34, hy34⟩ := hk4.ex 33 rfl
    replace hfr4 := hfr4.cons e34
    obtain ⟨y35, e35, hy35⟩ := hk4.ex 35 rfl
    replace hfr4 := hfr4.cons e35
    obtain ⟨g36, e36, _⟩ := hk4.ex 13 rfl
    replace hfr4 := hfr4.cons e36
    replace hfr4 := hfr4.cons (hk4.same 11 rfl e33)
    replace hfr4 := hfr4.cons (hk4.same 12 rfl e34)
    replace hfr4 := hfr4.cons (hk4.same 14 rfl e35)
    replace hst4 := hst4.fin (L' := [_, _]) (.cons e36 <| .cons e36 <| .nil)
    obtain ⟨b3, hy3, hst4⟩ := hst4.unx (k := 1) rfl (fun _ => rfl)
    replace h2 := h2.mono hle4
    replace hy2 := hy2.mono hle4
    replace hcj := hcj.mono hle4
    replace hcx := hcx.mono hle4
    clear hst3 hfr3 hk4
    refine hK7 _ _ ?_; try clear hK7 K7
    refine seq_any fun K38 hK38 => ?_
    refine region_plain (fun h => by cases h) hst4 hfr4 (by kernel_rfl) (by kernel_rfl) (.cons rfl (ob_move rfl) <|
        .cons rfl (ob_move rfl) <|
        .cons rfl (ob_callE rfl (.cons rfl <| .cons rfl <| .nil) Try.call18 (fun w m hK => by exact (show FnV Try.prog _ _ _ _ (fun _ _ v => v = .int .i64 (j : Int)) from (refFind_c (e := e) (KC.agree hK) (h2.mono (KC.le hK))).mono fun _ _ _ _ h => h.trans (by rw [hl])))) <|
        .cons rfl (ob_assign rfl) <|
        .nil) ?_
    intro a5 w5 m5 hst5 hle5 hk5
    have hfr5 := hk5.fr (T' := [(1, _), (2, _), (3, _), (8, _), (9, _), (10, _), (0, _), (13, _), (11, _), (12, _), (14, _), (15, _)]) (.old rfl rfl <| .old rfl rfl <| .old rfl rfl <| .old rfl rfl <| .old rfl rfl <| .old rfl rfl <| .old rfl rfl <| .old rfl rfl <| .old rfl rfl <| .old rfl rfl <| .old rfl rfl <| .new rfl <| .nil)
    replace h2 := h2.mono hle5
    replace hy2 := hy2.mono hle5
    replace hcj := hcj.mono hle5
    replace hcx := hcx.mono hle5
    replace hy3 := hy3.mono hle5
    clear hst4 hfr4 hk5
    refine hK38 _ _ ?_; try clear hK38 K38
    refine seq_any fun K39 hK39 => ?_
    refine seq_any fun K40 hK40 => ?_
    refine region_plain (fun _ => mixed) hst5 hfr5 (by kernel_rfl) (by kernel_rfl) (.cons rfl (ob_move rfl) <|
        .cons rfl (ob_move rfl) <|
        .cons rfl (ob_geq rfl rfl) <|
        .cons rfl (ob_bneq rfl rfl Try.underlying4) <|
        .cons rfl (ob_move rfl) <|
        .cons rfl (ob_move rfl) <|
        .cons rfl (ob_not rfl) <|
        .cons rfl (ob_move rfl) <|
        .cons rfl (ob_move rfl) <|
        .cons rfl (ob_sneq rfl rfl) <|
        .cons rfl (ob_move rfl) <|
        .cons rfl (ob_move rfl) <|
        .cons rfl (ob_neq rfl rfl) <|
        .cons rfl (ob_or rfl rfl rfl) <|
        .cons rfl (ob_move rfl) <|
        .cons rfl (ob_loadLS' (j := 1) rfl rfl Try.isAgg26 Try.sizeOf26 rfl rfl) <|
        .cons rfl (ob_callE rfl (.cons rfl <| .nil) Try.call15 (fun w m hK => by exact len_c (l := ((l6.take j).reverse.map RE.ve)) (KC.agree hK) (hy3.mono (KC.le hK)))) <|
        .cons rfl (ob_neq rfl rfl) <|
        .cons rfl (ob_or rfl rfl rfl) <|
        .cons rfl (ob_and rfl rfl rfl) <|
        .cons rfl (ob_or rfl rfl rfl) <|
        .cons rfl (ob_move rfl) <|
        .cons rfl (ob_move rfl) <|
        .cons rfl (ob_move rfl) <|
        .cons rfl (ob_move rfl) <|
        .cons rfl (ob_move rfl) <|
        .cons rfl (ob_move rfl) <|
        .cons rfl (ob_indexAddr rfl rfl Try.underlying22 Try.sizeOf31 rfl hjn) <|
        .cons rfl (ob_fieldAddr rfl Try.underlying31 rfl Try.sizeOf9 rfl) <|
        .cons rfl (ob_load1 rfl hcx Try.isAgg9 rfl) <|
        .cons rfl (ob_sneq rfl rfl) <|
        .cons rfl (ob_move rfl) <|
        .cons rfl (ob_move rfl) <|
        .cons rfl (ob_move rfl) <|
        .cons rfl (ob_move rfl) <|
        .cons rfl (ob_indexAddr rfl rfl Try.underlying22 Try.sizeOf31 rfl hjn) <|
        .cons rfl (ob_fieldAddr rfl Try.underlying31 rfl Try.sizeOf3 rfl) <|
        .cons rfl (ob_load1 rfl hcx Try.isAgg3 rfl) <|
        .cons rfl (ob_neq rfl rfl) <|
        .cons rfl (ob_or rfl rfl rfl) <|
        .cons rfl (ob_move rfl) <|
        .cons rfl (ob_loadLS' (j := 1) rfl rfl Try.isAgg26 Try.sizeOf26 rfl rfl) <|
        .cons rfl (ob_move rfl) <|
        .cons rfl (ob_move rfl) <|
        .cons rfl (ob_slice rfl .none (.some (k := j) rfl rfl) Try.underlying22 Try.sizeOf31 (by omega) (by show j ≤ c2; omega)) <|
        .cons rfl (ob_callE rfl (.cons rfl <| .cons rfl <| .nil) Try.call13 (fun w m hK => by exact same_true (KC.agree hK) (hcj.mono (KC.le hK)) (hy3.mono (KC.le hK)) (by omega) (mrk_ve _))) <|
        .cons rfl (ob_not rfl) <|
        .cons rfl (ob_or rfl rfl rfl) <|
        .cons rfl (ob_and rfl rfl rfl) <|
        .cons rfl (ob_or rfl rfl rfl) <|
        .nil) ?_
    intro a6 w6 m6 hst6 hle6 hk6
    have hfr6 := hk6.fr (T' := [(1, _), (2, _), (3, _), (8, _), (9, _), (10, _), (0, _), (13, _), (11, _), (12, _), (14, _), (15, _), (88, _)]) (.old rfl rfl <| .old rfl rfl <| .old rfl rfl <| .old rfl rfl <| .old rfl rfl <| .old rfl rfl <| .old rfl rfl <| .old rfl rfl <| .old rfl rfl <| .old rfl rfl <| .old rfl rfl <| .old rfl rfl <| .new rfl <| .nil)
    replace h2 := h2.mono hle6
    replace hy2 := hy2.mono hle6
    replace hcj := hcj.mono hle6
    replace hcx := hcx.mono hle6
    replace hy3 := hy3.mono hle6
    clear hst5 hfr5 hk6
    refine hK40 _ _ ?_; try clear hK40 K40
    refine cond_any hfr6 rfl rfl (fun hb88 => ?_) (fun hb88 => ?_)
    · simp at hb88
    · refine wp_skip ?_
      refine hK39 _ _ ?_; try clear hK39 K39
      refine seq_any fun K41 hK41 => ?_
      refine region_plain (fun h => by cases h) hst6 hfr6 (by kernel_rfl) (by kernel_rfl) (.cons rfl (ob_loadLS' (j := 0) rfl rfl Try.isAgg26 Try.sizeOf26 rfl rfl) <|
          .cons rfl (ob_move rfl) <|
          .cons rfl (ob_callE rfl (.cons rfl <| .cons rfl <| .nil) Try.call12 (fun w m hK => by exact (show FnV Try.prog _ _ _ _ (fun _ _ v => v = .tuple #[.int .i64 ((n2 - 1 - j : Nat) : Int), .bool true]) from (first_c (l := (l6.reverse.map RE.ve)) (e := e) (KC.agree hK) (hy2.mono (KC.le hK)) (by simp; omega)).mono fun _ _ _ _ h => h.trans (by rw [hfi]; rfl)))) <|
          .cons rfl (ob_move rfl) <|
          .cons rfl (ob_extract rfl rfl) <|
          .cons rfl (ob_extract rfl rfl) <|
          .cons rfl (ob_assign rfl) <|
          .cons rfl (ob_assign rfl) <|
          .nil) ?_
      intro a7 w7 m7 hst7 hle7 hk7
      have hfr7 := hk7.fr (T' := [(1, _), (2, _), (3, _), (8, _), (9, _), (10, _), (0, _), (13, _), (11, _), (12, _), (14, _), (15, _), (16, _), (17, _)]) (.old rfl rfl <| .old rfl rfl <| .old rfl rfl <| .old rfl rfl <| .old rfl rfl <| .old rfl rfl <| .old rfl rfl <| .old rfl rfl <| .old rfl rfl <| .old rfl rfl <| .old rfl rfl <| .old rfl rfl <| .new rfl <| .new rfl <| .nil)
      replace h2 := h2.mono hle7
      replace hy2 := hy2.mono hle7
      replace hcj := hcj.mono hle7
      replace hcx := hcx.mono hle7
      replace hy3 := hy3.mono hle7
      clear hst6 hfr6 hk7
      refine hK41 _ _ ?_; try clear hK41 K41
      refine seq_any fun K42 hK42 => ?_
      refine seq_any fun K43 hK43 => ?_
      refine region_plain (fun h => by cases h) hst7 hfr7 (by kernel_rfl) (by kernel_rfl) (.cons rfl (ob_move rfl) <|
          .cons rfl (ob_move rfl) <|
          .cons rfl (ob_bneq rfl rfl Try.underlying4) <|
          .cons rfl (ob_move rfl) <|
          .cons rfl (ob_move rfl) <|
          .cons rfl (ob_move rfl) <|
          .cons rfl (ob_move rfl) <|
          .cons rfl (ob_move rfl) <|
          .cons rfl (ob_len rfl Try.underlying22) <|
          .cons rfl (ob_sub rfl rfl ⟨by omega, by omega⟩) <|
          .cons rfl (ob_move rfl) <|
          .cons rfl (ob_sub rfl rfl ⟨by omega, by omega⟩) <|
          .cons rfl (ob_neq rfl rfl) <|
          .cons rfl (ob_and rfl rfl rfl) <|
          .cons rfl (ob_or rfl rfl rfl) <|
          .cons rfl (ob_move rfl) <|
          .cons rfl (ob_move rfl) <|
          .cons rfl (ob_not rfl) <|
          .cons rfl (ob_move rfl) <|
          .cons rfl (ob_move rfl) <|
          .cons rfl (ob_neq rfl rfl) <|
          .cons rfl (ob_and rfl rfl rfl) <|
          .cons rfl (ob_or rfl rfl rfl) <|
          .nil) ?_
      intro a8 w8 m8 hst8 hle8 hk8
      have hfr8 := hk8.fr (T' := [(1, _), (2, _), (3, _), (8, _), (9, _), (10, _), (0, _), (13, _), (11, _), (12, _), (14, _), (15, _), (16, _), (17, _), (117, _)]) (.old rfl rfl <| .old rfl rfl <| .old rfl rfl <| .old rfl rfl <| .old rfl rfl <| .old rfl rfl <| .old rfl rfl <| .old rfl rfl <| .old rfl rfl <| .old rfl rfl <| .old rfl rfl <| .old rfl rfl <| .old rfl rfl <| .old rfl rfl <| .new rfl <| .nil)
      replace h2 := h2.mono hle8
      replace hy2 := hy2.mono hle8
      replace hcj := hcj.mono hle8
      replace hcx := hcx.mono hle8
      replace hy3 := hy3.mono hle8
      clear hst7 hfr7 hk8
      refine hK43 _ _ ?_; try clear hK43 K43
      refine cond_any hfr8 rfl rfl (fun hb117 => ?_) (fun hb117 => ?_)
      · simp at hb117; omega
      · refine wp_skip ?_
        refine hK42 _ _ ?_; try clear hK42 K42
        refine seq_any fun K44 hK44 => ?_
        rcases ve_cases (fun x : RE => decide (x.mrk = k)) (fun x : VE => decide (x.mrk = k)) (fun _ => rfl) l6 with ⟨hlq, hnoq, hdwq, hfiq⟩ | ⟨jq, hjq, hlq, hqq, hnoq, hdwq, hfiq⟩
        · skip
          rw [hln] at hlq
          replace hst8 := hst8.more (r := .free) trivial List.nodup_nil (by simp [Res.blocks])
          refine region_any (tch := [(7, 2, (fun v => .blk v _)), (9, 2, (fun v => .blk v _))]) (fun h => by cases h) hst8 hfr8 (by kernel_rfl) (by kernel_rfl) (by kernel_rfl) (.cons rfl (ob_loadLS' (j := 0) rfl rfl Try.isAgg26 Try.sizeOf26 rfl rfl) <|
              .cons rfl (ob_move rfl) <|
              .cons rfl (ob_callE rfl (.cons rfl <| .cons rfl <| .nil) Try.call19 (fun w m hK => by exact at_none (l := (l6.reverse.map RE.ve)) (k := k) (KC.agree hK) (hy2.mono (KC.le hK)) hdwq)) <|
              .cons rfl (ob_move rfl) <|
              .cons rfl (ob_extract rfl rfl) <|
              .cons rfl (ob_extract rfl rfl) <|
              .cons rfl (ob_extract rfl rfl) <|
              .consT rfl rfl (fun _ => rfl) rfl (ob_allocL Try.zeroValue26 rfl) <|
              .cons rfl (ob_assign rfl) <|
              .consT rfl rfl (fun _ => rfl) rfl (ob_imgT 19 rfl rfl rfl fun y19 => ob_storeF rfl rfl rfl rfl Try.sizeOf26 rfl rfl rfl) <|
              .cons rfl (ob_assign rfl) <|
              .nil) ?_
          intro a9 w9 m9 hst9 hle9 hk9
          have hfr9 := hk9.fr (T' := [(1, _), (2, _), (3, _), (8, _), (9, _), (10, _), (0, _), (13, _), (11, _), (12, _), (14, _), (15, _), (16, _), (17, _), (18, _), (20, _)]) (.old rfl rfl <| .old rfl rfl <| .old rfl rfl <| .old rfl rfl <| .old rfl rfl <| .old rfl rfl <| .old rfl rfl <| .old rfl rfl <| .old rfl rfl <| .old rfl rfl <| .old rfl rfl <| .old rfl rfl <| .old rfl rfl <| .old rfl rfl <| .new rfl <| .new rfl <| .nil)
          obtain ⟨g45, e45, _⟩ := hk9.ex 19 rfl
          replace hfr9 := hfr9.cons e45
          replace hst9 := hst9.fin (L' := [_, _, _]) (.cons e45 <| .cons e45 <| .nil)
          replace h2 := h2.mono hle9
          replace hy2 := hy2.mono hle9
          replace hcj := hcj.mono hle9
          replace hcx := hcx.mono hle9
          replace hy3 := hy3.mono hle9
          clear hst8 hfr8 hk9
          refine hK44 _ _ ?_; try clear hK44 K44
          refine seq_any fun K46 hK46 => ?_
          refine region_plain (fun h => by cases h) hst9 hfr9 (by kernel_rfl) (by kernel_rfl) (.cons rfl (ob_move rfl) <|
              .cons rfl (ob_move rfl) <|
              .cons rfl (ob_callE rfl (.cons rfl <| .cons rfl <| .nil) Try.call20 (fun w m hK => by exact (show FnV Try.prog _ _ _ _ (fun _ _ v => v = .int .i64 (-1)) from (refAt_c (k := k) (KC.agree hK) (h2.mono (KC.le hK))).mono fun _ _ _ _ h => h.trans (by rw [hlq])))) <|
              .cons rfl (ob_assign rfl) <|
              .nil) ?_
          intro a10 w10 m10 hst10 hle10 hk10
          have hfr10 := hk10.fr (T' := [(1, _), (2, _), (3, _), (8, _), (9, _), (10, _), (0, _), (13, _), (11, _), (12, _), (14, _), (15, _), (16, _), (17, _), (18, _), (20, _), (19, _), (21, _)]) (.old rfl rfl <| .old rfl rfl <| .old rfl rfl <| .old rfl rfl <| .old rfl rfl <| .old rfl rfl <| .old rfl rfl <| .old rfl rfl <| .old rfl rfl <| .old rfl rfl <| .old rfl rfl <| .old rfl rfl <| .old rfl rfl <| .old rfl rfl <| .old rfl rfl <| .old rfl rfl <| .old rfl rfl <| .new rfl <| .nil)
          replace h2 := h2.mono hle10
          replace hy2 := hy2.mono hle10
          replace hcj := hcj.mono hle10
          replace hcx := hcx.mono hle10
          replace hy3 := hy3.mono hle10
          clear hst9 hfr9 hk10
          refine hK46 _ _ ?_; try clear hK46 K46
          refine seq_any fun K47 hK47 => ?_
          refine seq_any fun K48 hK48 => ?_
          refine region_plain (fun _ => mixed) hst10 hfr10 (by kernel_rfl) (by kernel_rfl) (.cons rfl (ob_move rfl) <|
              .cons rfl (ob_move rfl) <|
              .cons rfl (ob_geq rfl rfl) <|
              .cons rfl (ob_bneq rfl rfl Try.underlying4) <|
              .cons rfl (ob_move rfl) <|
              .cons rfl (ob_move rfl) <|
              .cons rfl (ob_not rfl) <|
              .cons rfl (ob_move rfl) <|
              .cons rfl (ob_move rfl) <|
              .cons rfl (ob_sneq rfl rfl) <|
              .cons rfl (ob_move rfl) <|
              .cons rfl (ob_loadLS' (j := 2) rfl rfl Try.isAgg26 Try.sizeOf26 rfl rfl) <|
              .cons rfl (ob_callE rfl (.cons rfl <| .nil) Try.call15 (fun w m hK => by exact len_c (l := []) (KC.agree hK) rfl)) <|
              .cons rfl (ob_neq rfl rfl) <|
              .cons rfl (ob_or rfl rfl rfl) <|
              .cons rfl (ob_and rfl rfl rfl) <|
              .cons rfl (ob_or rfl rfl rfl) <|
              .cons rfl (ob_move rfl) <|
              .cons rfl (ob_move rfl) <|
              .cons rfl (ob_move rfl) <|
              .cons rfl (ob_guard (κ := .eq (.bool false)) (b := true) 147 rfl rfl (fun h => by simp at h)) <|
              .cons rfl (ob_guard (κ := .eq (.bool false)) (b := true) 147 rfl rfl (fun h => by simp at h)) <|
              .cons rfl (ob_guard (κ := .eq (.bool false)) (b := true) 147 rfl rfl (fun h => by simp at h)) <|
              .cons rfl (ob_guard (κ := .eq (.bool false)) (b := true) 147 rfl rfl (fun h => by simp at h)) <|
              .cons rfl (ob_guard (κ := .eq (.bool false)) (b := true) 147 rfl rfl (fun h => by simp at h)) <|
              .cons rfl (ob_guard (κ := .eq (.bool false)) (b := true) 147 rfl rfl (fun h => by simp at h)) <|
              .cons rfl (ob_guard (κ := .eq (.bool false)) (b := true) 147 rfl rfl (fun h => by simp at h)) <|
              .cons rfl (ob_guard (κ := .eq (.bool true)) (b := true) 147 rfl rfl (fun h => by simp at h)) <|
              .cons rfl (ob_guard (κ := .eq (.bool false)) (b := false) 155 rfl rfl (fun h => by simp at h)) <|
              .cons rfl (ob_guard (κ := .eq (.bool false)) (b := false) 155 rfl rfl (fun h => by simp at h)) <|
              .cons rfl (ob_guard (κ := .eq (.bool false)) (b := false) 155 rfl rfl (fun h => by simp at h)) <|
              .cons rfl (ob_guard (κ := .eq (.bool false)) (b := false) 155 rfl rfl (fun h => by simp at h)) <|
              .cons rfl (ob_guard (κ := .eq (.bool false)) (b := false) 155 rfl rfl (fun h => by simp at h)) <|
              .cons rfl (ob_guard (κ := .eq (.bool false)) (b := false) 155 rfl rfl (fun h => by simp at h)) <|
              .cons rfl (ob_guard (κ := .eq (.bool false)) (b := true) 147 rfl rfl (fun h => by simp at h)) <|
              .cons rfl (ob_and rfl rfl rfl) <|
              .cons rfl (ob_or rfl rfl rfl) <|
              .nil) ?_
          intro a11 w11 m11 hst11 hle11 hk11
          have hfr11 := hk11.fr (T' := [(1, _), (2, _), (3, _), (8, _), (9, _), (10, _), (0, _), (13, _), (11, _), (12, _), (14, _), (15, _), (16, _), (17, _), (18, _), (20, _), (19, _), (21, _), (164, _)]) (.old rfl rfl <| .old rfl rfl <| .old rfl rfl <| .old rfl rfl <| .old rfl rfl <| .old rfl rfl <| .old rfl rfl <| .old rfl rfl <| .old rfl rfl <| .old rfl rfl <| .old rfl rfl <| .old rfl rfl <| .old rfl rfl <| .old rfl rfl <| .old rfl rfl <| .old rfl rfl <| .old rfl rfl <| .old rfl rfl <| .new rfl <| .nil)
          replace h2 := h2.mono hle11
          replace hy2 := hy2.mono hle11
          replace hcj := hcj.mono hle11
          replace hcx := hcx.mono hle11
          replace hy3 := hy3.mono hle11
          clear hst10 hfr10 hk11
          refine hK48 _ _ ?_; try clear hK48 K48
          refine cond_any hfr11 rfl rfl (fun hb164 => ?_) (fun hb164 => ?_)
          · simp at hb164
          · refine wp_skip ?_
            refine hK47 _ _ ?_; try clear hK47 K47
            refine seq_any fun K49 hK49 => ?_
            refine region_plain (fun h => by cases h) hst11 hfr11 (by kernel_rfl) (by kernel_rfl) (.cons rfl (ob_move rfl) <|
                .cons rfl (ob_band rfl rfl) <|
                .cons rfl (ob_assign rfl) <|
                .nil) ?_
            intro a12 w12 m12 hst12 hle12 hk12
            have hfr12 := hk12.fr (T' := [(1, _), (2, _), (8, _), (9, _), (10, _), (0, _), (13, _), (11, _), (12, _), (14, _), (15, _), (16, _), (17, _), (18, _), (20, _), (19, _), (21, _), (3, _)]) (.old rfl rfl <| .old rfl rfl <| .old rfl rfl <| .old rfl rfl <| .old rfl rfl <| .old rfl rfl <| .old rfl rfl <| .old rfl rfl <| .old rfl rfl <| .old rfl rfl <| .old rfl rfl <| .old rfl rfl <| .old rfl rfl <| .old rfl rfl <| .old rfl rfl <| .old rfl rfl <| .old rfl rfl <| .new rfl <| .nil)
            replace h2 := h2.mono hle12
            replace hy2 := hy2.mono hle12
            replace hcj := hcj.mono hle12
            replace hcx := hcx.mono hle12
            replace hy3 := hy3.mono hle12
            clear hst11 hfr11 hk12
            obtain ⟨q, hbq, hbq2⟩ : ∃ i : Nat, band n0 127 = i ∧ i ≤ 127 := by
              have hb : 0 ≤ band n0 127 ∧ band n0 127 ≤ 127 := band_le n0 127 (by omega)
              exact ⟨(band n0 127).toNat, by omega, by omega⟩
            rw [hbq] at hfr12
            clear hbq
            have hcq : Ents m12 _ _ _ _ := h2.cut (l := 0) (k := n2 - q) (by omega) (by omega)
            rw [List.drop_zero] at hcq
            refine hK49 _ _ ?_; try clear hK49 K49
            refine seq_any fun K50 hK50 => ?_
            refine region_plain (fun _ => mixed) hst12 hfr12 (by kernel_rfl) (by kernel_rfl) (.cons rfl (ob_move rfl) <|
                .cons rfl (ob_move rfl) <|
                .cons rfl (ob_loadLS' (j := 0) rfl rfl Try.isAgg26 Try.sizeOf26 rfl rfl) <|
                .cons rfl (ob_move rfl) <|
                .cons rfl (ob_callE rfl (.cons rfl <| .cons rfl <| .nil) Try.call13 (fun w m hK => by exact same_true (KC.agree hK) (h2.mono (KC.le hK)) (hy2.mono (KC.le hK)) (by omega) (mrk_ve _))) <|
                .cons rfl (ob_and rfl rfl rfl) <|
                .cons rfl (ob_move rfl) <|
                .cons rfl (ob_loadLS' (j := 0) rfl rfl Try.isAgg26 Try.sizeOf26 rfl rfl) <|
                .cons rfl (ob_move rfl) <|
                .cons rfl (ob_call (φ := MP.mem (fun a => .agg #[.pointer a]) (fun a m => Chain m ((l6.take (n2 - q)).reverse.map RE.ve) a) (fun hm h => h.mono hm)) rfl (.cons rfl <| .cons rfl <| .nil) Try.call14 (fun w m hK => by exact FnG.mono ((drop_c (n := (q : Int)) (KC.agree hK) (hy2.mono (KC.le hK)) ⟨by omega, by omega⟩).mono fun _ _ _ _ ⟨o, e, h⟩ => ⟨o, e, by have h : Chain _ ((l6.reverse.map RE.ve).drop q) o := h; rw [rev_drop', hln] at h; exact h⟩) fun _ _ _ _ h => h)) <|
                .cons rfl (ob_move rfl) <|
                .cons rfl (ob_move rfl) <|
                .cons rfl (ob_len rfl Try.underlying22) <|
                .cons rfl (ob_move rfl) <|
                .cons rfl (ob_sub rfl rfl ⟨by omega, by omega⟩) <|
                .cons rfl (ob_max2 rfl rfl) <|
                .cons rfl (ob_slice rfl .none (.some (k := n2 - q) rfl (by split <;> omega)) Try.underlying22 Try.sizeOf31 (by omega) (by show n2 - q ≤ c2; omega)) <|
                .cons rfl (ob_imgE 176 rfl rfl rfl fun y176 => ob_callE rfl (.cons rfl <| .cons rfl <| .nil) Try.call13 (fun w m hK => by exact same_true (KC.agree hK.1) (hcq.mono (KC.le hK.1)) (hK.2) (by omega) (mrk_ve _))) <|
                .cons rfl (ob_and rfl rfl rfl) <|
                .cons rfl (ob_move rfl) <|
                .cons rfl (ob_loadLS' (j := 0) rfl rfl Try.isAgg26 Try.sizeOf26 rfl rfl) <|
                .cons rfl (ob_move rfl) <|
                .cons rfl (ob_neg rfl ⟨by omega, by omega⟩) <|
                .cons rfl (ob_call (φ := MP.mem (fun a => .agg #[.pointer a]) (fun a m => Chain m (l6.reverse.map RE.ve) a) (fun hm h => h.mono hm)) rfl (.cons rfl <| .cons rfl <| .nil) Try.call14 (fun w m hK => by exact FnG.mono ((drop_c (n := -(q : Int)) (KC.agree hK) (hy2.mono (KC.le hK)) ⟨by omega, by omega⟩).mono fun _ _ _ _ ⟨o, e, h⟩ => ⟨o, e, by rw [show (-(q : Int)).toNat = 0 by omega] at h; exact h⟩) fun _ _ _ _ h => h)) <|
                .cons rfl (ob_move rfl) <|
                .cons rfl (ob_imgE 190 rfl rfl rfl fun y190 => ob_callE rfl (.cons rfl <| .cons rfl <| .nil) Try.call13 (fun w m hK => by exact same_true (KC.agree hK.1) (h2.mono (KC.le hK.1)) (hK.2) (by omega) (mrk_ve _))) <|
                .cons rfl (ob_and rfl rfl rfl) <|
                .cons rfl (ob_assign rfl) <|
                .nil) ?_
            intro a13 w13 m13 hst13 hle13 hk13
            have hfr13 := hk13.fr (T' := [(1, _), (2, _), (9, _), (10, _), (0, _), (13, _), (11, _), (12, _), (14, _), (15, _), (16, _), (17, _), (18, _), (20, _), (19, _), (21, _), (3, _), (8, _)]) (.old rfl rfl <| .old rfl rfl <| .old rfl rfl <| .old rfl rfl <| .old rfl rfl <| .old rfl rfl <| .old rfl rfl <| .old rfl rfl <| .old rfl rfl <| .old rfl rfl <| .old rfl rfl <| .old rfl rfl <| .old rfl rfl <| .old rfl rfl <| .old rfl rfl <| .old rfl rfl <| .old rfl rfl <| .new rfl <| .nil)
            replace h2 := h2.mono hle13
            replace hy2 := hy2.mono hle13
            replace hcj := hcj.mono hle13
            replace hcx := hcx.mono hle13
            replace hy3 := hy3.mono hle13
            replace hcq := hcq.mono hle13
            clear hst12 hfr12 hk13
            refine hK50 _ _ ?_; try clear hK50 K50
            refine wp_ret ?_
            repeat (with_reducible first | refine then_ret ?_ | refine block_ret ?_)
            exact fn_ret hst13 hfr13 rfl (.tmp rfl <| .nil) (by simp [bundle])
        · skip
          rw [hln] at hlq
          generalize hxq : l6[jq] = z at hdwq hqq
          have hjnq : jq < n2 := by omega
          have hcjq : Ents m8 _ _ _ _ := h2.cut (l := 0) (k := jq) (by omega) (by omega)
          rw [List.drop_zero] at hcjq
          obtain ⟨pz, hxz, hso, hcz⟩ := h2.get hjnq
          rw [hxq] at hcz
          injection hso with hso; subst hso
          replace hst8 := hst8.more (r := .free) trivial List.nodup_nil (by simp [Res.blocks])
          refine region_any (tch := [(7, 2, (fun v => .blk v _)), (9, 2, (fun v => .blkx v _ _))]) (fun h => by cases h) hst8 hfr8 (by kernel_rfl) (by kernel_rfl) (by kernel_rfl) (.cons rfl (ob_loadLS' (j := 0) rfl rfl Try.isAgg26 Try.sizeOf26 rfl rfl) <|
              .cons rfl (ob_move rfl) <|
              .cons rfl (ob_call (φ := MP.mem (fun o => .tuple #[S z.k, .agg #[.pointer o], .bool true]) (fun o m => Chain m ((l6.take jq).reverse.map RE.ve) o) (fun hm h => h.mono hm)) rfl (.cons rfl <| .cons rfl <| .nil) Try.call19 (fun w m hK => by exact FnG.mono (at_some (l := (l6.reverse.map RE.ve)) (k := k) (x := RE.ve z) (xs := ((l6.take jq).reverse.map RE.ve)) (KC.agree hK) (hy2.mono (KC.le hK)) hdwq) fun _ _ _ _ h => h)) <|
              .cons rfl (ob_imgV 121 rfl rfl rfl fun y121 => ob_move rfl) <|
              .cons rfl (ob_imgV 118 rfl rfl rfl fun y118 => ob_extract rfl rfl) <|
              .cons rfl (ob_imgV 118 rfl rfl rfl fun y118 => ob_extract rfl rfl) <|
              .cons rfl (ob_imgV 118 rfl rfl rfl fun y118 => ob_extract rfl rfl) <|
              .consT rfl rfl (fun _ => rfl) rfl (ob_allocL Try.zeroValue26 rfl) <|
              .consA 122 rfl rfl <|
              .consT rfl rfl (fun _ => rfl) rfl (ob_imgT 19 rfl rfl rfl fun y19 => ob_imgTX 123 rfl rfl rfl fun y123 => ob_storeF rfl rfl rfl rfl Try.sizeOf26 rfl rfl rfl) <|
              .consA 124 rfl rfl <|
              .nil) ?_
          intro a9 w9 m9 hst9 hle9 hk9
          have hfr9 := hk9.fr (T' := [(1, _), (2, _), (3, _), (8, _), (9, _), (10, _), (0, _), (13, _), (11, _), (12, _), (14, _), (15, _), (16, _), (17, _)]) (.old rfl rfl <| .old rfl rfl <| .old rfl rfl <| .old rfl rfl <| .old rfl rfl <| .old rfl rfl <| .old rfl rfl <| .old rfl rfl <| .old rfl rfl <| .old rfl rfl <| .old rfl rfl <| .old rfl rfl <| .old rfl rfl <| .old rfl rfl <| .nil)
          obtain ⟨y52, e52, hy52⟩ := hk9.ex 122 rfl
          replace hfr9 := hfr9.cons e52
          obtain ⟨y53, e53, hy53⟩ := hk9.ex 124 rfl
          replace hfr9 := hfr9.cons e53
          obtain ⟨g54, e54, _⟩ := hk9.ex 19 rfl
          replace hfr9 := hfr9.cons e54
          replace hfr9 := hfr9.cons (hk9.same 18 rfl e52)
          replace hfr9 := hfr9.cons (hk9.same 20 rfl e53)
          replace hst9 := hst9.fin (L' := [_, _, _]) (.cons e54 <| .cons e54 <| .nil)
          obtain ⟨b10, hy10, hst9⟩ := hst9.unx (k := 2) rfl (fun _ => rfl)
          replace h2 := h2.mono hle9
          replace hy2 := hy2.mono hle9
          replace hcj := hcj.mono hle9
          replace hcx := hcx.mono hle9
          replace hy3 := hy3.mono hle9
          replace hcjq := hcjq.mono hle9
          replace hcz := hcz.mono hle9
          clear hst8 hfr8 hk9
          refine hK44 _ _ ?_; try clear hK44 K44
          refine seq_any fun K56 hK56 => ?_
          refine region_plain (fun h => by cases h) hst9 hfr9 (by kernel_rfl) (by kernel_rfl) (.cons rfl (ob_move rfl) <|
              .cons rfl (ob_move rfl) <|
              .cons rfl (ob_callE rfl (.cons rfl <| .cons rfl <| .nil) Try.call20 (fun w m hK => by exact (show FnV Try.prog _ _ _ _ (fun _ _ v => v = .int .i64 (jq : Int)) from (refAt_c (k := k) (KC.agree hK) (h2.mono (KC.le hK))).mono fun _ _ _ _ h => h.trans (by rw [hlq])))) <|
              .cons rfl (ob_assign rfl) <|
              .nil) ?_
          intro a10 w10 m10 hst10 hle10 hk10
          have hfr10 := hk10.fr (T' := [(1, _), (2, _), (3, _), (8, _), (9, _), (10, _), (0, _), (13, _), (11, _), (12, _), (14, _), (15, _), (16, _), (17, _), (19, _), (18, _), (20, _), (21, _)]) (.old rfl rfl <| .old rfl rfl <| .old rfl rfl <| .old rfl rfl <| .old rfl rfl <| .old rfl rfl <| .old rfl rfl <| .old rfl rfl <| .old rfl rfl <| .old rfl rfl <| .old rfl rfl <| .old rfl rfl <| .old rfl rfl <| .old rfl rfl <| .old rfl rfl <| .old rfl rfl <| .old rfl rfl <| .new rfl <| .nil)
          replace h2 := h2.mono hle10
          replace hy2 := hy2.mono hle10
          replace hcj := hcj.mono hle10
          replace hcx := hcx.mono hle10
          replace hy3 := hy3.mono hle10
          replace hcjq := hcjq.mono hle10
          replace hcz := hcz.mono hle10
          replace hy10 := hy10.mono hle10
          clear hst9 hfr9 hk10
          refine hK56 _ _ ?_; try clear hK56 K56
          refine seq_any fun K57 hK57 => ?_
          refine seq_any fun K58 hK58 => ?_
          refine region_plain (fun _ => mixed) hst10 hfr10 (by kernel_rfl) (by kernel_rfl) (.cons rfl (ob_move rfl) <|
              .cons rfl (ob_move rfl) <|
              .cons rfl (ob_geq rfl rfl) <|
              .cons rfl (ob_bneq rfl rfl Try.underlying4) <|
              .cons rfl (ob_move rfl) <|
              .cons rfl (ob_move rfl) <|
              .cons rfl (ob_not rfl) <|
              .cons rfl (ob_move rfl) <|
              .cons rfl (ob_move rfl) <|
              .cons rfl (ob_sneq rfl rfl) <|
              .cons rfl (ob_move rfl) <|
              .cons rfl (ob_loadLS' (j := 2) rfl rfl Try.isAgg26 Try.sizeOf26 rfl rfl) <|
              .cons rfl (ob_callE rfl (.cons rfl <| .nil) Try.call15 (fun w m hK => by exact len_c (l := ((l6.take jq).reverse.map RE.ve)) (KC.agree hK) (hy10.mono (KC.le hK)))) <|
              .cons rfl (ob_neq rfl rfl) <|
              .cons rfl (ob_or rfl rfl rfl) <|
              .cons rfl (ob_and rfl rfl rfl) <|
              .cons rfl (ob_or rfl rfl rfl) <|
              .cons rfl (ob_move rfl) <|
              .cons rfl (ob_move rfl) <|
              .cons rfl (ob_move rfl) <|
              .cons rfl (ob_move rfl) <|
              .cons rfl (ob_move rfl) <|
              .cons rfl (ob_move rfl) <|
              .cons rfl (ob_indexAddr rfl rfl Try.underlying22 Try.sizeOf31 rfl hjnq) <|
              .cons rfl (ob_fieldAddr rfl Try.underlying31 rfl Try.sizeOf9 rfl) <|
              .cons rfl (ob_load1 rfl hcz Try.isAgg9 rfl) <|
              .cons rfl (ob_sneq rfl rfl) <|
              .cons rfl (ob_move rfl) <|
              .cons rfl (ob_loadLS' (j := 2) rfl rfl Try.isAgg26 Try.sizeOf26 rfl rfl) <|
              .cons rfl (ob_move rfl) <|
              .cons rfl (ob_move rfl) <|
              .cons rfl (ob_slice rfl .none (.some (k := jq) rfl rfl) Try.underlying22 Try.sizeOf31 (by omega) (by show jq ≤ c2; omega)) <|
              .cons rfl (ob_callE rfl (.cons rfl <| .cons rfl <| .nil) Try.call13 (fun w m hK => by exact same_true (KC.agree hK) (hcjq.mono (KC.le hK)) (hy10.mono (KC.le hK)) (by omega) (mrk_ve _))) <|
              .cons rfl (ob_not rfl) <|
              .cons rfl (ob_or rfl rfl rfl) <|
              .cons rfl (ob_and rfl rfl rfl) <|
              .cons rfl (ob_or rfl rfl rfl) <|
              .nil) ?_
          intro a11 w11 m11 hst11 hle11 hk11
          have hfr11 := hk11.fr (T' := [(1, _), (2, _), (3, _), (8, _), (9, _), (10, _), (0, _), (13, _), (11, _), (12, _), (14, _), (15, _), (16, _), (17, _), (19, _), (18, _), (20, _), (21, _), (164, _)]) (.old rfl rfl <| .old rfl rfl <| .old rfl rfl <| .old rfl rfl <| .old rfl rfl <| .old rfl rfl <| .old rfl rfl <| .old rfl rfl <| .old rfl rfl <| .old rfl rfl <| .old rfl rfl <| .old rfl rfl <| .old rfl rfl <| .old rfl rfl <| .old rfl rfl <| .old rfl rfl <| .old rfl rfl <| .old rfl rfl <| .new rfl <| .nil)
          replace h2 := h2.mono hle11
          replace hy2 := hy2.mono hle11
          replace hcj := hcj.mono hle11
          replace hcx := hcx.mono hle11
          replace hy3 := hy3.mono hle11
          replace hcjq := hcjq.mono hle11
          replace hcz := hcz.mono hle11
          replace hy10 := hy10.mono hle11
          clear hst10 hfr10 hk11
          refine hK58 _ _ ?_; try clear hK58 K58
          refine cond_any hfr11 rfl rfl (fun hb164 => ?_) (fun hb164 => ?_)
          · simp at hb164
          · refine wp_skip ?_
            refine hK57 _ _ ?_; try clear hK57 K57
            refine seq_any fun K59 hK59 => ?_
            refine region_plain (fun h => by cases h) hst11 hfr11 (by kernel_rfl) (by kernel_rfl) (.cons rfl (ob_move rfl) <|
                .cons rfl (ob_band rfl rfl) <|
                .cons rfl (ob_assign rfl) <|
                .nil) ?_
            intro a12 w12 m12 hst12 hle12 hk12
            have hfr12 := hk12.fr (T' := [(1, _), (2, _), (8, _), (9, _), (10, _), (0, _), (13, _), (11, _), (12, _), (14, _), (15, _), (16, _), (17, _), (19, _), (18, _), (20, _), (21, _), (3, _)]) (.old rfl rfl <| .old rfl rfl <| .old rfl rfl <| .old rfl rfl <| .old rfl rfl <| .old rfl rfl <| .old rfl rfl <| .old rfl rfl <| .old rfl rfl <| .old rfl rfl <| .old rfl rfl <| .old rfl rfl <| .old rfl rfl <| .old rfl rfl <| .old rfl rfl <| .old rfl rfl <| .old rfl rfl <| .new rfl <| .nil)
            replace h2 := h2.mono hle12
            replace hy2 := hy2.mono hle12
            replace hcj := hcj.mono hle12
            replace hcx := hcx.mono hle12
            replace hy3 := hy3.mono hle12
            replace hcjq := hcjq.mono hle12
            replace hcz := hcz.mono hle12
            replace hy10 := hy10.mono hle12
            clear hst11 hfr11 hk12
            obtain ⟨q, hbq, hbq2⟩ : ∃ i : Nat, band n0 127 = i ∧ i ≤ 127 := by
              have hb : 0 ≤ band n0 127 ∧ band n0 127 ≤ 127 := band_le n0 127 (by omega)
              exact ⟨(band n0 127).toNat, by omega, by omega⟩
            rw [hbq] at hfr12
            clear hbq
            have hcq : Ents m12 _ _ _ _ := h2.cut (l := 0) (k := n2 - q) (by omega) (by omega)
            rw [List.drop_zero] at hcq
            refine hK59 _ _ ?_; try clear hK59 K59
            refine seq_any fun K60 hK60 => ?_
            refine region_plain (fun _ => mixed) hst12 hfr12 (by kernel_rfl) (by kernel_rfl) (.cons rfl (ob_move rfl) <|
                .cons rfl (ob_move rfl) <|
                .cons rfl (ob_loadLS' (j := 0) rfl rfl Try.isAgg26 Try.sizeOf26 rfl rfl) <|
                .cons rfl (ob_move rfl) <|
                .cons rfl (ob_callE rfl (.cons rfl <| .cons rfl <| .nil) Try.call13 (fun w m hK => by exact same_true (KC.agree hK) (h2.mono (KC.le hK)) (hy2.mono (KC.le hK)) (by omega) (mrk_ve _))) <|
                .cons rfl (ob_and rfl rfl rfl) <|
                .cons rfl (ob_move rfl) <|
                .cons rfl (ob_loadLS' (j := 0) rfl rfl Try.isAgg26 Try.sizeOf26 rfl rfl) <|
                .cons rfl (ob_move rfl) <|
                .cons rfl (ob_call (φ := MP.mem (fun a => .agg #[.pointer a]) (fun a m => Chain m ((l6.take (n2 - q)).reverse.map RE.ve) a) (fun hm h => h.mono hm)) rfl (.cons rfl <| .cons rfl <| .nil) Try.call14 (fun w m hK => by exact FnG.mono ((drop_c (n := (q : Int)) (KC.agree hK) (hy2.mono (KC.le hK)) ⟨by omega, by omega⟩).mono fun _ _ _ _ ⟨o, e, h⟩ => ⟨o, e, by have h : Chain _ ((l6.reverse.map RE.ve).drop q) o := h; rw [rev_drop', hln] at h; exact h⟩) fun _ _ _ _ h => h)) <|
                .cons rfl (ob_move rfl) <|
                .cons rfl (ob_move rfl) <|
                .cons rfl (ob_len rfl Try.underlying22) <|
                .cons rfl (ob_move rfl) <|
                .cons rfl (ob_sub rfl rfl ⟨by omega, by omega⟩) <|
                .cons rfl (ob_max2 rfl rfl) <|
                .cons rfl (ob_slice rfl .none (.some (k := n2 - q) rfl (by split <;> omega)) Try.underlying22 Try.sizeOf31 (by omega) (by show n2 - q ≤ c2; omega)) <|
                .cons rfl (ob_imgE 176 rfl rfl rfl fun y176 => ob_callE rfl (.cons rfl <| .cons rfl <| .nil) Try.call13 (fun w m hK => by exact same_true (KC.agree hK.1) (hcq.mono (KC.le hK.1)) (hK.2) (by omega) (mrk_ve _))) <|
                .cons rfl (ob_and rfl rfl rfl) <|
                .cons rfl (ob_move rfl) <|
                .cons rfl (ob_loadLS' (j := 0) rfl rfl Try.isAgg26 Try.sizeOf26 rfl rfl) <|
                .cons rfl (ob_move rfl) <|
                .cons rfl (ob_neg rfl ⟨by omega, by omega⟩) <|
                .cons rfl (ob_call (φ := MP.mem (fun a => .agg #[.pointer a]) (fun a m => Chain m (l6.reverse.map RE.ve) a) (fun hm h => h.mono hm)) rfl (.cons rfl <| .cons rfl <| .nil) Try.call14 (fun w m hK => by exact FnG.mono ((drop_c (n := -(q : Int)) (KC.agree hK) (hy2.mono (KC.le hK)) ⟨by omega, by omega⟩).mono fun _ _ _ _ ⟨o, e, h⟩ => ⟨o, e, by rw [show (-(q : Int)).toNat = 0 by omega] at h; exact h⟩) fun _ _ _ _ h => h)) <|
                .cons rfl (ob_move rfl) <|
                .cons rfl (ob_imgE 190 rfl rfl rfl fun y190 => ob_callE rfl (.cons rfl <| .cons rfl <| .nil) Try.call13 (fun w m hK => by exact same_true (KC.agree hK.1) (h2.mono (KC.le hK.1)) (hK.2) (by omega) (mrk_ve _))) <|
                .cons rfl (ob_and rfl rfl rfl) <|
                .cons rfl (ob_assign rfl) <|
                .nil) ?_
            intro a13 w13 m13 hst13 hle13 hk13
            have hfr13 := hk13.fr (T' := [(1, _), (2, _), (9, _), (10, _), (0, _), (13, _), (11, _), (12, _), (14, _), (15, _), (16, _), (17, _), (19, _), (18, _), (20, _), (21, _), (3, _), (8, _)]) (.old rfl rfl <| .old rfl rfl <| .old rfl rfl <| .old rfl rfl <| .old rfl rfl <| .old rfl rfl <| .old rfl rfl <| .old rfl rfl <| .old rfl rfl <| .old rfl rfl <| .old rfl rfl <| .old rfl rfl <| .old rfl rfl <| .old rfl rfl <| .old rfl rfl <| .old rfl rfl <| .old rfl rfl <| .new rfl <| .nil)
            replace h2 := h2.mono hle13
            replace hy2 := hy2.mono hle13
            replace hcj := hcj.mono hle13
            replace hcx := hcx.mono hle13
            replace hy3 := hy3.mono hle13
            replace hcjq := hcjq.mono hle13
            replace hcz := hcz.mono hle13
            replace hy10 := hy10.mono hle13
            replace hcq := hcq.mono hle13
            clear hst12 hfr12 hk13
            refine hK60 _ _ ?_; try clear hK60 K60
            refine wp_ret ?_
            repeat (with_reducible first | refine then_ret ?_ | refine block_ret ?_)
            exact fn_ret hst13 hfr13 rfl (.tmp rfl <| .nil) (by simp [bundle])

end Go.Proofs.Ytibkcojlgbmlhaa
