/-
  A law's function. Conditions: those of each theorem.
-/
import Derived.Test.YtibkcojlgbmlhaaShown
namespace Go.Proofs.Ytibkcojlgbmlhaa
open Go.RowKit
set_option maxHeartbeats 400000 in
theorem law_first {w : World} {m : Mem} {o : Option Addr} {n c : Nat} {l : List RE} {e : Str} (hA : Agree w m) (h : Ents m o n c l) :
    FnV Try.prog 4 #[.slice o n c, S e] w m (fun _ _ v => v = .bool true) := by
  refine fn_enter (vs := [.slice o n c, S e]) Try.func4 rfl rfl rfl fun a0 hfr0 => ?_
  have hst0 := st_enter hA (loc_nil [] _ w m)
  have hbig := h.big
  have hcap := h.cap
  have hlen := h.len
  obtain ⟨n2, hn2⟩ : ∃ n2, n2 = min n 60 := ⟨_, rfl⟩
  obtain ⟨l6, hl6⟩ : ∃ l6, l6 = l.take 60 := ⟨_, rfl⟩
  have hn60 : n2 ≤ 60 := by omega
  have hln : l6.length = n2 := by rw [hl6, hn2, List.length_take, hlen, Nat.min_comm]
  refine seq_any fun K1 hK1 => ?_
  refine region_plain (fun h => by cases h) hst0 hfr0 (by kernel_rfl) (by kernel_rfl) (.cons rfl (ob_assign rfl) <|
      .nil) ?_
  intro a1 w1 m1 hst1 hle1 hk1
  have hfr1 := hk1.fr (T' := [(0, _), (1, _), (4, _)]) (.old rfl rfl <| .old rfl rfl <| .new rfl <| .nil)
  replace h := h.mono hle1
  clear hst0 hfr0 hk1
  refine hK1 _ _ ?_; try clear hK1 K1
  refine seq_any fun K2 hK2 => ?_
  refine region_plain (fun h => by cases h) hst1 hfr1 (by kernel_rfl) (by kernel_rfl) (.cons rfl (ob_callE rfl (.nil) Try.call8 (fun w m hK => by exact shown_c (KC.agree hK))) <|
      .cons rfl (ob_assign rfl) <|
      .nil) ?_
  intro a2 w2 m2 hst2 hle2 hk2
  have hfr2 := hk2.fr (T' := [(0, _), (1, _), (4, _), (5, _)]) (.old rfl rfl <| .old rfl rfl <| .old rfl rfl <| .new rfl <| .nil)
  replace h := h.mono hle2
  clear hst1 hfr1 hk2
  refine hK2 _ _ ?_; try clear hK2 K2
  refine seq_any fun K3 hK3 => ?_
  replace hst2 := hst2.more (r := .free) trivial List.nodup_nil (by simp [Res.blocks])
  refine region_any (tch := [(5, 0, (fun v => .blk v _)), (6, 0, (fun v => .blkx v _ _))]) (fun h => by cases h) hst2 hfr2 (by kernel_rfl) (by kernel_rfl) (by kernel_rfl) (.cons rfl (ob_move rfl) <|
      .cons rfl (ob_call (φ := MP.mem (fun y : Option Addr × Option Addr × Nat => .tuple #[.agg #[.pointer y.1], .slice y.2.1 n2 y.2.2]) (fun y m => Chain m (l6.reverse.map RE.ve) y.1 ∧ Ents m y.2.1 n2 y.2.2 l6) (fun hm h => ⟨h.1.mono hm, h.2.mono hm⟩)) rfl (.cons rfl <| .nil) Try.call9 (fun w m hK => by exact FnG.mono (built_c' (KC.agree hK) (h.mono (KC.le hK)) hn2 hl6) fun _ _ _ _ h => h)) <|
      .cons rfl (ob_imgV 24 rfl rfl rfl fun y24 => ob_move rfl) <|
      .cons rfl (ob_imgV 22 rfl rfl rfl fun y22 => ob_extract rfl rfl) <|
      .cons rfl (ob_imgV 22 rfl rfl rfl fun y22 => ob_extract rfl rfl) <|
      .consT rfl rfl (fun _ => rfl) rfl (ob_allocL Try.zeroValue26 rfl) <|
      .consT rfl rfl (fun _ => rfl) rfl (ob_imgT 6 rfl rfl rfl fun y6 => ob_imgTX 25 rfl rfl rfl fun y25 => ob_storeF rfl rfl rfl rfl Try.sizeOf26 rfl rfl rfl) <|
      .consA 26 rfl rfl <|
      .nil) ?_
  intro a3 w3 m3 hst3 hle3 hk3
  have hfr3 := hk3.fr (T' := [(1, _), (4, _), (5, _)]) (.old rfl rfl <| .old rfl rfl <| .old rfl rfl <| .nil)
  obtain ⟨⟨s2, o2, c2⟩, e4, hq0, h2⟩ := hk3.ex 26 rfl
  replace hfr3 := hfr3.cons e4
  obtain ⟨gv, e5, _⟩ := hk3.ex 6 rfl
  replace hfr3 := hfr3.cons e5
  replace hfr3 := hfr3.cons (hk3.same 0 rfl e4)
  replace hst3 := hst3.fin (L' := [_]) (.cons e5 <| .cons e5 <| .nil)
  obtain ⟨⟨b2, s3, c3⟩, ⟨hy2, _⟩, hst3⟩ := hst3.unx (k := 0) rfl (fun _ => rfl)
  replace h := h.mono hle3
  clear hst2 hfr2 hk3
  change Ents m3 o2 n2 c2 l6 at h2
  dsimp only at hy2
  have hcap2 := h2.cap
  clear h
  refine hK3 _ _ ?_; try clear hK3 K3
  refine seq_any fun K7 hK7 => ?_
  rcases ve_cases (fun x : RE => decide (x.e = e)) (fun x : VE => decide (x.e = e)) (fun _ => rfl) l6 with ⟨hl, hno, hdw, hfi⟩ | ⟨j, hj, hl, hq, hno, hdw, hfi⟩
  · skip
    refine region_plain (fun h => by cases h) hst3 hfr3 (by kernel_rfl) (by kernel_rfl) (.cons rfl (ob_loadLS' (j := 0) rfl rfl Try.isAgg26 Try.sizeOf26 rfl rfl) <|
        .cons rfl (ob_move rfl) <|
        .cons rfl (ob_callE rfl (.cons rfl <| .cons rfl <| .nil) Try.call12 (fun w m hK => by exact (show FnV Try.prog _ _ _ _ (fun _ _ v => v = .tuple #[.int .i64 0, .bool false]) from (first_c (l := (l6.reverse.map RE.ve)) (e := e) (KC.agree hK) (hy2.mono (KC.le hK)) (by simp; omega)).mono fun _ _ _ _ h => h.trans (by rw [hfi]; rfl)))) <|
        .cons rfl (ob_move rfl) <|
        .cons rfl (ob_extract rfl rfl) <|
        .cons rfl (ob_extract rfl rfl) <|
        .cons rfl (ob_assign rfl) <|
        .cons rfl (ob_assign rfl) <|
        .nil) ?_
    intro a4 w4 m4 hst4 hle4 hk4
    have hfr4 := hk4.fr (T' := [(1, _), (4, _), (5, _), (6, _), (0, _), (7, _), (8, _)]) (.old rfl rfl <| .old rfl rfl <| .old rfl rfl <| .old rfl rfl <| .old rfl rfl <| .new rfl <| .new rfl <| .nil)
    replace h2 := h2.mono hle4
    replace hy2 := hy2.mono hle4
    clear hst3 hfr3 hk4
    refine hK7 _ _ ?_; try clear hK7 K7
    refine seq_any fun K8 hK8 => ?_
    replace hst4 := hst4.more (r := .free) trivial List.nodup_nil (by simp [Res.blocks])
    refine region_any (tch := [(8, 1, (fun v => .blk v _)), (11, 1, (fun v => .blk v _))]) (fun h => by cases h) hst4 hfr4 (by kernel_rfl) (by kernel_rfl) (by kernel_rfl) (.cons rfl (ob_loadLS' (j := 0) rfl rfl Try.isAgg26 Try.sizeOf26 rfl rfl) <|
        .cons rfl (ob_move rfl) <|
        .cons rfl (ob_callE rfl (.cons rfl <| .cons rfl <| .nil) Try.call11 (fun w m hK => by exact find_none (l := (l6.reverse.map RE.ve)) (e := e) (KC.agree hK) (hy2.mono (KC.le hK)) hdw)) <|
        .cons rfl (ob_move rfl) <|
        .cons rfl (ob_extract rfl rfl) <|
        .cons rfl (ob_extract rfl rfl) <|
        .cons rfl (ob_extract rfl rfl) <|
        .cons rfl (ob_extract rfl rfl) <|
        .consT rfl rfl (fun _ => rfl) rfl (ob_allocL Try.zeroValue26 rfl) <|
        .cons rfl (ob_assign rfl) <|
        .cons rfl (ob_assign rfl) <|
        .consT rfl rfl (fun _ => rfl) rfl (ob_imgT 11 rfl rfl rfl fun y11 => ob_storeF rfl rfl rfl rfl Try.sizeOf26 rfl rfl rfl) <|
        .cons rfl (ob_assign rfl) <|
        .nil) ?_
    intro a5 w5 m5 hst5 hle5 hk5
    have hfr5 := hk5.fr (T' := [(1, _), (4, _), (5, _), (6, _), (0, _), (7, _), (8, _), (9, _), (10, _), (12, _)]) (.old rfl rfl <| .old rfl rfl <| .old rfl rfl <| .old rfl rfl <| .old rfl rfl <| .old rfl rfl <| .old rfl rfl <| .new rfl <| .new rfl <| .new rfl <| .nil)
    obtain ⟨g9, e9, _⟩ := hk5.ex 11 rfl
    replace hfr5 := hfr5.cons e9
    replace hst5 := hst5.fin (L' := [_, _]) (.cons e9 <| .cons e9 <| .nil)
    replace h2 := h2.mono hle5
    replace hy2 := hy2.mono hle5
    clear hst4 hfr4 hk5
    refine hK8 _ _ ?_; try clear hK8 K8
    refine seq_any fun K10 hK10 => ?_
    refine seq_any fun K11 hK11 => ?_
    refine region_plain (fun h => by cases h) hst5 hfr5 (by kernel_rfl) (by kernel_rfl) (.cons rfl (ob_move rfl) <|
        .cons rfl (ob_not rfl) <|
        .nil) ?_
    intro a6 w6 m6 hst6 hle6 hk6
    have hfr6 := hk6.fr (T' := [(1, _), (4, _), (5, _), (6, _), (0, _), (7, _), (8, _), (9, _), (10, _), (12, _), (11, _), (42, _)]) (.old rfl rfl <| .old rfl rfl <| .old rfl rfl <| .old rfl rfl <| .old rfl rfl <| .old rfl rfl <| .old rfl rfl <| .old rfl rfl <| .old rfl rfl <| .old rfl rfl <| .old rfl rfl <| .new rfl <| .nil)
    replace h2 := h2.mono hle6
    replace hy2 := hy2.mono hle6
    clear hst5 hfr5 hk6
    refine hK11 _ _ ?_; try clear hK11 K11
    refine cond_any hfr6 rfl rfl (fun hb42 => ?_) (fun hb42 => ?_)
    · refine seq_any fun K12 hK12 => ?_
      refine seq_any fun K13 hK13 => ?_
      refine region_plain (fun h => by cases h) hst6 hfr6 (by kernel_rfl) (by kernel_rfl) (.cons rfl (ob_assign rfl) <|
          .nil) ?_
      intro a7 w7 m7 hst7 hle7 hk7
      have hfr7 := hk7.fr (T' := [(1, _), (4, _), (5, _), (6, _), (0, _), (7, _), (8, _), (9, _), (10, _), (12, _), (11, _), (13, _)]) (.old rfl rfl <| .old rfl rfl <| .old rfl rfl <| .old rfl rfl <| .old rfl rfl <| .old rfl rfl <| .old rfl rfl <| .old rfl rfl <| .old rfl rfl <| .old rfl rfl <| .old rfl rfl <| .new rfl <| .nil)
      replace h2 := h2.mono hle7
      replace hy2 := hy2.mono hle7
      clear hst6 hfr6 hk7
      refine hK13 _ _ ?_; try clear hK13 K13
      refine wp_block ?_
      refine loop_any (T := [(1, _), (4, _), (5, _), (6, _), (0, _), (7, _), (8, _), (9, _), (10, _), (12, _), (11, _)]) (fun (y : Nat) => ([(13, .int .i64 (y : Int))] : List (Nat × Value))) (fun _ => _) (fun (y : Nat) _ => y ≤ n2) (fun y => n2 - y) (0) ⟨hst7, MLe.refl _, hfr7.sub (.cons rfl <| .cons rfl <| .cons rfl <| .cons rfl <| .cons rfl <| .cons rfl <| .cons rfl <| .cons rfl <| .cons rfl <| .cons rfl <| .cons rfl <| .cons rfl <| .nil), Nat.zero_le _⟩ fun y a8 w8 m8 hh8 => ?_
      have hst8 := hh8.st; have hle8 := hh8.le; have hfr8 := hh8.fr; have hrel := hh8.rel; clear hh8
      replace h2 := h2.mono hle8
      replace hy2 := hy2.mono hle8
      clear hst7 hfr7
      have hlh8 := hle8
      refine seq_any fun K15 hK15 => ?_
      refine seq_any fun K16 hK16 => ?_
      refine region_plain (fun h => by cases h) hst8 hfr8 (by kernel_rfl) (by kernel_rfl) (.cons rfl (ob_move rfl) <|
          .cons rfl (ob_move rfl) <|
          .cons rfl (ob_len rfl Try.underlying22) <|
          .cons rfl (ob_lss rfl rfl) <|
          .nil) ?_
      intro a9 w9 m9 hst9 hle9 hk9
      have hfr9 := hk9.fr (T' := [(13, _), (1, _), (4, _), (5, _), (6, _), (0, _), (7, _), (8, _), (9, _), (10, _), (12, _), (11, _), (46, _)]) (.old rfl rfl <| .old rfl rfl <| .old rfl rfl <| .old rfl rfl <| .old rfl rfl <| .old rfl rfl <| .old rfl rfl <| .old rfl rfl <| .old rfl rfl <| .old rfl rfl <| .old rfl rfl <| .old rfl rfl <| .new rfl <| .nil)
      replace h2 := h2.mono hle9
      replace hy2 := hy2.mono hle9
      have hlh9 := hlh8.trans hle9
      clear hst8 hfr8 hk9
      refine hK16 _ _ ?_; try clear hK16 K16
      refine cond_any hfr9 rfl rfl (fun hb46 => ?_) (fun hb46 => ?_)
      · have hlt2 : y < n2 := by simpa using hb46
        obtain ⟨pp, hx, rfl, hc⟩ := h2.get hlt2
        refine wp_skip ?_
        refine hK15 _ _ ?_; try clear hK15 K15
        refine seq_any fun K17 hK17 => ?_
        refine wp_block ?_
        refine seq_any fun K18 hK18 => ?_
        refine region_plain (fun h => by cases h) hst9 hfr9 (by kernel_rfl) (by kernel_rfl) (.cons rfl (ob_move rfl) <|
            .cons rfl (ob_move rfl) <|
            .cons rfl (ob_indexAddr rfl rfl Try.underlying22 Try.sizeOf31 rfl hlt2) <|
            .cons rfl (ob_fieldAddr rfl Try.underlying31 rfl Try.sizeOf9 rfl) <|
            .cons rfl (ob_load1 rfl hc Try.isAgg9 rfl) <|
            .cons rfl (ob_move rfl) <|
            .cons rfl (ob_seql rfl rfl) <|
            .nil) ?_
        intro a10 w10 m10 hst10 hle10 hk10
        have hfr10 := hk10.fr (T' := [(13, _), (1, _), (4, _), (5, _), (6, _), (0, _), (7, _), (8, _), (9, _), (10, _), (12, _), (11, _), (55, _)]) (.old rfl rfl <| .old rfl rfl <| .old rfl rfl <| .old rfl rfl <| .old rfl rfl <| .old rfl rfl <| .old rfl rfl <| .old rfl rfl <| .old rfl rfl <| .old rfl rfl <| .old rfl rfl <| .old rfl rfl <| .new rfl <| .nil)
        replace h2 := h2.mono hle10
        replace hy2 := hy2.mono hle10
        replace hc := hc.mono hle10
        have hlh10 := hlh9.trans hle10
        clear hst9 hfr9 hk10
        refine hK18 _ _ ?_; try clear hK18 K18
        refine cond_any hfr10 rfl rfl (fun hb55 => ?_) (fun hb55 => ?_)
        · have := hno y hx; simp at hb55 this; exact absurd hb55 this
        · refine wp_skip ?_
          refine hK17 _ _ ?_; try clear hK17 K17
          refine region_plain (fun h => by cases h) hst10 hfr10 (by kernel_rfl) (by kernel_rfl) (.cons rfl (ob_move rfl) <|
              .cons rfl (ob_add rfl rfl ⟨by omega, by omega⟩) <|
              .cons rfl (ob_assign rfl) <|
              .nil) ?_
          intro a11 w11 m11 hst11 hle11 hk11
          have hfr11 := hk11.fr (T' := [(1, _), (4, _), (5, _), (6, _), (0, _), (7, _), (8, _), (9, _), (10, _), (12, _), (11, _), (13, _)]) (.old rfl rfl <| .old rfl rfl <| .old rfl rfl <| .old rfl rfl <| .old rfl rfl <| .old rfl rfl <| .old rfl rfl <| .old rfl rfl <| .old rfl rfl <| .old rfl rfl <| .old rfl rfl <| .new rfl <| .nil)
          replace h2 := h2.mono hle11
          replace hy2 := hy2.mono hle11
          replace hc := hc.mono hle11
          have hlh11 := hlh10.trans hle11
          clear hst10 hfr10 hk11
          exact ⟨y + 1, m11, by show n2 - (y + 1) < n2 - y; omega, ⟨hst11, hlh11, hfr11.sub (.cons rfl <| .cons rfl <| .cons rfl <| .cons rfl <| .cons rfl <| .cons rfl <| .cons rfl <| .cons rfl <| .cons rfl <| .cons rfl <| .cons rfl <| .cons rfl <| .nil), by show y + 1 ≤ n2; omega⟩⟩
      · refine wp_exit ?_
        refine hK12 _ _ ?_; try clear hK12 K12
        refine seq_any fun K19 hK19 => ?_
        refine region_plain (fun h => by cases h) hst9 hfr9 (by kernel_rfl) (by kernel_rfl) (.cons rfl (ob_move rfl) <|
            .cons rfl (ob_move rfl) <|
            .cons rfl (ob_move rfl) <|
            .cons rfl (ob_not rfl) <|
            .cons rfl (ob_and rfl rfl rfl) <|
            .cons rfl (ob_assign rfl) <|
            .nil) ?_
        intro a10 w10 m10 hst10 hle10 hk10
        have hfr10 := hk10.fr (T' := [(13, _), (1, _), (5, _), (6, _), (0, _), (7, _), (8, _), (9, _), (10, _), (12, _), (11, _), (4, _)]) (.old rfl rfl <| .old rfl rfl <| .old rfl rfl <| .old rfl rfl <| .old rfl rfl <| .old rfl rfl <| .old rfl rfl <| .old rfl rfl <| .old rfl rfl <| .old rfl rfl <| .old rfl rfl <| .new rfl <| .nil)
        replace h2 := h2.mono hle10
        replace hy2 := hy2.mono hle10
        have hlh10 := hlh9.trans hle10
        clear hst9 hfr9 hk10
        refine hK19 _ _ ?_; try clear hK19 K19
        refine wp_ret ?_
        repeat (with_reducible first | refine then_ret ?_ | refine block_ret ?_)
        exact fn_ret hst10 hfr10 rfl (.tmp rfl <| .nil) (by simp [bundle])
    · simp at hb42
  · skip
    have hjn : j < n2 := by omega
    have hdp := drop_at (i := j) hj
    rw [hln] at hdp hfi
    generalize hxe : l6[j] = x at hdw hdp hq
    have hqe : x.e = e := by simpa using hq
    have hlx : ((l6.take j).reverse.map RE.ve).length = j := by simp; omega
    refine region_plain (fun h => by cases h) hst3 hfr3 (by kernel_rfl) (by kernel_rfl) (.cons rfl (ob_loadLS' (j := 0) rfl rfl Try.isAgg26 Try.sizeOf26 rfl rfl) <|
        .cons rfl (ob_move rfl) <|
        .cons rfl (ob_callE rfl (.cons rfl <| .cons rfl <| .nil) Try.call12 (fun w m hK => by exact (show FnV Try.prog _ _ _ _ (fun _ _ v => v = .tuple #[.int .i64 ((n2 - 1 - j : Nat) : Int), .bool true]) from (first_c (l := (l6.reverse.map RE.ve)) (e := e) (KC.agree hK) (hy2.mono (KC.le hK)) (by simp; omega)).mono fun _ _ _ _ h => h.trans (by rw [hfi]; rfl)))) <|
        .cons rfl (ob_move rfl) <|
        .cons rfl (ob_extract rfl rfl) <|
        .cons rfl (ob_extract rfl rfl) <|
        .cons rfl (ob_assign rfl) <|
        .cons rfl (ob_assign rfl) <|
        .nil) ?_
    intro a4 w4 m4 hst4 hle4 hk4
    have hfr4 := hk4.fr (T' := [(1, _), (4, _), (5, _), (6, _), (0, _), (7, _), (8, _)]) (.old rfl rfl <| .old rfl rfl <| .old rfl rfl <| .old rfl rfl <| .old rfl rfl <| .new rfl <| .new rfl <| .nil)
    replace h2 := h2.mono hle4
    replace hy2 := hy2.mono hle4
    clear hst3 hfr3 hk4
    refine hK7 _ _ ?_; try clear hK7 K7
    refine seq_any fun K21 hK21 => ?_
    replace hst4 := hst4.more (r := .free) trivial List.nodup_nil (by simp [Res.blocks])
    refine region_any (tch := [(8, 1, (fun v => .blk v _)), (11, 1, (fun v => .blkx v _ _))]) (fun h => by cases h) hst4 hfr4 (by kernel_rfl) (by kernel_rfl) (by kernel_rfl) (.cons rfl (ob_loadLS' (j := 0) rfl rfl Try.isAgg26 Try.sizeOf26 rfl rfl) <|
        .cons rfl (ob_move rfl) <|
        .cons rfl (ob_call (φ := MP.mem (fun o => .tuple #[S x.k, .int .i64 x.mrk, .agg #[.pointer o], .bool true]) (fun o m => Chain m ((l6.take j).reverse.map RE.ve) o) (fun hm h => h.mono hm)) rfl (.cons rfl <| .cons rfl <| .nil) Try.call11 (fun w m hK => by exact FnG.mono (find_some (l := (l6.reverse.map RE.ve)) (e := e) (x := RE.ve x) (xs := ((l6.take j).reverse.map RE.ve)) (KC.agree hK) (hy2.mono (KC.le hK)) hdw) fun _ _ _ _ h => h)) <|
        .cons rfl (ob_imgV 36 rfl rfl rfl fun y36 => ob_move rfl) <|
        .cons rfl (ob_imgV 33 rfl rfl rfl fun y33 => ob_extract rfl rfl) <|
        .cons rfl (ob_imgV 33 rfl rfl rfl fun y33 => ob_extract rfl rfl) <|
        .cons rfl (ob_imgV 33 rfl rfl rfl fun y33 => ob_extract rfl rfl) <|
        .cons rfl (ob_imgV 33 rfl rfl rfl fun y33 => ob_extract rfl rfl) <|
        .consT rfl rfl (fun _ => rfl) rfl (ob_allocL Try.zeroValue26 rfl) <|
        .consA 37 rfl rfl <|
        .consA 38 rfl rfl <|
        .consT rfl rfl (fun _ => rfl) rfl (ob_imgT 11 rfl rfl rfl fun y11 => ob_imgTX 39 rfl rfl rfl fun y39 => ob_storeF rfl rfl rfl rfl Try.sizeOf26 rfl rfl rfl) <|
        .consA 40 rfl rfl <|
        .nil) ?_
    intro a5 w5 m5 hst5 hle5 hk5
    have hfr5 := hk5.fr (T' := [(1, _), (4, _), (5, _), (6, _), (0, _), (7, _), (8, _)]) (.old rfl rfl <| .old rfl rfl <| .old rfl rfl <| .old rfl rfl <| .old rfl rfl <| .old rfl rfl <| .old rfl rfl <| .nil)
    obtain ⟨y22, e22, hy22⟩ := hk5.ex 37 rfl
    replace hfr5 := hfr5.cons e22
    obtain ⟨y23, e23, hy23⟩ := hk5.ex 38 rfl
    replace hfr5 := hfr5.cons e23
    obtain ⟨y24, e24, hy24⟩ := hk5.ex 40 rfl
    replace hfr5 := hfr5.cons e24
    obtain ⟨g25, e25, _⟩ := hk5.ex 11 rfl
    replace hfr5 := hfr5.cons e25
    replace hfr5 := hfr5.cons (hk5.same 9 rfl e22)
    replace hfr5 := hfr5.cons (hk5.same 10 rfl e23)
    replace hfr5 := hfr5.cons (hk5.same 12 rfl e24)
    replace hst5 := hst5.fin (L' := [_, _]) (.cons e25 <| .cons e25 <| .nil)
    obtain ⟨b4, hy4, hst5⟩ := hst5.unx (k := 1) rfl (fun _ => rfl)
    replace h2 := h2.mono hle5
    replace hy2 := hy2.mono hle5
    clear hst4 hfr4 hk5
    refine hK21 _ _ ?_; try clear hK21 K21
    refine seq_any fun K27 hK27 => ?_
    refine seq_any fun K28 hK28 => ?_
    refine region_plain (fun h => by cases h) hst5 hfr5 (by kernel_rfl) (by kernel_rfl) (.cons rfl (ob_move rfl) <|
        .cons rfl (ob_not rfl) <|
        .nil) ?_
    intro a6 w6 m6 hst6 hle6 hk6
    have hfr6 := hk6.fr (T' := [(1, _), (4, _), (5, _), (6, _), (0, _), (7, _), (8, _), (11, _), (9, _), (10, _), (12, _), (42, _)]) (.old rfl rfl <| .old rfl rfl <| .old rfl rfl <| .old rfl rfl <| .old rfl rfl <| .old rfl rfl <| .old rfl rfl <| .old rfl rfl <| .old rfl rfl <| .old rfl rfl <| .old rfl rfl <| .new rfl <| .nil)
    replace h2 := h2.mono hle6
    replace hy2 := hy2.mono hle6
    replace hy4 := hy4.mono hle6
    clear hst5 hfr5 hk6
    refine hK28 _ _ ?_; try clear hK28 K28
    refine cond_any hfr6 rfl rfl (fun hb42 => ?_) (fun hb42 => ?_)
    · simp at hb42
    · refine wp_skip ?_
      refine hK27 _ _ ?_; try clear hK27 K27
      refine seq_any fun K29 hK29 => ?_
      replace hst6 := hst6.more (r := .free) trivial List.nodup_nil (by simp [Res.blocks])
      refine region_any (tch := [(10, 2, (fun v => .blk v _)), (13, 2, (fun v => .blkx v _ _))]) (fun h => by cases h) hst6 hfr6 (by kernel_rfl) (by kernel_rfl) (by kernel_rfl) (.cons rfl (ob_loadLS' (j := 0) rfl rfl Try.isAgg26 Try.sizeOf26 rfl rfl) <|
          .cons rfl (ob_move rfl) <|
          .cons rfl (ob_call (φ := MP.mem (fun a => .agg #[.pointer a]) (fun a m => Chain m (RE.ve x :: ((l6.take j).reverse.map RE.ve)) a) (fun hm h => h.mono hm)) rfl (.cons rfl <| .cons rfl <| .nil) Try.call14 (fun w m hK => by exact FnG.mono ((drop_c (n := ((n2 - 1 - j : Nat) : Int)) (KC.agree hK) (hy2.mono (KC.le hK)) ⟨by omega, by omega⟩).mono fun _ _ _ _ ⟨o, e, h⟩ => ⟨o, e, by have h : Chain _ ((l6.reverse.map RE.ve).drop (n2 - 1 - j)) o := h; rw [hdp] at h; exact h⟩) fun _ _ _ _ h => h)) <|
          .cons rfl (ob_move rfl) <|
          .cons rfl (ob_imgE 64 rfl rfl rfl fun y64 => ob_call (φ := MP.mem (fun o => .tuple #[S x.k, .int .i64 x.mrk, .agg #[.pointer o], .bool true]) (fun o m => Chain m ((l6.take j).reverse.map RE.ve) o) (fun hm h => h.mono hm)) rfl (.cons rfl <| .cons rfl <| .nil) Try.call11 (fun w m hK => by exact FnG.mono (find_some (l := (RE.ve x :: ((l6.take j).reverse.map RE.ve))) (e := e) (x := RE.ve x) (xs := ((l6.take j).reverse.map RE.ve)) (KC.agree hK.1) hK.2 (by simp [List.dropWhile, RE.ve, hqe])) fun _ _ _ _ h => h)) <|
          .cons rfl (ob_imgV 66 rfl rfl rfl fun y66 => ob_move rfl) <|
          .cons rfl (ob_imgV 61 rfl rfl rfl fun y61 => ob_extract rfl rfl) <|
          .cons rfl (ob_imgV 61 rfl rfl rfl fun y61 => ob_extract rfl rfl) <|
          .cons rfl (ob_imgV 61 rfl rfl rfl fun y61 => ob_extract rfl rfl) <|
          .cons rfl (ob_imgV 61 rfl rfl rfl fun y61 => ob_extract rfl rfl) <|
          .consT rfl rfl (fun _ => rfl) rfl (ob_allocL Try.zeroValue26 rfl) <|
          .consA 67 rfl rfl <|
          .consA 68 rfl rfl <|
          .consT rfl rfl (fun _ => rfl) rfl (ob_imgT 16 rfl rfl rfl fun y16 => ob_imgTX 69 rfl rfl rfl fun y69 => ob_storeF rfl rfl rfl rfl Try.sizeOf26 rfl rfl rfl) <|
          .consA 70 rfl rfl <|
          .nil) ?_
      intro a7 w7 m7 hst7 hle7 hk7
      have hfr7 := hk7.fr (T' := [(1, _), (4, _), (5, _), (6, _), (0, _), (7, _), (8, _), (11, _), (9, _), (10, _), (12, _)]) (.old rfl rfl <| .old rfl rfl <| .old rfl rfl <| .old rfl rfl <| .old rfl rfl <| .old rfl rfl <| .old rfl rfl <| .old rfl rfl <| .old rfl rfl <| .old rfl rfl <| .old rfl rfl <| .nil)
      obtain ⟨y30, e30, hy30⟩ := hk7.ex 67 rfl
      replace hfr7 := hfr7.cons e30
      obtain ⟨y31, e31, hy31⟩ := hk7.ex 68 rfl
      replace hfr7 := hfr7.cons e31
      obtain ⟨y32, e32, hy32⟩ := hk7.ex 70 rfl
      replace hfr7 := hfr7.cons e32
      obtain ⟨g33, e33, _⟩ := hk7.ex 16 rfl
      replace hfr7 := hfr7.cons e33
      replace hfr7 := hfr7.cons (hk7.same 14 rfl e30)
      replace hfr7 := hfr7.cons (hk7.same 15 rfl e31)
      replace hfr7 := hfr7.cons (hk7.same 17 rfl e32)
      replace hst7 := hst7.fin (L' := [_, _, _]) (.cons e33 <| .cons e33 <| .nil)
      obtain ⟨b12, hy12, hst7⟩ := hst7.unx (k := 2) rfl (fun _ => rfl)
      replace h2 := h2.mono hle7
      replace hy2 := hy2.mono hle7
      replace hy4 := hy4.mono hle7
      clear hst6 hfr6 hk7
      refine hK29 _ _ ?_; try clear hK29 K29
      refine seq_any fun K35 hK35 => ?_
      refine region_plain (fun h => by cases h) hst7 hfr7 (by kernel_rfl) (by kernel_rfl) (.cons rfl (ob_loadLS' (j := 0) rfl rfl Try.isAgg26 Try.sizeOf26 rfl rfl) <|
          .cons rfl (ob_move rfl) <|
          .cons rfl (ob_call (φ := MP.mem (fun a => .agg #[.pointer a]) (fun a m => Chain m (RE.ve x :: ((l6.take j).reverse.map RE.ve)) a) (fun hm h => h.mono hm)) rfl (.cons rfl <| .cons rfl <| .nil) Try.call14 (fun w m hK => by exact FnG.mono ((drop_c (n := ((n2 - 1 - j : Nat) : Int)) (KC.agree hK) (hy2.mono (KC.le hK)) ⟨by omega, by omega⟩).mono fun _ _ _ _ ⟨o, e, h⟩ => ⟨o, e, by have h : Chain _ ((l6.reverse.map RE.ve).drop (n2 - 1 - j)) o := h; rw [hdp] at h; exact h⟩) fun _ _ _ _ h => h)) <|
          .cons rfl (ob_move rfl) <|
          .cons rfl (ob_imgE 74 rfl rfl rfl fun y74 => ob_callE rfl (.cons rfl <| .cons rfl <| .nil) Try.call12 (fun w m hK => by exact (show FnV Try.prog _ _ _ _ (fun _ _ v => v = .tuple #[.int .i64 0, .bool true]) from (first_c (l := (RE.ve x :: ((l6.take j).reverse.map RE.ve))) (e := e) (KC.agree hK.1) hK.2 (by simp; omega)).mono fun _ _ _ _ h => h.trans (by simp [firstRes, List.findIdx?_cons, RE.ve, hqe])))) <|
          .cons rfl (ob_move rfl) <|
          .cons rfl (ob_extract rfl rfl) <|
          .cons rfl (ob_extract rfl rfl) <|
          .cons rfl (ob_assign rfl) <|
          .cons rfl (ob_assign rfl) <|
          .nil) ?_
      intro a8 w8 m8 hst8 hle8 hk8
      have hfr8 := hk8.fr (T' := [(1, _), (4, _), (5, _), (6, _), (0, _), (7, _), (8, _), (11, _), (9, _), (10, _), (12, _), (16, _), (14, _), (15, _), (17, _), (18, _), (19, _)]) (.old rfl rfl <| .old rfl rfl <| .old rfl rfl <| .old rfl rfl <| .old rfl rfl <| .old rfl rfl <| .old rfl rfl <| .old rfl rfl <| .old rfl rfl <| .old rfl rfl <| .old rfl rfl <| .old rfl rfl <| .old rfl rfl <| .old rfl rfl <| .old rfl rfl <| .new rfl <| .new rfl <| .nil)
      replace h2 := h2.mono hle8
      replace hy2 := hy2.mono hle8
      replace hy4 := hy4.mono hle8
      replace hy12 := hy12.mono hle8
      clear hst7 hfr7 hk8
      refine hK35 _ _ ?_; try clear hK35 K35
      refine seq_any fun K36 hK36 => ?_
      refine seq_any fun K37 hK37 => ?_
      refine region_plain (fun _ => mixed) hst8 hfr8 (by kernel_rfl) (by kernel_rfl) (.cons rfl (ob_move rfl) <|
          .cons rfl (ob_not rfl) <|
          .cons rfl (ob_move rfl) <|
          .cons rfl (ob_move rfl) <|
          .cons rfl (ob_not rfl) <|
          .cons rfl (ob_or rfl rfl rfl) <|
          .cons rfl (ob_move rfl) <|
          .cons rfl (ob_move rfl) <|
          .cons rfl (ob_move rfl) <|
          .cons rfl (ob_sneq rfl rfl) <|
          .cons rfl (ob_or rfl rfl rfl) <|
          .cons rfl (ob_move rfl) <|
          .cons rfl (ob_move rfl) <|
          .cons rfl (ob_move rfl) <|
          .cons rfl (ob_neq rfl rfl) <|
          .cons rfl (ob_or rfl rfl rfl) <|
          .cons rfl (ob_move rfl) <|
          .cons rfl (ob_move rfl) <|
          .cons rfl (ob_neq rfl rfl) <|
          .cons rfl (ob_or rfl rfl rfl) <|
          .cons rfl (ob_move rfl) <|
          .cons rfl (ob_move rfl) <|
          .cons rfl (ob_not rfl) <|
          .cons rfl (ob_or rfl rfl rfl) <|
          .cons rfl (ob_move rfl) <|
          .cons rfl (ob_loadLS' (j := 2) rfl rfl Try.isAgg26 Try.sizeOf26 rfl rfl) <|
          .cons rfl (ob_callE rfl (.cons rfl <| .nil) Try.call15 (fun w m hK => by exact len_c (l := ((l6.take j).reverse.map RE.ve)) (KC.agree hK) (hy12.mono (KC.le hK)))) <|
          .cons rfl (ob_loadLS' (j := 1) rfl rfl Try.isAgg26 Try.sizeOf26 rfl rfl) <|
          .cons rfl (ob_callE rfl (.cons rfl <| .nil) Try.call15 (fun w m hK => by exact len_c (l := ((l6.take j).reverse.map RE.ve)) (KC.agree hK) (hy4.mono (KC.le hK)))) <|
          .cons rfl (ob_neq rfl rfl) <|
          .cons rfl (ob_or rfl rfl rfl) <|
          .cons rfl (ob_move rfl) <|
          .cons rfl (ob_loadLS' (j := 1) rfl rfl Try.isAgg26 Try.sizeOf26 rfl rfl) <|
          .cons rfl (ob_callE rfl (.cons rfl <| .nil) Try.call15 (fun w m hK => by exact len_c (l := ((l6.take j).reverse.map RE.ve)) (KC.agree hK) (hy4.mono (KC.le hK)))) <|
          .cons rfl (ob_move rfl) <|
          .cons rfl (ob_len rfl Try.underlying22) <|
          .cons rfl (ob_move rfl) <|
          .cons rfl (ob_sub rfl rfl ⟨by omega, by omega⟩) <|
          .cons rfl (ob_sub rfl rfl ⟨by omega, by omega⟩) <|
          .cons rfl (ob_neq rfl rfl) <|
          .cons rfl (ob_or rfl rfl rfl) <|
          .nil) ?_
      intro a9 w9 m9 hst9 hle9 hk9
      have hfr9 := hk9.fr (T' := [(1, _), (4, _), (5, _), (6, _), (0, _), (7, _), (8, _), (11, _), (9, _), (10, _), (12, _), (16, _), (14, _), (15, _), (17, _), (18, _), (19, _), (119, _)]) (.old rfl rfl <| .old rfl rfl <| .old rfl rfl <| .old rfl rfl <| .old rfl rfl <| .old rfl rfl <| .old rfl rfl <| .old rfl rfl <| .old rfl rfl <| .old rfl rfl <| .old rfl rfl <| .old rfl rfl <| .old rfl rfl <| .old rfl rfl <| .old rfl rfl <| .old rfl rfl <| .old rfl rfl <| .new rfl <| .nil)
      replace h2 := h2.mono hle9
      replace hy2 := hy2.mono hle9
      replace hy4 := hy4.mono hle9
      replace hy12 := hy12.mono hle9
      clear hst8 hfr8 hk9
      refine hK37 _ _ ?_; try clear hK37 K37
      refine cond_any hfr9 rfl rfl (fun hb119 => ?_) (fun hb119 => ?_)
      · rw [hlx] at hb119; simp at hb119; omega
      · refine wp_skip ?_
        refine hK36 _ _ ?_; try clear hK36 K36
        refine seq_any fun K38 hK38 => ?_
        refine seq_any fun K39 hK39 => ?_
        refine region_plain (fun h => by cases h) hst9 hfr9 (by kernel_rfl) (by kernel_rfl) (.cons rfl (ob_move rfl) <|
            .cons rfl (ob_len rfl Try.underlying22) <|
            .cons rfl (ob_move rfl) <|
            .cons rfl (ob_sub rfl rfl ⟨by omega, by omega⟩) <|
            .cons rfl (ob_assign rfl) <|
            .nil) ?_
        intro a10 w10 m10 hst10 hle10 hk10
        have hfr10 := hk10.fr (T' := [(1, _), (4, _), (5, _), (6, _), (0, _), (7, _), (8, _), (11, _), (9, _), (10, _), (12, _), (16, _), (14, _), (15, _), (17, _), (18, _), (19, _), (20, _)]) (.old rfl rfl <| .old rfl rfl <| .old rfl rfl <| .old rfl rfl <| .old rfl rfl <| .old rfl rfl <| .old rfl rfl <| .old rfl rfl <| .old rfl rfl <| .old rfl rfl <| .old rfl rfl <| .old rfl rfl <| .old rfl rfl <| .old rfl rfl <| .old rfl rfl <| .old rfl rfl <| .old rfl rfl <| .new rfl <| .nil)
        replace h2 := h2.mono hle10
        replace hy2 := hy2.mono hle10
        replace hy4 := hy4.mono hle10
        replace hy12 := hy12.mono hle10
        clear hst9 hfr9 hk10
        have hs : (n2 : Int) - ((n2 - 1 - j : Nat) : Int) = ((j + 1 : Nat) : Int) := by omega
        rw [hs] at hfr10
        clear hs
        refine hK39 _ _ ?_; try clear hK39 K39
        refine wp_block ?_
        refine loop_any (T := [(1, _), (4, _), (5, _), (6, _), (0, _), (7, _), (8, _), (11, _), (9, _), (10, _), (12, _), (16, _), (14, _), (15, _), (17, _), (18, _), (19, _)]) (fun (y : Nat) => ([(20, .int .i64 (y : Int))] : List (Nat × Value))) (fun _ => _) (fun (y : Nat) _ => y ≤ n2 ∧ j < y) (fun y => n2 - y) (j + 1) ⟨hst10, MLe.refl _, hfr10.sub (.cons rfl <| .cons rfl <| .cons rfl <| .cons rfl <| .cons rfl <| .cons rfl <| .cons rfl <| .cons rfl <| .cons rfl <| .cons rfl <| .cons rfl <| .cons rfl <| .cons rfl <| .cons rfl <| .cons rfl <| .cons rfl <| .cons rfl <| .cons rfl <| .nil), ⟨by omega, by omega⟩⟩ fun y a11 w11 m11 hh11 => ?_
        have hst11 := hh11.st; have hle11 := hh11.le; have hfr11 := hh11.fr; have hrel := hh11.rel; clear hh11
        replace h2 := h2.mono hle11
        replace hy2 := hy2.mono hle11
        replace hy4 := hy4.mono hle11
        replace hy12 := hy12.mono hle11
        clear hst10 hfr10
        obtain ⟨hyn, hjy⟩ := hrel
        have hlh11 := hle11
        refine seq_any fun K41 hK41 => ?_
        refine seq_any fun K42 hK42 => ?_
        refine region_plain (fun h => by cases h) hst11 hfr11 (by kernel_rfl) (by kernel_rfl) (.cons rfl (ob_move rfl) <|
            .cons rfl (ob_move rfl) <|
            .cons rfl (ob_len rfl Try.underlying22) <|
            .cons rfl (ob_lss rfl rfl) <|
            .nil) ?_
        intro a12 w12 m12 hst12 hle12 hk12
        have hfr12 := hk12.fr (T' := [(20, _), (1, _), (4, _), (5, _), (6, _), (0, _), (7, _), (8, _), (11, _), (9, _), (10, _), (12, _), (16, _), (14, _), (15, _), (17, _), (18, _), (19, _), (127, _)]) (.old rfl rfl <| .old rfl rfl <| .old rfl rfl <| .old rfl rfl <| .old rfl rfl <| .old rfl rfl <| .old rfl rfl <| .old rfl rfl <| .old rfl rfl <| .old rfl rfl <| .old rfl rfl <| .old rfl rfl <| .old rfl rfl <| .old rfl rfl <| .old rfl rfl <| .old rfl rfl <| .old rfl rfl <| .old rfl rfl <| .new rfl <| .nil)
        replace h2 := h2.mono hle12
        replace hy2 := hy2.mono hle12
        replace hy4 := hy4.mono hle12
        replace hy12 := hy12.mono hle12
        have hlh12 := hlh11.trans hle12
        clear hst11 hfr11 hk12
        refine hK42 _ _ ?_; try clear hK42 K42
        refine cond_any hfr12 rfl rfl (fun hb127 => ?_) (fun hb127 => ?_)
        · have hlt2 : y < n2 := by simpa using hb127
          obtain ⟨pp, hx, rfl, hc⟩ := h2.get hlt2
          refine wp_skip ?_
          refine hK41 _ _ ?_; try clear hK41 K41
          refine seq_any fun K43 hK43 => ?_
          refine wp_block ?_
          refine seq_any fun K44 hK44 => ?_
          refine region_plain (fun h => by cases h) hst12 hfr12 (by kernel_rfl) (by kernel_rfl) (.cons rfl (ob_move rfl) <|
              .cons rfl (ob_move rfl) <|
              .cons rfl (ob_indexAddr rfl rfl Try.underlying22 Try.sizeOf31 rfl hlt2) <|
              .cons rfl (ob_fieldAddr rfl Try.underlying31 rfl Try.sizeOf9 rfl) <|
              .cons rfl (ob_load1 rfl hc Try.isAgg9 rfl) <|
              .cons rfl (ob_move rfl) <|
              .cons rfl (ob_seql rfl rfl) <|
              .nil) ?_
          intro a13 w13 m13 hst13 hle13 hk13
          have hfr13 := hk13.fr (T' := [(20, _), (1, _), (4, _), (5, _), (6, _), (0, _), (7, _), (8, _), (11, _), (9, _), (10, _), (12, _), (16, _), (14, _), (15, _), (17, _), (18, _), (19, _), (136, _)]) (.old rfl rfl <| .old rfl rfl <| .old rfl rfl <| .old rfl rfl <| .old rfl rfl <| .old rfl rfl <| .old rfl rfl <| .old rfl rfl <| .old rfl rfl <| .old rfl rfl <| .old rfl rfl <| .old rfl rfl <| .old rfl rfl <| .old rfl rfl <| .old rfl rfl <| .old rfl rfl <| .old rfl rfl <| .old rfl rfl <| .new rfl <| .nil)
          replace h2 := h2.mono hle13
          replace hy2 := hy2.mono hle13
          replace hy4 := hy4.mono hle13
          replace hy12 := hy12.mono hle13
          replace hc := hc.mono hle13
          have hlh13 := hlh12.trans hle13
          clear hst12 hfr12 hk13
          refine hK44 _ _ ?_; try clear hK44 K44
          refine cond_any hfr13 rfl rfl (fun hb136 => ?_) (fun hb136 => ?_)
          · have := hno y hx hjy; simp at hb136 this; exact absurd hb136 this
          · refine wp_skip ?_
            refine hK43 _ _ ?_; try clear hK43 K43
            refine region_plain (fun h => by cases h) hst13 hfr13 (by kernel_rfl) (by kernel_rfl) (.cons rfl (ob_move rfl) <|
                .cons rfl (ob_add rfl rfl ⟨by omega, by omega⟩) <|
                .cons rfl (ob_assign rfl) <|
                .nil) ?_
            intro a14 w14 m14 hst14 hle14 hk14
            have hfr14 := hk14.fr (T' := [(1, _), (4, _), (5, _), (6, _), (0, _), (7, _), (8, _), (11, _), (9, _), (10, _), (12, _), (16, _), (14, _), (15, _), (17, _), (18, _), (19, _), (20, _)]) (.old rfl rfl <| .old rfl rfl <| .old rfl rfl <| .old rfl rfl <| .old rfl rfl <| .old rfl rfl <| .old rfl rfl <| .old rfl rfl <| .old rfl rfl <| .old rfl rfl <| .old rfl rfl <| .old rfl rfl <| .old rfl rfl <| .old rfl rfl <| .old rfl rfl <| .old rfl rfl <| .old rfl rfl <| .new rfl <| .nil)
            replace h2 := h2.mono hle14
            replace hy2 := hy2.mono hle14
            replace hy4 := hy4.mono hle14
            replace hy12 := hy12.mono hle14
            replace hc := hc.mono hle14
            have hlh14 := hlh13.trans hle14
            clear hst13 hfr13 hk14
            exact ⟨y + 1, m14, by show n2 - (y + 1) < n2 - y; omega, ⟨hst14, hlh14, hfr14.sub (.cons rfl <| .cons rfl <| .cons rfl <| .cons rfl <| .cons rfl <| .cons rfl <| .cons rfl <| .cons rfl <| .cons rfl <| .cons rfl <| .cons rfl <| .cons rfl <| .cons rfl <| .cons rfl <| .cons rfl <| .cons rfl <| .cons rfl <| .cons rfl <| .nil), ⟨by show y + 1 ≤ n2; omega, by omega⟩⟩⟩
        · refine wp_exit ?_
          refine hK38 _ _ ?_; try clear hK38 K38
          refine seq_any fun K45 hK45 => ?_
          refine region_plain (fun _ => mixed) hst12 hfr12 (by kernel_rfl) (by kernel_rfl) (.cons rfl (ob_move rfl) <|
              .cons rfl (ob_move rfl) <|
              .cons rfl (ob_loadLS' (j := 0) rfl rfl Try.isAgg26 Try.sizeOf26 rfl rfl) <|
              .cons rfl (ob_move rfl) <|
              .cons rfl (ob_add rfl rfl ⟨by omega, by omega⟩) <|
              .cons rfl (ob_call (φ := MP.mem (fun a => .agg #[.pointer a]) (fun a m => Chain m ((l6.take j).reverse.map RE.ve) a) (fun hm h => h.mono hm)) rfl (.cons rfl <| .cons rfl <| .nil) Try.call14 (fun w m hK => by exact FnG.mono ((drop_c (n := ((n2 - 1 - j : Nat) : Int) + 1) (KC.agree hK) (hy2.mono (KC.le hK)) ⟨by omega, by omega⟩).mono fun _ _ _ _ ⟨o, e, h⟩ => ⟨o, e, by rw [show (((n2 - 1 - j : Nat) : Int) + 1).toNat = n2 - 1 - j + 1 by omega, ← List.drop_drop, hdp] at h; exact h⟩) fun _ _ _ _ h => h)) <|
              .cons rfl (ob_imgE 142 rfl rfl rfl fun y142 => ob_call (φ := MP.mem (fun y : Option Addr × Nat => .slice y.1 ((l6.take j).reverse.map RE.ve).length y.2) (fun y m => Ints m y.1 ((l6.take j).reverse.map RE.ve).length y.2 (((l6.take j).reverse.map RE.ve).map VE.mrk)) (fun hm h => h.mono hm)) rfl (.cons rfl <| .nil) Try.call17 (fun w m hK => by exact FnG.mono ((markers_c (l := ((l6.take j).reverse.map RE.ve)) (KC.agree hK.1) hK.2 (by omega)).mono fun _ _ _ _ ⟨y, e, hr, hc⟩ => ⟨y, e, Ints.of_row (by simpa [Function.comp_def] using hr) (by simp) hc (by omega)⟩) fun _ _ _ _ h => h)) <|
              .cons rfl (ob_loadLS' (j := 1) rfl rfl Try.isAgg26 Try.sizeOf26 rfl rfl) <|
              .cons rfl (ob_call (φ := MP.mem (fun y : Option Addr × Nat => .slice y.1 ((l6.take j).reverse.map RE.ve).length y.2) (fun y m => Ints m y.1 ((l6.take j).reverse.map RE.ve).length y.2 (((l6.take j).reverse.map RE.ve).map VE.mrk)) (fun hm h => h.mono hm)) rfl (.cons rfl <| .nil) Try.call17 (fun w m hK => by exact FnG.mono ((markers_c (l := ((l6.take j).reverse.map RE.ve)) (KC.agree hK) (hy4.mono (KC.le hK)) (by omega)).mono fun _ _ _ _ ⟨y, e, hr, hc⟩ => ⟨y, e, Ints.of_row (by simpa [Function.comp_def] using hr) (by simp) hc (by omega)⟩) fun _ _ _ _ h => h)) <|
              .cons rfl (ob_imgE 143 rfl rfl rfl fun y143 => ob_imgE 145 rfl rfl rfl fun y145 => ob_callE rfl (.cons rfl <| .cons rfl <| .nil) Try.call16 (fun w m hK => by exact sameInts_c (KC.agree hK) hK.1.2 hK.2)) <|
              .cons rfl (ob_and rfl rfl rfl) <|
              .cons rfl (ob_assign rfl) <|
              .nil) ?_
          intro a13 w13 m13 hst13 hle13 hk13
          have hfr13 := hk13.fr (T' := [(20, _), (1, _), (5, _), (6, _), (0, _), (7, _), (8, _), (11, _), (9, _), (10, _), (12, _), (16, _), (14, _), (15, _), (17, _), (18, _), (19, _), (4, _)]) (.old rfl rfl <| .old rfl rfl <| .old rfl rfl <| .old rfl rfl <| .old rfl rfl <| .old rfl rfl <| .old rfl rfl <| .old rfl rfl <| .old rfl rfl <| .old rfl rfl <| .old rfl rfl <| .old rfl rfl <| .old rfl rfl <| .old rfl rfl <| .old rfl rfl <| .old rfl rfl <| .old rfl rfl <| .new rfl <| .nil)
          replace h2 := h2.mono hle13
          replace hy2 := hy2.mono hle13
          replace hy4 := hy4.mono hle13
          replace hy12 := hy12.mono hle13
          have hlh13 := hlh12.trans hle13
          clear hst12 hfr12 hk13
          refine hK45 _ _ ?_; try clear hK45 K45
          refine wp_ret ?_
          repeat (with_reducible first | refine then_ret ?_ | refine block_ret ?_)
          exact fn_ret hst13 hfr13 rfl (.tmp rfl <| .nil) (by simp [bundle])

end Go.Proofs.Ytibkcojlgbmlhaa
