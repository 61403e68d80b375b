/-
  The laws' functions. Conditions: those of each theorem.
-/
import Derived.Test.YtibkcojlgbmlhaaShared
import Derived.Test.YtibkcojlgbmlhaaMore
namespace Go.Proofs.Ytibkcojlgbmlhaa
open Go.RowKit

theorem same_true {w : World} {m : Mem} {o : Option Addr} {n c : Nat} {l : List RE} {a : Option Addr} {v : List VE} (hA : Agree w m) (h : Ents m o n c l) (hv : Chain m v a) (hl : n < 1000000000) (e : v.map VE.mrk = l.reverse.map RE.mrk) :
    FnV Try.prog 13 #[.agg #[.pointer a], .slice o n c] w m (fun _ _ r => r = .bool true) := by
  have hlen := h.len
  have h2 : v.length = n := by have := congrArg List.length e; simpa [hlen] using this
  refine (same_c hA h hv hl (by omega)).mono fun _ _ r _ hr => ?_
  rw [hr, h2, e]; simp
theorem mrk_ve (l : List RE) : (l.reverse.map RE.ve).map VE.mrk = l.reverse.map RE.mrk := by rw [List.map_map]; rfl
theorem rev_drop {α β : Type} (l : List α) (f : α → β) {i : Nat} (hi : i ≤ l.length) : (l.reverse.map f).drop (l.length - i) = (l.take i).reverse.map f := by
  rw [← List.map_drop, List.drop_reverse]; congr 3; omega
theorem last_cases {α : Type} (p : α → Bool) (l : List α) : ∀ k, k ≤ l.length →
    (lastIdx p l k = -1 ∧ (∀ i (h : i < l.length), i < k → p l[i] = false) ∧ (l.take k).reverse.dropWhile (fun x => !p x) = [] ∧ (l.take k).reverse.findIdx? p = none) ∨
    ∃ j, ∃ hj : j < l.length, j < k ∧ lastIdx p l k = j ∧ p l[j] = true ∧ (∀ i (h : i < l.length), j < i → i < k → p l[i] = false) ∧
      (l.take k).reverse.dropWhile (fun x => !p x) = l[j] :: (l.take j).reverse ∧ (l.take k).reverse.findIdx? p = some (k - 1 - j)
  | 0, _ => .inl ⟨rfl, fun i _ h => by omega, by simp, by simp⟩
  | k + 1, hk => by
    have hx : k < l.length := hk
    rw [← take_rev hx]
    cases hp : p l[k] with
    | true =>
      refine .inr ⟨k, hx, by omega, lastIdx_hit hx hp, hp, fun i _ h1 h2 => by omega, ?_, ?_⟩
      · simp [List.dropWhile, hp]
      · simp [List.findIdx?_cons, hp]
    | false =>
      rcases last_cases p l k (by omega) with ⟨h1, h2, h3, h4⟩ | ⟨j, hj, hjk, h1, h2, h3, h4, h5⟩
      · refine .inl ⟨by rw [lastIdx_miss hx hp, h1], fun i hi hik => ?_, ?_, ?_⟩
        · rcases Nat.lt_or_eq_of_le (Nat.le_of_lt_succ hik) with h | rfl
          · exact h2 i hi h
          · exact hp
        · simp only [List.dropWhile, hp]; exact h3
        · simp [List.findIdx?_cons, hp]; simpa using h4
      · refine .inr ⟨j, hj, by omega, by rw [lastIdx_miss hx hp, h1], h2, fun i hi h6 hik => ?_, ?_, ?_⟩
        · rcases Nat.lt_or_eq_of_le (Nat.le_of_lt_succ hik) with h | rfl
          · exact h3 i hi h6 h
          · exact hp
        · simp only [List.dropWhile, hp]; exact h4
        · rw [List.findIdx?_cons, hp, h5]; simp; omega
/-- What the reference's last place says of the vector that was built of l. -/
theorem ve_cases (q : RE → Bool) (r : VE → Bool) (hr : ∀ x, r x.ve = q x) (l : List RE) :
    (lastIdx q l l.length = -1 ∧ (∀ i (h : i < l.length), q l[i] = false) ∧ (l.reverse.map RE.ve).dropWhile (fun x => !r x) = [] ∧ (l.reverse.map RE.ve).findIdx? r = none) ∨
    ∃ j, ∃ hj : j < l.length, lastIdx q l l.length = j ∧ q l[j] = true ∧ (∀ i (h : i < l.length), j < i → q l[i] = false) ∧
      (l.reverse.map RE.ve).dropWhile (fun x => !r x) = l[j].ve :: (l.take j).reverse.map RE.ve ∧ (l.reverse.map RE.ve).findIdx? r = some (l.length - 1 - j) := by
  have e1 : (l.reverse.map RE.ve).dropWhile (fun x => !r x) = (l.reverse.dropWhile fun x => !q x).map RE.ve := by
    rw [List.dropWhile_map]; congr 2; funext x; simp [hr]
  have e2 : (l.reverse.map RE.ve).findIdx? r = l.reverse.findIdx? q := by
    rw [List.findIdx?_map]; congr 1; funext x; simp [hr]
  rw [e1, e2]
  have := last_cases q l l.length (Nat.le_refl _)
  rw [List.take_length] at this
  rcases this with ⟨h1, h2, h3, h4⟩ | ⟨j, hj, hjk, h1, h2, h3, h4, h5⟩
  · exact .inl ⟨h1, fun i h => h2 i h h, by rw [h3]; rfl, h4⟩
  · exact .inr ⟨j, hj, h1, h2, fun i h hji => h3 i h hji h, by rw [h4]; rfl, h5⟩
theorem rev_drop' {α β : Type} (l : List α) (f : α → β) (p : Nat) : (l.reverse.map f).drop p = (l.take (l.length - p)).reverse.map f := by
  rw [← List.map_drop, List.drop_reverse]
theorem drop_at {l : List RE} {i : Nat} (hi : i < l.length) : (l.reverse.map RE.ve).drop (l.length - 1 - i) = RE.ve l[i] :: (l.take i).reverse.map RE.ve := by
  rw [rev_drop', show l.length - (l.length - 1 - i) = i + 1 by omega, ← take_rev hi]; rfl
theorem built_c' {w : World} {m : Mem} {o : Option Addr} {n c n2 : Nat} {l l6 : List RE} (hA : Agree w m) (h : Ents m o n c l) (e1 : n2 = min n 60) (e2 : l6 = l.take 60) :
    FnV Try.prog 9 #[.slice o n c] w m (fun _ m r => ∃ y : Option Addr × Option Addr × Nat, r = .tuple #[.agg #[.pointer y.1], .slice y.2.1 n2 y.2.2] ∧ Chain m (l6.reverse.map RE.ve) y.1 ∧ Ents m y.2.1 n2 y.2.2 l6) := by
  subst e1; subst e2; exact built_c hA h
set_option maxHeartbeats 400000 in
theorem shown_c {w : World} {m : Mem} (hA : Agree w m) :
    FnV Try.prog 8 #[] w m (fun _ _ v => v = .bool true) := by
  refine fn_enter (vs := []) Try.func8 rfl rfl rfl fun a0 hfr0 => ?_
  have hst0 := st_enter hA (loc_nil [] _ w m)
  refine seq_any fun K1 hK1 => ?_
  refine region_plain (fun h => by cases h) hst0 hfr0 (by kernel_rfl) (by kernel_rfl) (.cons rfl (ob_assign rfl) <|
      .nil) ?_
  intro a1 w1 m1 hst1 hle1 hk1
  have hfr1 := hk1.fr (T' := [(0, _)]) (.new rfl <| .nil)
  clear hst0 hfr0 hk1
  refine hK1 _ _ ?_; try clear hK1 K1
  refine seq_any fun K2 hK2 => ?_
  replace hst1 := hst1.more (r := .free) trivial List.nodup_nil (by simp [Res.blocks])
  refine region_any (tch := [(0, 0, (fun v => .blk v _))]) (fun h => by cases h) hst1 hfr1 (by kernel_rfl) (by kernel_rfl) (by kernel_rfl) (.consT rfl rfl (fun _ => rfl) rfl (ob_allocL Try.zeroValue26 rfl) <|
      .nil) ?_
  intro a2 w2 m2 hst2 hle2 hk2
  have hfr2 := hk2.fr (T' := [(0, _)]) (.old rfl rfl <| .nil)
  obtain ⟨g3, e3, _⟩ := hk2.ex 1 rfl
  replace hfr2 := hfr2.cons e3
  replace hst2 := hst2.fin (L' := [_]) (.cons e3 <| .nil)
  clear hst1 hfr1 hk2
  refine hK2 _ _ ?_; try clear hK2 K2
  refine seq_any fun K4 hK4 => ?_
  replace hst2 := hst2.more (r := .free) trivial List.nodup_nil (by simp [Res.blocks])
  refine region_any (tch := [(4, 1, (fun v => .blk v _)), (5, 1, (fun v => .blkx v _ _))]) (fun h => by cases h) hst2 hfr2 (by kernel_rfl) (by kernel_rfl) (by kernel_rfl) (.cons rfl (ob_loadLS' (j := 0) rfl rfl Try.isAgg26 Try.sizeOf26 rfl rfl) <|
      .cons rfl (ob_call (φ := MP.mem (fun a => .agg #[.pointer a]) (fun a m => Chain m ([⟨[69], 1, S [97]⟩] : List VE) a) (fun hm h => h.mono hm)) rfl (.cons rfl <| .cons rfl <| .cons rfl <| .cons rfl <| .nil) Try.call10 (fun w m hK => by exact FnG.mono (push_c (e := [69]) (n := 1) (k := [97]) (l := []) (KC.agree hK) rfl (by simp)) fun _ _ _ _ h => h)) <|
      .cons rfl (ob_imgE 14 rfl rfl rfl fun y14 => ob_call (φ := MP.mem (fun a => .agg #[.pointer a]) (fun a m => Chain m ([⟨[70], 2, S [98]⟩, ⟨[69], 1, S [97]⟩] : List VE) a) (fun hm h => h.mono hm)) rfl (.cons rfl <| .cons rfl <| .cons rfl <| .cons rfl <| .nil) Try.call10 (fun w m hK => by exact FnG.mono (push_c (e := [70]) (n := 2) (k := [98]) (KC.agree hK.1) hK.2 (by simp)) fun _ _ _ _ h => h)) <|
      .cons rfl (ob_imgE 15 rfl rfl rfl fun y15 => ob_call (φ := MP.mem (fun a => .agg #[.pointer a]) (fun a m => Chain m ([⟨[69], 3, S [99]⟩, ⟨[70], 2, S [98]⟩, ⟨[69], 1, S [97]⟩] : List VE) a) (fun hm h => h.mono hm)) rfl (.cons rfl <| .cons rfl <| .cons rfl <| .cons rfl <| .nil) Try.call10 (fun w m hK => by exact FnG.mono (push_c (e := [69]) (n := 3) (k := [99]) (KC.agree hK.1) hK.2 (by simp)) fun _ _ _ _ h => h)) <|
      .consT rfl rfl (fun _ => rfl) rfl (ob_allocL Try.zeroValue26 rfl) <|
      .consT rfl rfl (fun _ => rfl) rfl (ob_imgT 2 rfl rfl rfl fun y2 => ob_imgTX 16 rfl rfl rfl fun y16 => ob_storeF rfl rfl rfl rfl Try.sizeOf26 rfl rfl rfl) <|
      .nil) ?_
  intro a3 w3 m3 hst3 hle3 hk3
  have hfr3 := hk3.fr (T' := [(0, _), (1, _)]) (.old rfl rfl <| .old rfl rfl <| .nil)
  obtain ⟨g5, e5, _⟩ := hk3.ex 2 rfl
  replace hfr3 := hfr3.cons e5
  replace hst3 := hst3.fin (L' := [_, _]) (.cons e5 <| .cons e5 <| .nil)
  obtain ⟨y2, hy2, hst3⟩ := hst3.unx (k := 1) rfl (fun _ => rfl)
  clear hst2 hfr2 hk3
  refine hK4 _ _ ?_; try clear hK4 K4
  refine seq_any fun K7 hK7 => ?_
  replace hst3 := hst3.more (r := .free) trivial List.nodup_nil (by simp [Res.blocks])
  refine region_any (tch := [(7, 2, (fun v => .blk v _)), (10, 2, (fun v => .blkx v _ _))]) (fun h => by cases h) hst3 hfr3 (by kernel_rfl) (by kernel_rfl) (by kernel_rfl) (.cons rfl (ob_loadLS' (j := 1) rfl rfl Try.isAgg26 Try.sizeOf26 rfl rfl) <|
      .cons rfl (ob_call (φ := MP.mem (fun o => .tuple #[S [99], .int .i64 3, .agg #[.pointer o], .bool true]) (fun o m => Chain m ([⟨[70], 2, S [98]⟩, ⟨[69], 1, S [97]⟩] : List VE) o) (fun hm h => h.mono hm)) rfl (.cons rfl <| .cons rfl <| .nil) Try.call11 (fun w m hK => by exact FnG.mono (find_some (e := [69]) (x := ⟨[69], 3, S [99]⟩) (xs := ([⟨[70], 2, S [98]⟩, ⟨[69], 1, S [97]⟩] : List VE)) (KC.agree hK) (hy2.mono (KC.le hK)) rfl) fun _ _ _ _ h => h)) <|
      .cons rfl (ob_imgV 19 rfl rfl rfl fun y19 => ob_move rfl) <|
      .cons rfl (ob_imgV 17 rfl rfl rfl fun y17 => ob_extract rfl rfl) <|
      .cons rfl (ob_imgV 17 rfl rfl rfl fun y17 => ob_extract rfl rfl) <|
      .cons rfl (ob_imgV 17 rfl rfl rfl fun y17 => ob_extract rfl rfl) <|
      .cons rfl (ob_imgV 17 rfl rfl rfl fun y17 => ob_extract rfl rfl) <|
      .consT rfl rfl (fun _ => rfl) rfl (ob_allocL Try.zeroValue26 rfl) <|
      .consA 20 rfl rfl <|
      .consA 21 rfl rfl <|
      .consT rfl rfl (fun _ => rfl) rfl (ob_imgT 5 rfl rfl rfl fun y5 => ob_imgTX 22 rfl rfl rfl fun y22 => ob_storeF rfl rfl rfl rfl Try.sizeOf26 rfl rfl rfl) <|
      .consA 23 rfl rfl <|
      .nil) ?_
  intro a4 w4 m4 hst4 hle4 hk4
  have hfr4 := hk4.fr (T' := [(0, _), (1, _), (2, _)]) (.old rfl rfl <| .old rfl rfl <| .old rfl rfl <| .nil)
  obtain ⟨y8, e8, hy8⟩ := hk4.ex 20 rfl
  replace hfr4 := hfr4.cons e8
  obtain ⟨y9, e9, hy9⟩ := hk4.ex 21 rfl
  replace hfr4 := hfr4.cons e9
  obtain ⟨y10, e10, hy10⟩ := hk4.ex 23 rfl
  replace hfr4 := hfr4.cons e10
  obtain ⟨g11, e11, _⟩ := hk4.ex 5 rfl
  replace hfr4 := hfr4.cons e11
  replace hfr4 := hfr4.cons (hk4.same 3 rfl e8)
  replace hfr4 := hfr4.cons (hk4.same 4 rfl e9)
  replace hfr4 := hfr4.cons (hk4.same 6 rfl e10)
  replace hst4 := hst4.fin (L' := [_, _, _]) (.cons e11 <| .cons e11 <| .nil)
  obtain ⟨y3, hy3, hst4⟩ := hst4.unx (k := 2) rfl (fun _ => rfl)
  replace hy2 := hy2.mono hle4
  clear hst3 hfr3 hk4
  refine hK7 _ _ ?_; try clear hK7 K7
  refine seq_any fun K13 hK13 => ?_
  replace hst4 := hst4.more (r := .free) trivial List.nodup_nil (by simp [Res.blocks])
  refine region_any (tch := [(7, 3, (fun v => .blk v _)), (10, 3, (fun v => .blk v _))]) (fun h => by cases h) hst4 hfr4 (by kernel_rfl) (by kernel_rfl) (by kernel_rfl) (.cons rfl (ob_loadLS' (j := 1) rfl rfl Try.isAgg26 Try.sizeOf26 rfl rfl) <|
      .cons rfl (ob_callE rfl (.cons rfl <| .cons rfl <| .nil) Try.call11 (fun w m hK => by exact find_none (e := [71]) (KC.agree hK) (hy2.mono (KC.le hK)) rfl)) <|
      .cons rfl (ob_move rfl) <|
      .cons rfl (ob_extract rfl rfl) <|
      .cons rfl (ob_extract rfl rfl) <|
      .cons rfl (ob_extract rfl rfl) <|
      .cons rfl (ob_extract rfl rfl) <|
      .consT rfl rfl (fun _ => rfl) rfl (ob_allocL Try.zeroValue26 rfl) <|
      .cons rfl (ob_assign rfl) <|
      .cons rfl (ob_assign rfl) <|
      .consT rfl rfl (fun _ => rfl) rfl (ob_imgT 9 rfl rfl rfl fun y9 => ob_storeF rfl rfl rfl rfl Try.sizeOf26 rfl rfl rfl) <|
      .cons rfl (ob_assign rfl) <|
      .nil) ?_
  intro a5 w5 m5 hst5 hle5 hk5
  have hfr5 := hk5.fr (T' := [(0, _), (1, _), (2, _), (5, _), (3, _), (4, _), (6, _), (10, _)]) (.old rfl rfl <| .old rfl rfl <| .old rfl rfl <| .old rfl rfl <| .old rfl rfl <| .old rfl rfl <| .old rfl rfl <| .new rfl <| .nil)
  obtain ⟨g14, e14, _⟩ := hk5.ex 9 rfl
  replace hfr5 := hfr5.cons e14
  replace hst5 := hst5.fin (L' := [_, _, _, _]) (.cons e14 <| .cons e14 <| .nil)
  replace hy2 := hy2.mono hle5
  replace hy3 := hy3.mono hle5
  clear hst4 hfr4 hk5
  refine hK13 _ _ ?_; try clear hK13 K13
  refine seq_any fun K15 hK15 => ?_
  refine region_plain (fun h => by cases h) hst5 hfr5 (by kernel_rfl) (by kernel_rfl) (.cons rfl (ob_loadLS' (j := 1) rfl rfl Try.isAgg26 Try.sizeOf26 rfl rfl) <|
      .cons rfl (ob_callE rfl (.cons rfl <| .cons rfl <| .nil) Try.call12 (fun w m hK => by exact (show FnV Try.prog _ _ _ _ (fun _ _ v => v = .tuple #[.int .i64 1, .bool true]) from first_c (l := ([⟨[69], 3, S [99]⟩, ⟨[70], 2, S [98]⟩, ⟨[69], 1, S [97]⟩] : List VE)) (e := [70]) (KC.agree hK) (hy2.mono (KC.le hK)) (by simp)))) <|
      .cons rfl (ob_move rfl) <|
      .cons rfl (ob_extract rfl rfl) <|
      .cons rfl (ob_extract rfl rfl) <|
      .cons rfl (ob_assign rfl) <|
      .cons rfl (ob_assign rfl) <|
      .nil) ?_
  intro a6 w6 m6 hst6 hle6 hk6
  have hfr6 := hk6.fr (T' := [(0, _), (1, _), (2, _), (5, _), (3, _), (4, _), (6, _), (10, _), (11, _), (12, _)]) (.old rfl rfl <| .old rfl rfl <| .old rfl rfl <| .old rfl rfl <| .old rfl rfl <| .old rfl rfl <| .old rfl rfl <| .old rfl rfl <| .new rfl <| .new rfl <| .nil)
  replace hy2 := hy2.mono hle6
  replace hy3 := hy3.mono hle6
  clear hst5 hfr5 hk6
  refine hK15 _ _ ?_; try clear hK15 K15
  refine seq_any fun K16 hK16 => ?_
  refine region_plain (fun h => by cases h) hst6 hfr6 (by kernel_rfl) (by kernel_rfl) (.cons rfl (ob_move rfl) <|
      .cons rfl (ob_seql rfl rfl) <|
      .cons rfl (ob_move rfl) <|
      .cons rfl (ob_move rfl) <|
      .cons rfl (ob_eql rfl rfl) <|
      .cons rfl (ob_and rfl rfl rfl) <|
      .cons rfl (ob_move rfl) <|
      .cons rfl (ob_loadLS' (j := 2) rfl rfl Try.isAgg26 Try.sizeOf26 rfl rfl) <|
      .cons rfl (ob_callE rfl (.cons rfl <| .nil) Try.call15 (fun w m hK => by exact len_c (l := ([⟨[70], 2, S [98]⟩, ⟨[69], 1, S [97]⟩] : List VE)) (KC.agree hK) (hy3.mono (KC.le hK)))) <|
      .cons rfl (ob_eql rfl rfl) <|
      .cons rfl (ob_and rfl rfl rfl) <|
      .cons rfl (ob_move rfl) <|
      .cons rfl (ob_move rfl) <|
      .cons rfl (ob_and rfl rfl rfl) <|
      .cons rfl (ob_move rfl) <|
      .cons rfl (ob_move rfl) <|
      .cons rfl (ob_not rfl) <|
      .cons rfl (ob_and rfl rfl rfl) <|
      .cons rfl (ob_move rfl) <|
      .cons rfl (ob_loadLS' (j := 1) rfl rfl Try.isAgg26 Try.sizeOf26 rfl rfl) <|
      .cons rfl (ob_callE rfl (.cons rfl <| .nil) Try.call15 (fun w m hK => by exact len_c (l := ([⟨[69], 3, S [99]⟩, ⟨[70], 2, S [98]⟩, ⟨[69], 1, S [97]⟩] : List VE)) (KC.agree hK) (hy2.mono (KC.le hK)))) <|
      .cons rfl (ob_eql rfl rfl) <|
      .cons rfl (ob_and rfl rfl rfl) <|
      .cons rfl (ob_move rfl) <|
      .cons rfl (ob_loadLS' (j := 0) rfl rfl Try.isAgg26 Try.sizeOf26 rfl rfl) <|
      .cons rfl (ob_callE rfl (.cons rfl <| .nil) Try.call15 (fun w m hK => by exact len_c (l := []) (KC.agree hK) rfl)) <|
      .cons rfl (ob_eql rfl rfl) <|
      .cons rfl (ob_and rfl rfl rfl) <|
      .cons rfl (ob_move rfl) <|
      .cons rfl (ob_move rfl) <|
      .cons rfl (ob_eql rfl rfl) <|
      .cons rfl (ob_and rfl rfl rfl) <|
      .cons rfl (ob_move rfl) <|
      .cons rfl (ob_move rfl) <|
      .cons rfl (ob_and rfl rfl rfl) <|
      .cons rfl (ob_move rfl) <|
      .cons rfl (ob_loadLS' (j := 1) rfl rfl Try.isAgg26 Try.sizeOf26 rfl rfl) <|
      .cons rfl (ob_call (φ := MP.mem (fun a => .agg #[.pointer a]) (fun a m => Chain m ([⟨[69], 1, S [97]⟩] : List VE) a) (fun hm h => h.mono hm)) rfl (.cons rfl <| .cons rfl <| .nil) Try.call14 (fun w m hK => by exact FnG.mono (drop_c (n := 2) (KC.agree hK) (hy2.mono (KC.le hK)) ⟨by omega, by omega⟩) fun _ _ _ _ h => h)) <|
      .cons rfl (ob_imgE 73 rfl rfl rfl fun y73 => ob_callE rfl (.cons rfl <| .nil) Try.call15 (fun w m hK => by exact len_c (l := ([⟨[69], 1, S [97]⟩] : List VE)) (KC.agree hK.1) hK.2)) <|
      .cons rfl (ob_eql rfl rfl) <|
      .cons rfl (ob_and rfl rfl rfl) <|
      .cons rfl (ob_assign rfl) <|
      .nil) ?_
  intro a7 w7 m7 hst7 hle7 hk7
  have hfr7 := hk7.fr (T' := [(1, _), (2, _), (5, _), (3, _), (4, _), (6, _), (10, _), (11, _), (12, _), (0, _)]) (.old rfl rfl <| .old rfl rfl <| .old rfl rfl <| .old rfl rfl <| .old rfl rfl <| .old rfl rfl <| .old rfl rfl <| .old rfl rfl <| .old rfl rfl <| .new rfl <| .nil)
  replace hy2 := hy2.mono hle7
  replace hy3 := hy3.mono hle7
  clear hst6 hfr6 hk7
  refine hK16 _ _ ?_; try clear hK16 K16
  refine wp_ret ?_
  repeat (with_reducible first | refine then_ret ?_ | refine block_ret ?_)
  exact fn_ret hst7 hfr7 rfl (.tmp rfl <| .nil) (rfl)

end Go.Proofs.Ytibkcojlgbmlhaa
