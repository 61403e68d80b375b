/-
  Package types: variables of a type. Conditions: those of each theorem.
-/
import Derived.Test.YtembdjghbphcdaaDoorSlices1
import Derived.Test.YtembdjghbphcdaaDoorMulti
namespace Go.Proofs.YtembdjghbphcdaaDoor
set_option linter.all false
set_option maxRecDepth 4000
open Go.RowKit
theorem withI_in {l : List Int} {x : Int} (h : x ∈ l) : withI l x = l := by unfold withI; rw [if_pos (by simpa using h)]
theorem withI_out {l : List Int} {x : Int} (h : ¬ x ∈ l) : withI l x = l ++ [x] := by unfold withI; rw [if_neg (by simpa using h)]
theorem withI_len (l : List Int) (x : Int) : (withI l x).length ≤ l.length + 1 := by unfold withI; split <;> simp
theorem foldl_withI_len : ∀ (ks a : List Int), (ks.foldl withI a).length ≤ a.length + ks.length
  | [], a => by simp
  | k :: ks, a => by have := foldl_withI_len ks (withI a k); have := withI_len a k; simp only [List.foldl_cons, List.length_cons]; omega
set_option maxHeartbeats 400000 in
theorem with_g {w : World} {m : Mem} {v : Value} {a : List Int} {o_ks : Option Addr} {c_ks : Nat} {ks : List Int} (hA : Agree w m) (hr : (Res.row v (a).length 1 3 ((a).map intV)).holds w m) (h_ks : Ints m o_ks ks.length c_ks ks) (hbig : a.length + ks.length ≤ 1073741824) : FnG Tryd.prog 56 #[v, .slice o_ks ks.length c_ks] (Res.row v (a).length 1 3 ((a).map intV)).blocks w m (fun w' m' v' => Loc (Res.row v (a).length 1 3 ((a).map intV)).blocks w.heap.size [.row v' (ks.foldl withI a).length 1 3 ((ks.foldl withI a).map intV)] w' m' ∧ (MP.sl (ks.foldl withI a).length ((ks.foldl withI a).map intV)).p m' v') := by
  have hrr := hr
  obtain ⟨o0, c0, rfl, hrow0, hcap0, hmx0, hl0⟩ := Res.row_at hrr
  have hb_ks := h_ks.big; have hc_ks := h_ks.cap
  refine fn_enter (vs := [_, _]) Tryd.func56 rfl rfl rfl fun a0 hfr0 => ?_
  have hst0 := st_enter hA (loc_one hr (row_nodup _ _ _ _ _))
  have hM : MLe m m := MLe.refl m
  have hrow_r := hrow0
  refine seq_any fun K1 hK1 => ?_
  refine region_plain (fun h => by cases h) hst0 hfr0 (by kernel_rfl) (by kernel_rfl) (.cons rfl (ob_assign rfl) <|
      .nil) ?_
  intro a1 w1 m1 hst1 hle1 hk1
  have hfr1 := hk1.fr (T' := [(0, _), (1, _), (4, _)]) (.old rfl rfl <| .old rfl rfl <| .new rfl <| .nil)
  replace h_ks := h_ks.mono hle1
  replace hrow_r := hrow_r.mono hle1
  replace hM := hM.trans hle1
  clear hst0 hfr0 hk1
  refine hK1 _ _ ?_; try clear hK1 K1
  refine seq_any fun K2 hK2 => ?_
  refine seq_any fun K3 hK3 => ?_
  refine region_plain (fun h => by cases h) hst1 hfr1 (by kernel_rfl) (by kernel_rfl) (.cons rfl (ob_move rfl) <|
      .cons rfl (ob_len rfl Tryd.underlying35) <|
      .cons rfl (ob_move rfl) <|
      .nil) ?_
  intro a2 w2 m2 hst2 hle2 hk2
  have hfr2 := hk2.fr (T' := [(0, _), (1, _), (4, _), (7, _), (8, _), (9, _)]) (.old rfl rfl <| .old rfl rfl <| .old rfl rfl <| .new rfl <| .new rfl <| .new rfl <| .nil)
  replace h_ks := h_ks.mono hle2
  replace hrow_r := hrow_r.mono hle2
  replace hM := hM.trans hle2
  clear hst1 hfr1 hk2
  refine hK3 _ _ ?_; try clear hK3 K3
  refine wp_block ?_
  refine loop_any (T := [(1, _), (4, _), (7, _), (8, _)]) (fun (y : Nat × List Int × Option Addr × Nat) => ([(0, .slice y.2.2.1 y.2.1.length y.2.2.2), (9, .int .i64 (y.1 : Int))] : List (Nat × Value))) (fun y => [.row (.slice y.2.2.1 y.2.1.length y.2.2.2) (y.2.1).length 1 3 ((y.2.1).map intV)]) (fun (y : Nat × List Int × Option Addr × Nat) m => (fun (y : Nat) (aa : List Int) (ro : Option Addr) (rp : Nat) => y ≤ ks.length ∧ ks.foldl withI a = (ks.drop y).foldl withI aa ∧ RowAt m ro (aa.map intV) ∧ aa.length ≤ rp ∧ aa.length ≤ a.length + y) y.1 y.2.1 y.2.2.1 y.2.2.2) (fun y => ks.length - y.1) ((0, a, o0, c0)) ⟨hst2, MLe.refl _, hfr2.sub (.cons rfl <| .cons rfl <| .cons rfl <| .cons rfl <| .cons rfl <| .cons rfl <| .nil), ⟨Nat.zero_le _, rfl, hrow_r, hcap0, Nat.le_refl _⟩⟩ fun y a3 w3 m3 hh3 => ?_
  have hst3 := hh3.st; have hle3 := hh3.le; have hfr3 := hh3.fr; have hrel := hh3.rel; clear hh3
  replace h_ks := h_ks.mono hle3
  replace hrow_r := hrow_r.mono hle3
  clear hst2 hfr2
  replace hM := hM.trans hle3
  obtain ⟨y, aa, ro, rp⟩ := y
  dsimp only at hrel hfr3 hst3
  obtain ⟨hyn, hrem, hrow_r, hcap_r, haal⟩ := hrel
  have hlh3 := hle3
  refine seq_any fun K5 hK5 => ?_
  refine region_plain (fun h => by cases h) hst3 hfr3 (by kernel_rfl) (by kernel_rfl) (.cons rfl (ob_lss rfl rfl) <|
      .nil) ?_
  intro a4 w4 m4 hst4 hle4 hk4
  have hfr4 := hk4.fr (T' := [(0, _), (9, _), (1, _), (4, _), (7, _), (8, _), (10, _)]) (.old rfl rfl <| .old rfl rfl <| .old rfl rfl <| .old rfl rfl <| .old rfl rfl <| .old rfl rfl <| .new rfl <| .nil)
  replace h_ks := h_ks.mono hle4
  replace hrow_r := hrow_r.mono hle4
  have hlh4 := hlh3.trans hle4
  replace hM := hM.trans hle4
  clear hst3 hfr3 hk4
  refine hK5 _ _ ?_; try clear hK5 K5
  refine seq_any fun K6 hK6 => ?_
  refine cond_any hfr4 rfl rfl (fun hb10 => ?_) (fun hb10 => ?_)
  · try simp only [Bool.not_eq_true', Bool.not_eq_false', decide_eq_true_eq, decide_eq_false_iff_not, Bool.and_eq_true, Bool.or_eq_true, Bool.and_eq_false_iff, Bool.or_eq_false_iff, Bool.not_not, u8_eq] at hb10
    refine wp_skip ?_
    refine hK6 _ _ ?_; try clear hK6 K6
    refine seq_any fun K7 hK7 => ?_
    refine wp_block ?_
    refine seq_any fun K8 hK8 => ?_
    obtain ⟨p9, vs9, x9, ho9, hd9, hm_x9, ht9, hcv9, hl9, hv9⟩ := h_ks.nth (k := y) (by omega)
    cases ho9
    subst hv9
    refine region_plain (fun h => by cases h) hst4 hfr4 (by kernel_rfl) (by kernel_rfl) (.cons rfl (ob_indexAddr (k := y) rfl rfl Tryd.underlying35 Tryd.sizeOf3 rfl (by omega)) <|
        .cons rfl (ob_load1' rfl hcv9 Tryd.isAgg3 rfl) <|
        .cons rfl (ob_assign rfl) <|
        .nil) ?_
    intro a5 w5 m5 hst5 hle5 hk5
    have hfr5 := hk5.fr (T' := [(0, _), (9, _), (1, _), (4, _), (7, _), (8, _), (6, _)]) (.old rfl rfl <| .old rfl rfl <| .old rfl rfl <| .old rfl rfl <| .old rfl rfl <| .old rfl rfl <| .new rfl <| .nil)
    replace h_ks := h_ks.mono hle5
    replace hrow_r := hrow_r.mono hle5
    replace hcv9 := hcv9.mono hle5
    have hlh5 := hlh4.trans hle5
    replace hM := hM.trans hle5
    clear hst4 hfr4 hk5
    refine hK8 _ _ ?_; try clear hK8 K8
    refine seq_any fun K10 hK10 => ?_
    have hiA : Ints m5 ro aa.length rp aa := Ints.of_row (by simpa [intV] using hrow_r) rfl hcap_r (by omega)
    refine region_plain (fun h => by cases h) hst5 hfr5 (by kernel_rfl) (by kernel_rfl) (.cons rfl (ob_move rfl) <|
        .cons rfl (ob_move rfl) <|
        .cons rfl (ob_callE rfl (.cons rfl <| .cons rfl <| .nil) Tryd.call53 (fun w m hK => by have hle_ := KC.le hK; have hA := KC.agree hK; have hM := hM.trans hle_; have hiA := hiA.mono hle_; exact containsI_c hA hiA)) <|
        .cons rfl (ob_not rfl) <|
        .nil) ?_
    intro a6 w6 m6 hst6 hle6 hk6
    have hfr6 := hk6.fr (T' := [(0, _), (9, _), (1, _), (4, _), (7, _), (8, _), (6, _), (16, _)]) (.old rfl rfl <| .old rfl rfl <| .old rfl rfl <| .old rfl rfl <| .old rfl rfl <| .old rfl rfl <| .old rfl rfl <| .new rfl <| .nil)
    replace h_ks := h_ks.mono hle6
    replace hrow_r := hrow_r.mono hle6
    replace hcv9 := hcv9.mono hle6
    replace hiA := hiA.mono hle6
    have hlh6 := hlh5.trans hle6
    replace hM := hM.trans hle6
    clear hst5 hfr5 hk6
    refine hK10 _ _ ?_; try clear hK10 K10
    refine cond_any hfr6 rfl rfl (fun hb16 => ?_) (fun hb16 => ?_)
    · try simp only [Bool.not_eq_true', Bool.not_eq_false', decide_eq_true_eq, decide_eq_false_iff_not, Bool.and_eq_true, Bool.or_eq_true, Bool.and_eq_false_iff, Bool.or_eq_false_iff, Bool.not_not, u8_eq] at hb16
      have hwi := withI_out hb16
      refine region_any (tch := [(3, 0, (fun v => .row v _ _ _ _))]) (fun h => by cases h) hst6 hfr6 (by kernel_rfl) (by kernel_rfl) (by kernel_rfl) (.cons rfl (ob_move rfl) <|
          .cons rfl (ob_move rfl) <|
          .cons rfl (ob_buildSlice (.cons rfl <| .nil) Tryd.underlying35 Tryd.sizeOf3 Tryd.zeroValue3 rfl rfl rfl rfl) <|
          .consT rfl rfl (fun _ => rfl) rfl (ob_imgT 19 rfl rfl rfl fun y19 => ob_append (size := 1) (bytes := 8) rfl rfl Tryd.underlying35 Tryd.type3 rfl rfl rfl rfl (fun w m hK => .inr ⟨_, rfl, hK.2⟩) rfl (by decide) rfl (by simp only [maxLen]; omega) (by omega)) <|
          .consA 20 rfl rfl <|
          .nil) ?_
      intro a7 w7 m7 hst7 hle7 hk7
      have hfr7 := hk7.fr (T' := [(9, _), (1, _), (4, _), (7, _), (8, _), (6, _)]) (.old rfl rfl <| .old rfl rfl <| .old rfl rfl <| .old rfl rfl <| .old rfl rfl <| .old rfl rfl <| .nil)
      obtain ⟨⟨ro2, rp2⟩, e11, hrow2_r, hcap2_r⟩ := hk7.ex 20 rfl
      replace hfr7 := hfr7.cons e11
      replace hfr7 := hfr7.cons (hk7.same 0 rfl e11)
      replace hst7 := hst7.fin (L' := [_]) (.cons e11 <| .nil)
      replace h_ks := h_ks.mono hle7
      replace hrow_r := hrow_r.mono hle7
      replace hcv9 := hcv9.mono hle7
      replace hiA := hiA.mono hle7
      have hlh7 := hlh6.trans hle7
      replace hM := hM.trans hle7
      clear hst6 hfr6 hk7
      have hcap9 : (withI aa x9).length ≤ rp2 := by rw [hwi]; simpa using hcap2_r
      have e9 : aa.map intV ++ [Value.int .i64 x9] = (withI aa x9).map intV := by rw [hwi]; simp
      have e8 : aa.length + 1 = (withI aa x9).length := by rw [hwi]; simp
      have hrow9 : RowAt m7 ro2 ((withI aa x9).map intV) := by rw [← e9]; exact hrow2_r
      change St _ _ _ [.row _ (aa.length + 1) 1 3 (aa.map intV ++ [Value.int .i64 x9])] _ _ at hst7
      rw [e9, e8] at hst7
      rw [e8] at hfr7
      refine hK7 _ _ ?_; try clear hK7 K7
      refine region_plain (fun h => by cases h) hst7 hfr7 (by kernel_rfl) (by kernel_rfl) (.cons rfl (ob_add rfl rfl ⟨by omega, by omega⟩) <|
          .cons rfl (ob_move rfl) <|
          .nil) ?_
      intro a8 w8 m8 hst8 hle8 hk8
      have hfr8 := hk8.fr (T' := [(1, _), (4, _), (7, _), (8, _), (6, _), (0, _), (9, _)]) (.old rfl rfl <| .old rfl rfl <| .old rfl rfl <| .old rfl rfl <| .old rfl rfl <| .old rfl rfl <| .new rfl <| .nil)
      replace h_ks := h_ks.mono hle8
      replace hrow_r := hrow_r.mono hle8
      replace hcv9 := hcv9.mono hle8
      replace hiA := hiA.mono hle8
      replace hrow2_r := hrow2_r.mono hle8
      replace hrow9 := hrow9.mono hle8
      have hlh8 := hlh7.trans hle8
      replace hM := hM.trans hle8
      clear hst7 hfr7 hk8
      exact ⟨(y + 1, withI aa x9, _, _), m8, by show ks.length - (y + 1) < ks.length - y; omega, ⟨hst8, hlh8, hfr8.sub (.cons rfl <| .cons rfl <| .cons rfl <| .cons rfl <| .cons rfl <| .cons rfl <| .nil), ⟨by show y + 1 ≤ ks.length; omega, by rw [hrem, hd9]; rfl, hrow9, hcap9, by have := withI_len aa x9; show (withI aa x9).length ≤ a.length + (y + 1); omega⟩⟩⟩
    · try simp only [Bool.not_eq_true', Bool.not_eq_false', decide_eq_true_eq, decide_eq_false_iff_not, Bool.and_eq_true, Bool.or_eq_true, Bool.and_eq_false_iff, Bool.or_eq_false_iff, Bool.not_not, u8_eq] at hb16
      have hwi := withI_in (l := aa) (by simpa using hb16)
      have hcap9 : (withI aa x9).length ≤ rp := by rw [hwi]; exact hcap_r
      have hrow9 : RowAt m6 ro ((withI aa x9).map intV) := by rw [hwi]; exact hrow_r
      rw [← hwi] at hst6 hfr6
      refine wp_skip ?_
      refine hK7 _ _ ?_; try clear hK7 K7
      refine region_plain (fun h => by cases h) hst6 hfr6 (by kernel_rfl) (by kernel_rfl) (.cons rfl (ob_add rfl rfl ⟨by omega, by omega⟩) <|
          .cons rfl (ob_move rfl) <|
          .nil) ?_
      intro a7 w7 m7 hst7 hle7 hk7
      have hfr7 := hk7.fr (T' := [(0, _), (1, _), (4, _), (7, _), (8, _), (6, _), (9, _)]) (.old rfl rfl <| .old rfl rfl <| .old rfl rfl <| .old rfl rfl <| .old rfl rfl <| .old rfl rfl <| .new rfl <| .nil)
      replace h_ks := h_ks.mono hle7
      replace hrow_r := hrow_r.mono hle7
      replace hcv9 := hcv9.mono hle7
      replace hiA := hiA.mono hle7
      replace hrow9 := hrow9.mono hle7
      have hlh7 := hlh6.trans hle7
      replace hM := hM.trans hle7
      clear hst6 hfr6 hk7
      exact ⟨(y + 1, withI aa x9, _, _), m7, by show ks.length - (y + 1) < ks.length - y; omega, ⟨hst7, hlh7, hfr7.sub (.cons rfl <| .cons rfl <| .cons rfl <| .cons rfl <| .cons rfl <| .cons rfl <| .nil), ⟨by show y + 1 ≤ ks.length; omega, by rw [hrem, hd9]; rfl, hrow9, hcap9, by have := withI_len aa x9; show (withI aa x9).length ≤ a.length + (y + 1); omega⟩⟩⟩
  · try simp only [Bool.not_eq_true', Bool.not_eq_false', decide_eq_true_eq, decide_eq_false_iff_not, Bool.and_eq_true, Bool.or_eq_true, Bool.and_eq_false_iff, Bool.or_eq_false_iff, Bool.not_not, u8_eq] at hb10
    have hge : y = ks.length := by omega
    rw [List.drop_of_length_le (by omega)] at hrem
    simp only [List.foldl_nil] at hrem
    refine wp_exit ?_
    refine hK2 _ _ ?_; try clear hK2 K2
    refine seq_any fun K12 hK12 => ?_
    refine region_plain (fun h => by cases h) hst4 hfr4 (by kernel_rfl) (by kernel_rfl) (.cons rfl (ob_move rfl) <|
        .cons rfl (ob_assign rfl) <|
        .nil) ?_
    intro a5 w5 m5 hst5 hle5 hk5
    have hfr5 := hk5.fr (T' := [(0, _), (9, _), (1, _), (7, _), (8, _), (4, _)]) (.old rfl rfl <| .old rfl rfl <| .old rfl rfl <| .old rfl rfl <| .old rfl rfl <| .new rfl <| .nil)
    replace h_ks := h_ks.mono hle5
    replace hrow_r := hrow_r.mono hle5
    have hlh5 := hlh4.trans hle5
    replace hM := hM.trans hle5
    clear hst4 hfr4 hk5
    refine hK12 _ _ ?_; try clear hK12 K12
    refine wp_ret ?_
    repeat (with_reducible first | refine then_ret ?_ | refine block_ret ?_)
    exact fn_ret hst5 hfr5 rfl (.tmp rfl <| .nil) (⟨by rw [hrem]; exact hst5.loc, (ro, rp), by rw [hrem]; rfl, by rw [hrem]; exact ⟨hrow_r, hcap_r⟩⟩)

theorem with_c {w : World} {m : Mem} {v : Value} {a ks : List Int} {o : Option Addr} {c : Nat} (hA : Agree w m) (hr : (Res.row v (a).length 1 3 ((a).map intV)).holds w m) (hk : Ints m o ks.length c ks) (hbig : a.length + ks.length ≤ 1073741824) :
    Calls Tryd.prog 56 #[v, .slice o ks.length c] w fun e w' => ∃ v' m', e = .returned v' ∧ Touch (.row v (a).length 1 3 ((a).map intV)) (.row v' (ks.foldl withI a).length 1 3 ((ks.foldl withI a).map intV)) w m w' m' ∧ (Kn.ex (MP.sl (ks.foldl withI a).length ((ks.foldl withI a).map intV))).holds m' v' :=
  Calls.mono (with_g hA hr hk hbig) fun e w' ⟨v', m', e1, hE, hL, hv⟩ => ⟨v', m', e1, touch_of hE hL, hv⟩

mutual
def cntT : Ty → Nat
  | ⟨_, _, _, ts, _, _⟩ => cntTs ts + 1
def cntTs : List Ty → Nat
  | [] => 0
  | t :: ts => cntT t + cntTs ts
end
theorem cntT_eq (t : Ty) : cntT t = cntTs t.args + 1 := by obtain ⟨k, n, v, ts, ls, r⟩ := t; rw [cntT]; rfl
/-- The number of names there is room for. -/
def room (s : List Int × List Int) : Nat := s.1.length + s.2.length
theorem walkTs_cons (k rv : Int) (i : Nat) (t : Ty) (ts : List Ty) (s : List Int × List Int) : walkTs k rv i (t :: ts) s = walkTs k rv (i + 1) ts (if i = 0 ∧ k = 5 ∧ 0 < rv then ((walkT t s).1, withI (walkT t s).2 rv) else walkT t s) := by rw [walkTs]
theorem walk_room (t : Ty) : ∀ s, room (walkT t s) ≤ room s + 2 * cntT t := by
  induction t using Ty.rec_ with
  | h t ih =>
    intro s
    have key : ∀ (l : List Ty), (∀ u ∈ l, u ∈ t.args) → ∀ (i : Nat) s, room (walkTs t.kind t.rv i l s) ≤ room s + 2 * cntTs l + (if i = 0 then 1 else 0) := by
      intro l
      induction l with
      | nil => intro _ i s; rw [walkTs]; omega
      | cons x l ihl =>
        intro hl i s
        rw [walkTs_cons, cntTs]
        have h1 := ih x (hl x (.head _)) s
        have h2 := ihl (fun u hu => hl u (.tail _ hu)) (i + 1) (if i = 0 ∧ t.kind = 5 ∧ 0 < t.rv then ((walkT x s).1, withI (walkT x s).2 t.rv) else walkT x s)
        rw [if_neg (Nat.succ_ne_zero i)] at h2
        have h3 : room (if i = 0 ∧ t.kind = 5 ∧ 0 < t.rv then ((walkT x s).1, withI (walkT x s).2 t.rv) else walkT x s) ≤ room (walkT x s) + (if i = 0 then 1 else 0) := by
          have := withI_len (walkT x s).2 t.rv
          split <;> split <;> simp only [room] <;> omega
        omega
    rw [walkT_eq, cntT_eq]
    have h1 := key t.args (fun u hu => hu) 0 (if t.kind = 7 then (withI s.1 t.var, s.2) else s)
    have h2 : room (if t.kind = 7 then (withI s.1 t.var, s.2) else s) ≤ room s + 1 := by
      have := withI_len s.1 t.var
      split <;> simp only [room] <;> omega
    simp only [if_true] at h1; omega

abbrev walk_G (t : Ty) : Prop := ∀ {w : World} {m : Mem} {g : Nat} {v1 v2 : Value} {a b : List Int} {vs_t : List Value} (hA : Agree w m) (hL : Loc (([.blk (.pointer (some ⟨g, 0, none⟩)) (.cells #[v1, v2] 60), .row v1 (a).length 1 3 ((a).map intV), .row v2 (b).length 1 3 ((b).map intV)]).flatMap Res.blocks) w.heap.size [.blk (.pointer (some ⟨g, 0, none⟩)) (.cells #[v1, v2] 60), .row v1 (a).length 1 3 ((a).map intV), .row v2 (b).length 1 3 ((b).map intV)] w m) (h_t : TyR m t vs_t) (hbig : a.length + b.length + 2 * cntT t ≤ 1073741824), FnG Tryd.prog 42 #[.pointer (some ⟨g, 0, none⟩), .agg vs_t.toArray] (([.blk (.pointer (some ⟨g, 0, none⟩)) (.cells #[v1, v2] 60), .row v1 (a).length 1 3 ((a).map intV), .row v2 (b).length 1 3 ((b).map intV)]).flatMap Res.blocks) w m (fun w' m' _ => ∃ rs', Loc (([.blk (.pointer (some ⟨g, 0, none⟩)) (.cells #[v1, v2] 60), .row v1 (a).length 1 3 ((a).map intV), .row v2 (b).length 1 3 ((b).map intV)]).flatMap Res.blocks) w.heap.size rs' w' m' ∧ ∃ u1 u2, rs' = [.blk (.pointer (some ⟨g, 0, none⟩)) (.cells #[u1, u2] 60), .row u1 ((walkT t (a, b)).1).length 1 3 (((walkT t (a, b)).1).map intV), .row u2 ((walkT t (a, b)).2).length 1 3 (((walkT t (a, b)).2).map intV)])
set_option maxHeartbeats 400000 in
theorem walk_s {t : Ty} (ih : ∀ u ∈ t.args, walk_G u) {w : World} {m : Mem} {g : Nat} {v1 v2 : Value} {a b : List Int} {vs_t : List Value} (hA : Agree w m) (hL : Loc (([.blk (.pointer (some ⟨g, 0, none⟩)) (.cells #[v1, v2] 60), .row v1 (a).length 1 3 ((a).map intV), .row v2 (b).length 1 3 ((b).map intV)]).flatMap Res.blocks) w.heap.size [.blk (.pointer (some ⟨g, 0, none⟩)) (.cells #[v1, v2] 60), .row v1 (a).length 1 3 ((a).map intV), .row v2 (b).length 1 3 ((b).map intV)] w m) (h_t : TyR m t vs_t) (hbig : a.length + b.length + 2 * cntT t ≤ 1073741824) : FnG Tryd.prog 42 #[.pointer (some ⟨g, 0, none⟩), .agg vs_t.toArray] (([.blk (.pointer (some ⟨g, 0, none⟩)) (.cells #[v1, v2] 60), .row v1 (a).length 1 3 ((a).map intV), .row v2 (b).length 1 3 ((b).map intV)]).flatMap Res.blocks) w m (fun w' m' _ => ∃ rs', Loc (([.blk (.pointer (some ⟨g, 0, none⟩)) (.cells #[v1, v2] 60), .row v1 (a).length 1 3 ((a).map intV), .row v2 (b).length 1 3 ((b).map intV)]).flatMap Res.blocks) w.heap.size rs' w' m' ∧ ∃ u1 u2, rs' = [.blk (.pointer (some ⟨g, 0, none⟩)) (.cells #[u1, u2] 60), .row u1 ((walkT t (a, b)).1).length 1 3 (((walkT t (a, b)).1).map intV), .row u2 ((walkT t (a, b)).2).length 1 3 (((walkT t (a, b)).2).map intV)]) := by
  obtain ⟨o1, c1, rfl, -, -, -, -⟩ := Res.row_at (hL.at_ (k := 1) rfl)
  obtain ⟨o2, c2, rfl, -, -, -, -⟩ := Res.row_at (hL.at_ (k := 2) rfl)
  have hce := cntT_eq t
  obtain ⟨o_t, c_t, oL_t, cL_t, rfl, hk_t, hs_t, hi_t, hj_t, hr_t⟩ := h_t.open_
  have hbg_t := hk_t.big; have hcp_t := hk_t.cap; have hbs_t := hs_t.big; have hcs_t := hs_t.cap
  have hrw_t : RwR _ ⟨t.labels, t.rv⟩ _ := ⟨_, _, rfl, hs_t, hr_t⟩
  refine fn_enter (vs := [_, _]) Tryd.func42 rfl rfl rfl fun a0 hfr0 => ?_
  have hst0 := st_enter hA hL
  have hM : MLe m m := MLe.refl m
  refine seq_any fun K1 hK1 => ?_
  refine region_plain (fun h => by cases h) hst0 hfr0 (by kernel_rfl) (by kernel_rfl) (.cons rfl (ob_box rfl rfl) <|
      .nil) ?_
  intro a1 w1 m1 hst1 hle1 hk1
  have hfr1 := hk1.fr (T' := [(0, _), (1, _)]) (.old rfl rfl <| .old rfl rfl <| .nil)
  obtain ⟨g2, e2, hc3⟩ := hk1.ex 3 rfl
  replace hfr1 := hfr1.cons e2
  replace h_t := h_t.mono hle1
  replace hk_t := hk_t.mono hle1
  replace hs_t := hs_t.mono hle1
  replace hrw_t := hrw_t.mono hle1
  replace hM := hM.trans hle1
  clear hst0 hfr0 hk1
  refine hK1 _ _ ?_; try clear hK1 K1
  refine seq_any fun K3 hK3 => ?_
  refine seq_any fun K4 hK4 => ?_
  refine region_plain (fun h => by cases h) hst1 hfr1 (by kernel_rfl) (by kernel_rfl) (.cons rfl (ob_fieldAddr rfl Tryd.underlying27 rfl Tryd.sizeOf3 rfl) <|
      .cons rfl (ob_load1 rfl hc3 Tryd.isAgg3 rfl) <|
      .cons rfl (ob_eql rfl rfl) <|
      .nil) ?_
  intro a2 w2 m2 hst2 hle2 hk2
  have hfr2 := hk2.fr (T' := [(0, _), (1, _), (3, _), (8, _)]) (.old rfl rfl <| .old rfl rfl <| .old rfl rfl <| .new rfl <| .nil)
  replace h_t := h_t.mono hle2
  replace hk_t := hk_t.mono hle2
  replace hs_t := hs_t.mono hle2
  replace hrw_t := hrw_t.mono hle2
  replace hc3 := hc3.mono hle2
  replace hM := hM.trans hle2
  clear hst1 hfr1 hk2
  refine hK4 _ _ ?_; try clear hK4 K4
  refine cond_any hfr2 rfl rfl (fun hb8 => ?_) (fun hb8 => ?_)
  · try simp only [Bool.not_eq_true', Bool.not_eq_false', decide_eq_true_eq, decide_eq_false_iff_not, Bool.and_eq_true, Bool.or_eq_true, Bool.and_eq_false_iff, Bool.or_eq_false_iff, Bool.not_not, u8_eq] at hb8
    refine region_any (tch := [(8, 1, (fun v => .row v (withI a t.var).length 1 3 ((withI a t.var).map intV))), (11, 0, (fun u => .blk _ (.cells (_ ++ [u] ++ _).toArray _)))]) (fun _ => mixed) hst2 hfr2 (by kernel_rfl) (by kernel_rfl) (by kernel_rfl) (.cons rfl (ob_move rfl) <|
        .cons rfl (ob_move rfl) <|
        .cons rfl (ob_nilCheck rfl) <|
        .cons rfl (ob_fieldAddr rfl Tryd.underlying60 rfl Tryd.sizeOf35 rfl) <|
        .cons rfl (ob_loadL (j := 0) rfl rfl Tryd.isAgg35 rfl) <|
        .cons rfl (ob_fieldAddr rfl Tryd.underlying27 rfl Tryd.sizeOf3 rfl) <|
        .cons rfl (ob_load1 rfl hc3 Tryd.isAgg3 rfl) <|
        .cons rfl (ob_buildSlice (.cons rfl <| .nil) Tryd.underlying35 Tryd.sizeOf3 Tryd.zeroValue3 rfl rfl rfl rfl) <|
        .consT rfl rfl (fun _ => rfl) rfl (ob_imgT 16 rfl rfl rfl fun y16 => ob_callT rfl (.cons rfl <| .cons rfl <| .nil) Tryd.call56 (κ := .ex (MP.sl (withI a t.var).length ((withI a t.var).map intV))) (fun σ w m hK hr hkn => by have hle_ := KC.le hK; have hA := KC.agree hK; have hM := hM.trans hle_; have hr0_ := hK.2; have h_t := h_t.mono hle_; have hk_t := hk_t.mono hle_; have hs_t := hs_t.mono hle_; have hrw_t := hrw_t.mono hle_; have hc3 := hc3.mono hle_; exact with_c (ks := [t.var]) hA hr (Sl.one hr0_ rfl rfl) (by simp only [List.length_cons, List.length_nil]; omega))) <|
        .cons rfl (ob_nilCheck rfl) <|
        .cons rfl (ob_fieldAddr rfl Tryd.underlying60 rfl Tryd.sizeOf35 rfl) <|
        .consT rfl rfl (fun _ => rfl) rfl (ob_imgT 17 rfl rfl rfl fun y17 => ob_storeV rfl rfl rfl rfl rfl Tryd.sizeOf35 rfl rfl rfl) <|
        .nil) ?_
    intro a3 w3 m3 hst3 hle3 hk3
    have hfr3 := hk3.fr (T' := [(0, _), (1, _), (3, _)]) (.old rfl rfl <| .old rfl rfl <| .old rfl rfl <| .nil)
    obtain ⟨⟨Ao2, Ap2⟩, e5, hrow2_A, hcap2_A⟩ := hk3.ex 17 rfl
    replace hfr3 := hfr3.cons e5
    replace hst3 := hst3.fin (L' := [_, _, _]) (.cons e5 <| .cons e5 <| .nil)
    replace h_t := h_t.mono hle3
    replace hk_t := hk_t.mono hle3
    replace hs_t := hs_t.mono hle3
    replace hrw_t := hrw_t.mono hle3
    replace hc3 := hc3.mono hle3
    replace hM := hM.trans hle3
    clear hst2 hfr2 hk3
    obtain ⟨aa, haa⟩ : ∃ aa, aa = withI a t.var := ⟨_, rfl⟩
    rw [← haa] at hst3
    refine hK3 _ _ ?_; try clear hK3 K3
    refine seq_any fun K6 hK6 => ?_
    refine region_plain (fun h => by cases h) hst3 hfr3 (by kernel_rfl) (by kernel_rfl) (.cons rfl (ob_fieldAddr rfl Tryd.underlying27 rfl Tryd.sizeOf22 rfl) <|
        .cons rfl (ob_load1 rfl hc3 Tryd.isAgg22 rfl) <|
        .cons rfl (ob_len rfl Tryd.underlying22) <|
        .cons rfl (ob_move rfl) <|
        .nil) ?_
    intro a4 w4 m4 hst4 hle4 hk4
    have hfr4 := hk4.fr (T' := [(0, _), (1, _), (3, _), (21, _), (22, _), (23, _)]) (.old rfl rfl <| .old rfl rfl <| .old rfl rfl <| .new rfl <| .new rfl <| .new rfl <| .nil)
    replace h_t := h_t.mono hle4
    replace hk_t := hk_t.mono hle4
    replace hs_t := hs_t.mono hle4
    replace hrw_t := hrw_t.mono hle4
    replace hc3 := hc3.mono hle4
    replace hrow2_A := hrow2_A.mono hle4
    replace hM := hM.trans hle4
    clear hst3 hfr3 hk4
    refine hK6 _ _ ?_; try clear hK6 K6
    refine wp_block ?_
    refine loop_any (T := [(0, _), (1, _), (3, _), (21, _), (22, _)]) (fun (y : Nat × (List Int × List Int) × (Option Addr × Nat) × (Option Addr × Nat)) => ([(23, .int .i64 (y.1 : Int))] : List (Nat × Value))) (fun y => [.blk (.pointer (some ⟨g, 0, none⟩)) (.cells #[.slice y.2.2.1.1 y.2.1.1.length y.2.2.1.2, .slice y.2.2.2.1 y.2.1.2.length y.2.2.2.2] 60), .row (.slice y.2.2.1.1 y.2.1.1.length y.2.2.1.2) (y.2.1.1).length 1 3 ((y.2.1.1).map intV), .row (.slice y.2.2.2.1 y.2.1.2.length y.2.2.2.2) (y.2.1.2).length 1 3 ((y.2.1.2).map intV)]) (fun (y : Nat × (List Int × List Int) × (Option Addr × Nat) × (Option Addr × Nat)) m => (fun (y : Nat) (s : List Int × List Int) => y ≤ t.args.length ∧ walkT t (a, b) = walkTs t.kind t.rv y (t.args.drop y) s ∧ room s + 2 * cntTs (t.args.drop y) + (if y = 0 then 1 else 0) ≤ 1073741824) y.1 y.2.1) (fun y => t.args.length - y.1) ((0, (aa, b), (_, _), (_, _))) ⟨hst4, MLe.refl _, hfr4.sub (.cons rfl <| .cons rfl <| .cons rfl <| .cons rfl <| .cons rfl <| .cons rfl <| .nil), ⟨Nat.zero_le _, by rw [walkT_eq]; rw [haa]; simp [hb8], by have := withI_len a t.var; have h7 : (aa).length ≤ a.length + 1 := (by rw [haa]; omega); simp only [room, List.drop_zero, if_true]; omega⟩⟩ fun y a5 w5 m5 hh5 => ?_
    have hst5 := hh5.st; have hle5 := hh5.le; have hfr5 := hh5.fr; have hrel := hh5.rel; clear hh5
    replace h_t := h_t.mono hle5
    replace hk_t := hk_t.mono hle5
    replace hs_t := hs_t.mono hle5
    replace hrw_t := hrw_t.mono hle5
    replace hc3 := hc3.mono hle5
    replace hrow2_A := hrow2_A.mono hle5
    clear hst4 hfr4
    replace hM := hM.trans hle5
    obtain ⟨y, s, ⟨q1, d1⟩, ⟨q2, d2⟩⟩ := y
    dsimp only at hrel hfr5 hst5
    obtain ⟨hyn, hrem, hroom⟩ := hrel
    have hlh5 := hle5
    refine seq_any fun K8 hK8 => ?_
    refine region_plain (fun h => by cases h) hst5 hfr5 (by kernel_rfl) (by kernel_rfl) (.cons rfl (ob_lss rfl rfl) <|
        .nil) ?_
    intro a6 w6 m6 hst6 hle6 hk6
    have hfr6 := hk6.fr (T' := [(23, _), (0, _), (1, _), (3, _), (21, _), (22, _), (24, _)]) (.old rfl rfl <| .old rfl rfl <| .old rfl rfl <| .old rfl rfl <| .old rfl rfl <| .old rfl rfl <| .new rfl <| .nil)
    replace h_t := h_t.mono hle6
    replace hk_t := hk_t.mono hle6
    replace hs_t := hs_t.mono hle6
    replace hrw_t := hrw_t.mono hle6
    replace hc3 := hc3.mono hle6
    replace hrow2_A := hrow2_A.mono hle6
    have hlh6 := hlh5.trans hle6
    replace hM := hM.trans hle6
    clear hst5 hfr5 hk6
    refine hK8 _ _ ?_; try clear hK8 K8
    refine seq_any fun K9 hK9 => ?_
    refine cond_any hfr6 rfl rfl (fun hb24 => ?_) (fun hb24 => ?_)
    · try simp only [Bool.not_eq_true', Bool.not_eq_false', decide_eq_true_eq, decide_eq_false_iff_not, Bool.and_eq_true, Bool.or_eq_true, Bool.and_eq_false_iff, Bool.or_eq_false_iff, Bool.not_not, u8_eq] at hb24
      refine wp_skip ?_
      refine hK9 _ _ ?_; try clear hK9 K9
      refine seq_any fun K10 hK10 => ?_
      refine wp_block ?_
      refine seq_any fun K11 hK11 => ?_
      obtain ⟨p12, vs12, x12, ho12, hd12, hm_x12, ht12, hcv12, hl12, hv12⟩ := hk_t.nth (k := y) (by omega)
      cases ho12
      obtain ⟨o12, c12, oL12, cL12, rfl, hkd12, hs12, hi12, hj12, hr12⟩ := hv12.open_
      have hbg12 := hkd12.big; have hcp12 := hkd12.cap; have hbs12 := hs12.big; have hcs12 := hs12.cap
      have hrw12 : RwR _ ⟨x12.labels, x12.rv⟩ _ := ⟨_, _, rfl, hs12, hr12⟩
      replace hst6 := hst6.more (r := .free) trivial List.nodup_nil (by simp [Res.blocks])
      refine region_any (tch := [(3, 3, (fun v => .blk v _)), (5, 3, (fun v => .blk v _))]) (fun h => by cases h) hst6 hfr6 (by kernel_rfl) (by kernel_rfl) (by kernel_rfl) (.cons rfl (ob_move rfl) <|
          .cons rfl (ob_indexAddr (k := y) rfl rfl Tryd.underlying22 Tryd.sizeOf27 rfl (by omega)) <|
          .cons rfl (ob_loadS' rfl hcv12 Tryd.isAgg27 Tryd.sizeOf27 rfl rfl) <|
          .consT rfl rfl (fun _ => rfl) rfl (ob_allocL Tryd.zeroValue27 rfl) <|
          .cons rfl (ob_assign rfl) <|
          .consT rfl rfl (fun _ => rfl) rfl (ob_imgT 5 rfl rfl rfl fun y5 => ob_storeF rfl rfl rfl rfl rfl Tryd.sizeOf27 rfl rfl rfl) <|
          .nil) ?_
      intro a7 w7 m7 hst7 hle7 hk7
      have hfr7 := hk7.fr (T' := [(23, _), (0, _), (1, _), (3, _), (21, _), (22, _), (4, _)]) (.old rfl rfl <| .old rfl rfl <| .old rfl rfl <| .old rfl rfl <| .old rfl rfl <| .old rfl rfl <| .new rfl <| .nil)
      obtain ⟨g13, e13, _⟩ := hk7.ex 5 rfl
      replace hfr7 := hfr7.cons e13
      replace hst7 := hst7.fin (L' := [_, _, _, _]) (.cons e13 <| .cons e13 <| .nil)
      replace h_t := h_t.mono hle7
      replace hk_t := hk_t.mono hle7
      replace hs_t := hs_t.mono hle7
      replace hrw_t := hrw_t.mono hle7
      replace hc3 := hc3.mono hle7
      replace hrow2_A := hrow2_A.mono hle7
      replace hcv12 := hcv12.mono hle7
      replace hv12 := hv12.mono hle7
      replace hkd12 := hkd12.mono hle7
      replace hs12 := hs12.mono hle7
      replace hrw12 := hrw12.mono hle7
      have hlh7 := hlh6.trans hle7
      replace hM := hM.trans hle7
      clear hst6 hfr6 hk7
      rw [hd12, walkTs_cons] at hrem
      rw [hd12, cntTs] at hroom
      refine hK11 _ _ ?_; try clear hK11 K11
      refine seq_any fun K14 hK14 => ?_
      refine region_cut 2 (by kernel_rfl) ?_
      refine ops_seq (tch := []) hst7 hfr7 (by kernel_rfl) (by kernel_rfl) (by kernel_rfl) (.cons rfl (ob_move rfl) <|
          .cons rfl (ob_loadLS' (j := 3) rfl rfl Tryd.isAgg27 Tryd.sizeOf27 rfl rfl) <|
          .nil) ?_
      intro a8 w8 m8 hst8 hle8 hk8
      have hfr8 := hk8.fr (T' := [(23, _), (0, _), (1, _), (3, _), (21, _), (22, _), (4, _), (5, _), (28, _), (29, _)]) (.old rfl rfl <| .old rfl rfl <| .old rfl rfl <| .old rfl rfl <| .old rfl rfl <| .old rfl rfl <| .old rfl rfl <| .old rfl rfl <| .new rfl <| .new rfl <| .nil)
      replace h_t := h_t.mono hle8
      replace hk_t := hk_t.mono hle8
      replace hs_t := hs_t.mono hle8
      replace hrw_t := hrw_t.mono hle8
      replace hc3 := hc3.mono hle8
      replace hrow2_A := hrow2_A.mono hle8
      replace hcv12 := hcv12.mono hle8
      replace hv12 := hv12.mono hle8
      replace hkd12 := hkd12.mono hle8
      replace hs12 := hs12.mono hle8
      replace hrw12 := hrw12.mono hle8
      have hlh8 := hlh7.trans hle8
      replace hM := hM.trans hle8
      clear hst7 hfr7 hk8
      refine call_res [] [_] [_, _, _] hst8 hfr8 rfl (.cons rfl <| .cons rfl <| .nil) Tryd.call42 (ih x12 hm_x12 hst8.agree (hst8.sub (A := []) (B := [_]) (rs := [_, _, _])) hv12 (by simp only [room] at hroom; omega)) ?_
      intro vr9 w9 m9 rs9 hst9 hle9 hp9
      obtain ⟨u1, u2, rfl⟩ := hp9
      simp only [List.nil_append, List.cons_append] at hst9
      obtain ⟨q3, d3, rfl, -, -, -, -⟩ := Res.row_at (hst9.loc.at_ (k := 1) rfl)
      obtain ⟨q4, d4, rfl, -, -, -, -⟩ := Res.row_at (hst9.loc.at_ (k := 2) rfl)
      have h9 := walk_room x12 s
      have h9b : (walkT x12 (s.1, s.2)).1.length + (walkT x12 (s.1, s.2)).2.length ≤ room s + 2 * cntT x12 := walk_room x12 s
      have hfr9 := (hfr8.sub (T' := [(23, _), (0, _), (1, _), (3, _), (21, _), (22, _), (4, _), (5, _), (28, _), (29, _)]) (.cons rfl <| .cons rfl <| .cons rfl <| .cons rfl <| .cons rfl <| .cons rfl <| .cons rfl <| .cons rfl <| .cons rfl <| .cons rfl <| .nil)).put (d := 30) (v := vr9) (by kernel_rfl) rfl
      replace h_t := h_t.mono hle9
      replace hk_t := hk_t.mono hle9
      replace hs_t := hs_t.mono hle9
      replace hrw_t := hrw_t.mono hle9
      replace hc3 := hc3.mono hle9
      replace hrow2_A := hrow2_A.mono hle9
      replace hcv12 := hcv12.mono hle9
      replace hv12 := hv12.mono hle9
      replace hkd12 := hkd12.mono hle9
      replace hs12 := hs12.mono hle9
      replace hrw12 := hrw12.mono hle9
      have hlh9 := hlh8.trans hle9
      replace hM := hM.trans hle9
      clear hst8 hfr8
      refine hK14 _ _ ?_; try clear hK14 K14
      refine seq_any fun K15 hK15 => ?_
      refine region_plain (fun h => by cases h) hst9 hfr9 (by kernel_rfl) (by kernel_rfl) (.cons rfl (ob_move rfl) <|
          .cons rfl (ob_eql rfl rfl) <|
          .cons rfl (ob_move rfl) <|
          .cons rfl (ob_fieldAddr rfl Tryd.underlying27 rfl Tryd.sizeOf3 rfl) <|
          .cons rfl (ob_load1 rfl hc3 Tryd.isAgg3 rfl) <|
          .cons rfl (ob_eql rfl rfl) <|
          .cons rfl (ob_and rfl rfl rfl) <|
          .cons rfl (ob_move rfl) <|
          .cons rfl (ob_fieldAddr rfl Tryd.underlying27 rfl Tryd.sizeOf25 rfl) <|
          .cons rfl (ob_fieldAddr rfl Tryd.underlying25 rfl Tryd.sizeOf3 rfl) <|
          .cons rfl (ob_load1 rfl (hc3.drop 4) Tryd.isAgg3 rfl) <|
          .cons rfl (ob_gtr rfl rfl) <|
          .cons rfl (ob_and rfl rfl rfl) <|
          .nil) ?_
      intro a10 w10 m10 hst10 hle10 hk10
      have hfr10 := hk10.fr (T' := [(23, _), (0, _), (1, _), (3, _), (21, _), (22, _), (4, _), (5, _), (28, _), (29, _), (43, _)]) (.old rfl rfl <| .old rfl rfl <| .old rfl rfl <| .old rfl rfl <| .old rfl rfl <| .old rfl rfl <| .old rfl rfl <| .old rfl rfl <| .old rfl rfl <| .old rfl rfl <| .new rfl <| .nil)
      replace h_t := h_t.mono hle10
      replace hk_t := hk_t.mono hle10
      replace hs_t := hs_t.mono hle10
      replace hrw_t := hrw_t.mono hle10
      replace hc3 := hc3.mono hle10
      replace hrow2_A := hrow2_A.mono hle10
      replace hcv12 := hcv12.mono hle10
      replace hv12 := hv12.mono hle10
      replace hkd12 := hkd12.mono hle10
      replace hs12 := hs12.mono hle10
      replace hrw12 := hrw12.mono hle10
      have hlh10 := hlh9.trans hle10
      replace hM := hM.trans hle10
      clear hst9 hfr9 hk10
      refine hK15 _ _ ?_; try clear hK15 K15
      refine cond_any hfr10 rfl rfl (fun hb43 => ?_) (fun hb43 => ?_)
      · try simp only [Bool.not_eq_true', Bool.not_eq_false', decide_eq_true_eq, decide_eq_false_iff_not, Bool.and_eq_true, Bool.or_eq_true, Bool.and_eq_false_iff, Bool.or_eq_false_iff, Bool.not_not, u8_eq] at hb43
        rw [if_pos (show y = 0 by omega)] at hroom
        refine region_any (tch := [(9, 2, (fun v => .row v (withI (walkT x12 s).2 t.rv).length 1 3 ((withI (walkT x12 s).2 t.rv).map intV))), (12, 0, (fun u => .blk _ (.cells (_ ++ [u] ++ _).toArray _)))]) (fun _ => mixed) hst10 hfr10 (by kernel_rfl) (by kernel_rfl) (by kernel_rfl) (.cons rfl (ob_move rfl) <|
            .cons rfl (ob_move rfl) <|
            .cons rfl (ob_nilCheck rfl) <|
            .cons rfl (ob_fieldAddr rfl Tryd.underlying60 rfl Tryd.sizeOf35 rfl) <|
            .cons rfl (ob_loadL (j := 0) rfl rfl Tryd.isAgg35 rfl) <|
            .cons rfl (ob_fieldAddr rfl Tryd.underlying27 rfl Tryd.sizeOf25 rfl) <|
            .cons rfl (ob_fieldAddr rfl Tryd.underlying25 rfl Tryd.sizeOf3 rfl) <|
            .cons rfl (ob_load1 rfl (hc3.drop 4) Tryd.isAgg3 rfl) <|
            .cons rfl (ob_buildSlice (.cons rfl <| .nil) Tryd.underlying35 Tryd.sizeOf3 Tryd.zeroValue3 rfl rfl rfl rfl) <|
            .consT rfl rfl (fun _ => rfl) rfl (ob_imgT 52 rfl rfl rfl fun y52 => ob_callT rfl (.cons rfl <| .cons rfl <| .nil) Tryd.call56 (κ := .ex (MP.sl (withI (walkT x12 s).2 t.rv).length ((withI (walkT x12 s).2 t.rv).map intV))) (fun σ w m hK hr hkn => by have hle_ := KC.le hK; have hA := KC.agree hK; have hM := hM.trans hle_; have hr0_ := hK.2; have h_t := h_t.mono hle_; have hk_t := hk_t.mono hle_; have hs_t := hs_t.mono hle_; have hrw_t := hrw_t.mono hle_; have hc3 := hc3.mono hle_; have hrow2_A := hrow2_A.mono hle_; have hcv12 := hcv12.mono hle_; have hv12 := hv12.mono hle_; have hkd12 := hkd12.mono hle_; have hs12 := hs12.mono hle_; have hrw12 := hrw12.mono hle_; exact with_c (ks := [t.rv]) hA hr (Sl.one hr0_ rfl rfl) (by have h9 : (walkT x12 s).1.length + (walkT x12 s).2.length ≤ room s + 2 * cntT x12 := walk_room x12 s; simp only [List.length_cons, List.length_nil]; omega))) <|
            .cons rfl (ob_nilCheck rfl) <|
            .cons rfl (ob_fieldAddr rfl Tryd.underlying60 rfl Tryd.sizeOf35 rfl) <|
            .consT rfl rfl (fun _ => rfl) rfl (ob_imgT 53 rfl rfl rfl fun y53 => ob_storeV rfl rfl rfl rfl rfl Tryd.sizeOf35 rfl rfl rfl) <|
            .nil) ?_
        intro a11 w11 m11 hst11 hle11 hk11
        have hfr11 := hk11.fr (T' := [(23, _), (0, _), (1, _), (3, _), (21, _), (22, _), (4, _), (5, _), (28, _), (29, _)]) (.old rfl rfl <| .old rfl rfl <| .old rfl rfl <| .old rfl rfl <| .old rfl rfl <| .old rfl rfl <| .old rfl rfl <| .old rfl rfl <| .old rfl rfl <| .old rfl rfl <| .nil)
        obtain ⟨⟨Bo2, Bp2⟩, e16, hrow2_B, hcap2_B⟩ := hk11.ex 53 rfl
        replace hfr11 := hfr11.cons e16
        replace hst11 := hst11.fin (L' := [_, _, _, _]) (.cons e16 <| .cons e16 <| .nil)
        replace h_t := h_t.mono hle11
        replace hk_t := hk_t.mono hle11
        replace hs_t := hs_t.mono hle11
        replace hrw_t := hrw_t.mono hle11
        replace hc3 := hc3.mono hle11
        replace hrow2_A := hrow2_A.mono hle11
        replace hcv12 := hcv12.mono hle11
        replace hv12 := hv12.mono hle11
        replace hkd12 := hkd12.mono hle11
        replace hs12 := hs12.mono hle11
        replace hrw12 := hrw12.mono hle11
        have hlh11 := hlh10.trans hle11
        replace hM := hM.trans hle11
        clear hst10 hfr10 hk11
        refine hK10 _ _ ?_; try clear hK10 K10
        refine region_plain (fun h => by cases h) hst11 hfr11 (by kernel_rfl) (by kernel_rfl) (.cons rfl (ob_add rfl rfl ⟨by omega, by omega⟩) <|
            .cons rfl (ob_move rfl) <|
            .nil) ?_
        intro a12 w12 m12 hst12 hle12 hk12
        have hfr12 := hk12.fr (T' := [(0, _), (1, _), (3, _), (21, _), (22, _), (4, _), (5, _), (28, _), (29, _), (23, _)]) (.old rfl rfl <| .old rfl rfl <| .old rfl rfl <| .old rfl rfl <| .old rfl rfl <| .old rfl rfl <| .old rfl rfl <| .old rfl rfl <| .old rfl rfl <| .new rfl <| .nil)
        replace h_t := h_t.mono hle12
        replace hk_t := hk_t.mono hle12
        replace hs_t := hs_t.mono hle12
        replace hrw_t := hrw_t.mono hle12
        replace hc3 := hc3.mono hle12
        replace hrow2_A := hrow2_A.mono hle12
        replace hcv12 := hcv12.mono hle12
        replace hv12 := hv12.mono hle12
        replace hkd12 := hkd12.mono hle12
        replace hs12 := hs12.mono hle12
        replace hrw12 := hrw12.mono hle12
        replace hrow2_B := hrow2_B.mono hle12
        have hlh12 := hlh11.trans hle12
        replace hM := hM.trans hle12
        clear hst11 hfr11 hk12
        have hst12 := hst12.take 3
        exact ⟨(y + 1, ((walkT x12 s).1, withI (walkT x12 s).2 t.rv), (q3, d3), (Bo2, Bp2)), m12, by show t.args.length - (y + 1) < t.args.length - y; omega, ⟨hst12, hlh12, hfr12.sub (.cons rfl <| .cons rfl <| .cons rfl <| .cons rfl <| .cons rfl <| .cons rfl <| .nil), ⟨by show y + 1 ≤ t.args.length; omega, by rw [hrem]; first | rw [if_pos (show y = 0 ∧ t.kind = 5 ∧ 0 < t.rv by omega)] | rw [if_neg (show ¬ (y = 0 ∧ t.kind = 5 ∧ 0 < t.rv) by omega)], by have h9 : (walkT x12 s).1.length + (walkT x12 s).2.length ≤ room s + 2 * cntT x12 := walk_room x12 s; have h8 := withI_len (walkT x12 s).2 t.rv; show (walkT x12 s).1.length + (withI (walkT x12 s).2 t.rv).length + 2 * cntTs (t.args.drop (y + 1)) + (if y + 1 = 0 then 1 else 0) ≤ 1073741824; rw [if_neg (Nat.succ_ne_zero y)]; omega⟩⟩⟩
      · try simp only [Bool.not_eq_true', Bool.not_eq_false', decide_eq_true_eq, decide_eq_false_iff_not, Bool.and_eq_true, Bool.or_eq_true, Bool.and_eq_false_iff, Bool.or_eq_false_iff, Bool.not_not, u8_eq] at hb43
        refine wp_skip ?_
        refine hK10 _ _ ?_; try clear hK10 K10
        refine region_plain (fun h => by cases h) hst10 hfr10 (by kernel_rfl) (by kernel_rfl) (.cons rfl (ob_add rfl rfl ⟨by omega, by omega⟩) <|
            .cons rfl (ob_move rfl) <|
            .nil) ?_
        intro a11 w11 m11 hst11 hle11 hk11
        have hfr11 := hk11.fr (T' := [(0, _), (1, _), (3, _), (21, _), (22, _), (4, _), (5, _), (28, _), (29, _), (23, _)]) (.old rfl rfl <| .old rfl rfl <| .old rfl rfl <| .old rfl rfl <| .old rfl rfl <| .old rfl rfl <| .old rfl rfl <| .old rfl rfl <| .old rfl rfl <| .new rfl <| .nil)
        replace h_t := h_t.mono hle11
        replace hk_t := hk_t.mono hle11
        replace hs_t := hs_t.mono hle11
        replace hrw_t := hrw_t.mono hle11
        replace hc3 := hc3.mono hle11
        replace hrow2_A := hrow2_A.mono hle11
        replace hcv12 := hcv12.mono hle11
        replace hv12 := hv12.mono hle11
        replace hkd12 := hkd12.mono hle11
        replace hs12 := hs12.mono hle11
        replace hrw12 := hrw12.mono hle11
        have hlh11 := hlh10.trans hle11
        replace hM := hM.trans hle11
        clear hst10 hfr10 hk11
        have hst11 := hst11.take 3
        exact ⟨(y + 1, ((walkT x12 s).1, (walkT x12 s).2), (q3, d3), (q4, d4)), m11, by show t.args.length - (y + 1) < t.args.length - y; omega, ⟨hst11, hlh11, hfr11.sub (.cons rfl <| .cons rfl <| .cons rfl <| .cons rfl <| .cons rfl <| .cons rfl <| .nil), ⟨by show y + 1 ≤ t.args.length; omega, by rw [hrem]; first | rw [if_pos (show y = 0 ∧ t.kind = 5 ∧ 0 < t.rv by omega)] | rw [if_neg (show ¬ (y = 0 ∧ t.kind = 5 ∧ 0 < t.rv) by omega)], by have h9 : (walkT x12 s).1.length + (walkT x12 s).2.length ≤ room s + 2 * cntT x12 := walk_room x12 s; have h8 := withI_len (walkT x12 s).2 t.rv; show (walkT x12 s).1.length + ((walkT x12 s).2).length + 2 * cntTs (t.args.drop (y + 1)) + (if y + 1 = 0 then 1 else 0) ≤ 1073741824; rw [if_neg (Nat.succ_ne_zero y)]; omega⟩⟩⟩
    · try simp only [Bool.not_eq_true', Bool.not_eq_false', decide_eq_true_eq, decide_eq_false_iff_not, Bool.and_eq_true, Bool.or_eq_true, Bool.and_eq_false_iff, Bool.or_eq_false_iff, Bool.not_not, u8_eq] at hb24
      have hge : y = t.args.length := by omega
      rw [List.drop_of_length_le (by omega), walkTs] at hrem
      refine wp_exit ?_
      repeat (with_reducible first | refine then_exit ?_ | refine block_exit ?_ | refine block_normal ?_)
      exact fn_end hst6 hfr6 rfl (.nil) (⟨_, hst6.loc, _, _, by rw [hrem]⟩)
  · try simp only [Bool.not_eq_true', Bool.not_eq_false', decide_eq_true_eq, decide_eq_false_iff_not, Bool.and_eq_true, Bool.or_eq_true, Bool.and_eq_false_iff, Bool.or_eq_false_iff, Bool.not_not, u8_eq] at hb8
    refine wp_skip ?_
    refine hK3 _ _ ?_; try clear hK3 K3
    refine seq_any fun K18 hK18 => ?_
    refine region_plain (fun h => by cases h) hst2 hfr2 (by kernel_rfl) (by kernel_rfl) (.cons rfl (ob_fieldAddr rfl Tryd.underlying27 rfl Tryd.sizeOf22 rfl) <|
        .cons rfl (ob_load1 rfl hc3 Tryd.isAgg22 rfl) <|
        .cons rfl (ob_len rfl Tryd.underlying22) <|
        .cons rfl (ob_move rfl) <|
        .nil) ?_
    intro a3 w3 m3 hst3 hle3 hk3
    have hfr3 := hk3.fr (T' := [(0, _), (1, _), (3, _), (21, _), (22, _), (23, _)]) (.old rfl rfl <| .old rfl rfl <| .old rfl rfl <| .new rfl <| .new rfl <| .new rfl <| .nil)
    replace h_t := h_t.mono hle3
    replace hk_t := hk_t.mono hle3
    replace hs_t := hs_t.mono hle3
    replace hrw_t := hrw_t.mono hle3
    replace hc3 := hc3.mono hle3
    replace hM := hM.trans hle3
    clear hst2 hfr2 hk3
    refine hK18 _ _ ?_; try clear hK18 K18
    refine wp_block ?_
    refine loop_any (T := [(0, _), (1, _), (3, _), (21, _), (22, _)]) (fun (y : Nat × (List Int × List Int) × (Option Addr × Nat) × (Option Addr × Nat)) => ([(23, .int .i64 (y.1 : Int))] : List (Nat × Value))) (fun y => [.blk (.pointer (some ⟨g, 0, none⟩)) (.cells #[.slice y.2.2.1.1 y.2.1.1.length y.2.2.1.2, .slice y.2.2.2.1 y.2.1.2.length y.2.2.2.2] 60), .row (.slice y.2.2.1.1 y.2.1.1.length y.2.2.1.2) (y.2.1.1).length 1 3 ((y.2.1.1).map intV), .row (.slice y.2.2.2.1 y.2.1.2.length y.2.2.2.2) (y.2.1.2).length 1 3 ((y.2.1.2).map intV)]) (fun (y : Nat × (List Int × List Int) × (Option Addr × Nat) × (Option Addr × Nat)) m => (fun (y : Nat) (s : List Int × List Int) => y ≤ t.args.length ∧ walkT t (a, b) = walkTs t.kind t.rv y (t.args.drop y) s ∧ room s + 2 * cntTs (t.args.drop y) + (if y = 0 then 1 else 0) ≤ 1073741824) y.1 y.2.1) (fun y => t.args.length - y.1) ((0, (a, b), (_, _), (_, _))) ⟨hst3, MLe.refl _, hfr3.sub (.cons rfl <| .cons rfl <| .cons rfl <| .cons rfl <| .cons rfl <| .cons rfl <| .nil), ⟨Nat.zero_le _, by rw [walkT_eq]; simp [hb8], by have := withI_len a t.var; have h7 : (a).length ≤ a.length + 1 := (by omega); simp only [room, List.drop_zero, if_true]; omega⟩⟩ fun y a4 w4 m4 hh4 => ?_
    have hst4 := hh4.st; have hle4 := hh4.le; have hfr4 := hh4.fr; have hrel := hh4.rel; clear hh4
    replace h_t := h_t.mono hle4
    replace hk_t := hk_t.mono hle4
    replace hs_t := hs_t.mono hle4
    replace hrw_t := hrw_t.mono hle4
    replace hc3 := hc3.mono hle4
    clear hst3 hfr3
    replace hM := hM.trans hle4
    obtain ⟨y, s, ⟨q1, d1⟩, ⟨q2, d2⟩⟩ := y
    dsimp only at hrel hfr4 hst4
    obtain ⟨hyn, hrem, hroom⟩ := hrel
    have hlh4 := hle4
    refine seq_any fun K20 hK20 => ?_
    refine region_plain (fun h => by cases h) hst4 hfr4 (by kernel_rfl) (by kernel_rfl) (.cons rfl (ob_lss rfl rfl) <|
        .nil) ?_
    intro a5 w5 m5 hst5 hle5 hk5
    have hfr5 := hk5.fr (T' := [(23, _), (0, _), (1, _), (3, _), (21, _), (22, _), (24, _)]) (.old rfl rfl <| .old rfl rfl <| .old rfl rfl <| .old rfl rfl <| .old rfl rfl <| .old rfl rfl <| .new rfl <| .nil)
    replace h_t := h_t.mono hle5
    replace hk_t := hk_t.mono hle5
    replace hs_t := hs_t.mono hle5
    replace hrw_t := hrw_t.mono hle5
    replace hc3 := hc3.mono hle5
    have hlh5 := hlh4.trans hle5
    replace hM := hM.trans hle5
    clear hst4 hfr4 hk5
    refine hK20 _ _ ?_; try clear hK20 K20
    refine seq_any fun K21 hK21 => ?_
    refine cond_any hfr5 rfl rfl (fun hb24 => ?_) (fun hb24 => ?_)
    · try simp only [Bool.not_eq_true', Bool.not_eq_false', decide_eq_true_eq, decide_eq_false_iff_not, Bool.and_eq_true, Bool.or_eq_true, Bool.and_eq_false_iff, Bool.or_eq_false_iff, Bool.not_not, u8_eq] at hb24
      refine wp_skip ?_
      refine hK21 _ _ ?_; try clear hK21 K21
      refine seq_any fun K22 hK22 => ?_
      refine wp_block ?_
      refine seq_any fun K23 hK23 => ?_
      obtain ⟨p24, vs24, x24, ho24, hd24, hm_x24, ht24, hcv24, hl24, hv24⟩ := hk_t.nth (k := y) (by omega)
      cases ho24
      obtain ⟨o24, c24, oL24, cL24, rfl, hkd24, hs24, hi24, hj24, hr24⟩ := hv24.open_
      have hbg24 := hkd24.big; have hcp24 := hkd24.cap; have hbs24 := hs24.big; have hcs24 := hs24.cap
      have hrw24 : RwR _ ⟨x24.labels, x24.rv⟩ _ := ⟨_, _, rfl, hs24, hr24⟩
      replace hst5 := hst5.more (r := .free) trivial List.nodup_nil (by simp [Res.blocks])
      refine region_any (tch := [(3, 3, (fun v => .blk v _)), (5, 3, (fun v => .blk v _))]) (fun h => by cases h) hst5 hfr5 (by kernel_rfl) (by kernel_rfl) (by kernel_rfl) (.cons rfl (ob_move rfl) <|
          .cons rfl (ob_indexAddr (k := y) rfl rfl Tryd.underlying22 Tryd.sizeOf27 rfl (by omega)) <|
          .cons rfl (ob_loadS' rfl hcv24 Tryd.isAgg27 Tryd.sizeOf27 rfl rfl) <|
          .consT rfl rfl (fun _ => rfl) rfl (ob_allocL Tryd.zeroValue27 rfl) <|
          .cons rfl (ob_assign rfl) <|
          .consT rfl rfl (fun _ => rfl) rfl (ob_imgT 5 rfl rfl rfl fun y5 => ob_storeF rfl rfl rfl rfl rfl Tryd.sizeOf27 rfl rfl rfl) <|
          .nil) ?_
      intro a6 w6 m6 hst6 hle6 hk6
      have hfr6 := hk6.fr (T' := [(23, _), (0, _), (1, _), (3, _), (21, _), (22, _), (4, _)]) (.old rfl rfl <| .old rfl rfl <| .old rfl rfl <| .old rfl rfl <| .old rfl rfl <| .old rfl rfl <| .new rfl <| .nil)
      obtain ⟨g25, e25, _⟩ := hk6.ex 5 rfl
      replace hfr6 := hfr6.cons e25
      replace hst6 := hst6.fin (L' := [_, _, _, _]) (.cons e25 <| .cons e25 <| .nil)
      replace h_t := h_t.mono hle6
      replace hk_t := hk_t.mono hle6
      replace hs_t := hs_t.mono hle6
      replace hrw_t := hrw_t.mono hle6
      replace hc3 := hc3.mono hle6
      replace hcv24 := hcv24.mono hle6
      replace hv24 := hv24.mono hle6
      replace hkd24 := hkd24.mono hle6
      replace hs24 := hs24.mono hle6
      replace hrw24 := hrw24.mono hle6
      have hlh6 := hlh5.trans hle6
      replace hM := hM.trans hle6
      clear hst5 hfr5 hk6
      rw [hd24, walkTs_cons] at hrem
      rw [hd24, cntTs] at hroom
      refine hK23 _ _ ?_; try clear hK23 K23
      refine seq_any fun K26 hK26 => ?_
      refine region_cut 2 (by kernel_rfl) ?_
      refine ops_seq (tch := []) hst6 hfr6 (by kernel_rfl) (by kernel_rfl) (by kernel_rfl) (.cons rfl (ob_move rfl) <|
          .cons rfl (ob_loadLS' (j := 3) rfl rfl Tryd.isAgg27 Tryd.sizeOf27 rfl rfl) <|
          .nil) ?_
      intro a7 w7 m7 hst7 hle7 hk7
      have hfr7 := hk7.fr (T' := [(23, _), (0, _), (1, _), (3, _), (21, _), (22, _), (4, _), (5, _), (28, _), (29, _)]) (.old rfl rfl <| .old rfl rfl <| .old rfl rfl <| .old rfl rfl <| .old rfl rfl <| .old rfl rfl <| .old rfl rfl <| .old rfl rfl <| .new rfl <| .new rfl <| .nil)
      replace h_t := h_t.mono hle7
      replace hk_t := hk_t.mono hle7
      replace hs_t := hs_t.mono hle7
      replace hrw_t := hrw_t.mono hle7
      replace hc3 := hc3.mono hle7
      replace hcv24 := hcv24.mono hle7
      replace hv24 := hv24.mono hle7
      replace hkd24 := hkd24.mono hle7
      replace hs24 := hs24.mono hle7
      replace hrw24 := hrw24.mono hle7
      have hlh7 := hlh6.trans hle7
      replace hM := hM.trans hle7
      clear hst6 hfr6 hk7
      refine call_res [] [_] [_, _, _] hst7 hfr7 rfl (.cons rfl <| .cons rfl <| .nil) Tryd.call42 (ih x24 hm_x24 hst7.agree (hst7.sub (A := []) (B := [_]) (rs := [_, _, _])) hv24 (by simp only [room] at hroom; omega)) ?_
      intro vr8 w8 m8 rs8 hst8 hle8 hp8
      obtain ⟨u1, u2, rfl⟩ := hp8
      simp only [List.nil_append, List.cons_append] at hst8
      obtain ⟨q3, d3, rfl, -, -, -, -⟩ := Res.row_at (hst8.loc.at_ (k := 1) rfl)
      obtain ⟨q4, d4, rfl, -, -, -, -⟩ := Res.row_at (hst8.loc.at_ (k := 2) rfl)
      have h9 := walk_room x24 s
      have h9b : (walkT x24 (s.1, s.2)).1.length + (walkT x24 (s.1, s.2)).2.length ≤ room s + 2 * cntT x24 := walk_room x24 s
      have hfr8 := (hfr7.sub (T' := [(23, _), (0, _), (1, _), (3, _), (21, _), (22, _), (4, _), (5, _), (28, _), (29, _)]) (.cons rfl <| .cons rfl <| .cons rfl <| .cons rfl <| .cons rfl <| .cons rfl <| .cons rfl <| .cons rfl <| .cons rfl <| .cons rfl <| .nil)).put (d := 30) (v := vr8) (by kernel_rfl) rfl
      replace h_t := h_t.mono hle8
      replace hk_t := hk_t.mono hle8
      replace hs_t := hs_t.mono hle8
      replace hrw_t := hrw_t.mono hle8
      replace hc3 := hc3.mono hle8
      replace hcv24 := hcv24.mono hle8
      replace hv24 := hv24.mono hle8
      replace hkd24 := hkd24.mono hle8
      replace hs24 := hs24.mono hle8
      replace hrw24 := hrw24.mono hle8
      have hlh8 := hlh7.trans hle8
      replace hM := hM.trans hle8
      clear hst7 hfr7
      refine hK26 _ _ ?_; try clear hK26 K26
      refine seq_any fun K27 hK27 => ?_
      refine region_plain (fun h => by cases h) hst8 hfr8 (by kernel_rfl) (by kernel_rfl) (.cons rfl (ob_move rfl) <|
          .cons rfl (ob_eql rfl rfl) <|
          .cons rfl (ob_move rfl) <|
          .cons rfl (ob_fieldAddr rfl Tryd.underlying27 rfl Tryd.sizeOf3 rfl) <|
          .cons rfl (ob_load1 rfl hc3 Tryd.isAgg3 rfl) <|
          .cons rfl (ob_eql rfl rfl) <|
          .cons rfl (ob_and rfl rfl rfl) <|
          .cons rfl (ob_move rfl) <|
          .cons rfl (ob_fieldAddr rfl Tryd.underlying27 rfl Tryd.sizeOf25 rfl) <|
          .cons rfl (ob_fieldAddr rfl Tryd.underlying25 rfl Tryd.sizeOf3 rfl) <|
          .cons rfl (ob_load1 rfl (hc3.drop 4) Tryd.isAgg3 rfl) <|
          .cons rfl (ob_gtr rfl rfl) <|
          .cons rfl (ob_and rfl rfl rfl) <|
          .nil) ?_
      intro a9 w9 m9 hst9 hle9 hk9
      have hfr9 := hk9.fr (T' := [(23, _), (0, _), (1, _), (3, _), (21, _), (22, _), (4, _), (5, _), (28, _), (29, _), (43, _)]) (.old rfl rfl <| .old rfl rfl <| .old rfl rfl <| .old rfl rfl <| .old rfl rfl <| .old rfl rfl <| .old rfl rfl <| .old rfl rfl <| .old rfl rfl <| .old rfl rfl <| .new rfl <| .nil)
      replace h_t := h_t.mono hle9
      replace hk_t := hk_t.mono hle9
      replace hs_t := hs_t.mono hle9
      replace hrw_t := hrw_t.mono hle9
      replace hc3 := hc3.mono hle9
      replace hcv24 := hcv24.mono hle9
      replace hv24 := hv24.mono hle9
      replace hkd24 := hkd24.mono hle9
      replace hs24 := hs24.mono hle9
      replace hrw24 := hrw24.mono hle9
      have hlh9 := hlh8.trans hle9
      replace hM := hM.trans hle9
      clear hst8 hfr8 hk9
      refine hK27 _ _ ?_; try clear hK27 K27
      refine cond_any hfr9 rfl rfl (fun hb43 => ?_) (fun hb43 => ?_)
      · try simp only [Bool.not_eq_true', Bool.not_eq_false', decide_eq_true_eq, decide_eq_false_iff_not, Bool.and_eq_true, Bool.or_eq_true, Bool.and_eq_false_iff, Bool.or_eq_false_iff, Bool.not_not, u8_eq] at hb43
        rw [if_pos (show y = 0 by omega)] at hroom
        refine region_any (tch := [(9, 2, (fun v => .row v (withI (walkT x24 s).2 t.rv).length 1 3 ((withI (walkT x24 s).2 t.rv).map intV))), (12, 0, (fun u => .blk _ (.cells (_ ++ [u] ++ _).toArray _)))]) (fun _ => mixed) hst9 hfr9 (by kernel_rfl) (by kernel_rfl) (by kernel_rfl) (.cons rfl (ob_move rfl) <|
            .cons rfl (ob_move rfl) <|
            .cons rfl (ob_nilCheck rfl) <|
            .cons rfl (ob_fieldAddr rfl Tryd.underlying60 rfl Tryd.sizeOf35 rfl) <|
            .cons rfl (ob_loadL (j := 0) rfl rfl Tryd.isAgg35 rfl) <|
            .cons rfl (ob_fieldAddr rfl Tryd.underlying27 rfl Tryd.sizeOf25 rfl) <|
            .cons rfl (ob_fieldAddr rfl Tryd.underlying25 rfl Tryd.sizeOf3 rfl) <|
            .cons rfl (ob_load1 rfl (hc3.drop 4) Tryd.isAgg3 rfl) <|
            .cons rfl (ob_buildSlice (.cons rfl <| .nil) Tryd.underlying35 Tryd.sizeOf3 Tryd.zeroValue3 rfl rfl rfl rfl) <|
            .consT rfl rfl (fun _ => rfl) rfl (ob_imgT 52 rfl rfl rfl fun y52 => ob_callT rfl (.cons rfl <| .cons rfl <| .nil) Tryd.call56 (κ := .ex (MP.sl (withI (walkT x24 s).2 t.rv).length ((withI (walkT x24 s).2 t.rv).map intV))) (fun σ w m hK hr hkn => by have hle_ := KC.le hK; have hA := KC.agree hK; have hM := hM.trans hle_; have hr0_ := hK.2; have h_t := h_t.mono hle_; have hk_t := hk_t.mono hle_; have hs_t := hs_t.mono hle_; have hrw_t := hrw_t.mono hle_; have hc3 := hc3.mono hle_; have hcv24 := hcv24.mono hle_; have hv24 := hv24.mono hle_; have hkd24 := hkd24.mono hle_; have hs24 := hs24.mono hle_; have hrw24 := hrw24.mono hle_; exact with_c (ks := [t.rv]) hA hr (Sl.one hr0_ rfl rfl) (by have h9 : (walkT x24 s).1.length + (walkT x24 s).2.length ≤ room s + 2 * cntT x24 := walk_room x24 s; simp only [List.length_cons, List.length_nil]; omega))) <|
            .cons rfl (ob_nilCheck rfl) <|
            .cons rfl (ob_fieldAddr rfl Tryd.underlying60 rfl Tryd.sizeOf35 rfl) <|
            .consT rfl rfl (fun _ => rfl) rfl (ob_imgT 53 rfl rfl rfl fun y53 => ob_storeV rfl rfl rfl rfl rfl Tryd.sizeOf35 rfl rfl rfl) <|
            .nil) ?_
        intro a10 w10 m10 hst10 hle10 hk10
        have hfr10 := hk10.fr (T' := [(23, _), (0, _), (1, _), (3, _), (21, _), (22, _), (4, _), (5, _), (28, _), (29, _)]) (.old rfl rfl <| .old rfl rfl <| .old rfl rfl <| .old rfl rfl <| .old rfl rfl <| .old rfl rfl <| .old rfl rfl <| .old rfl rfl <| .old rfl rfl <| .old rfl rfl <| .nil)
        obtain ⟨⟨Bo2, Bp2⟩, e28, hrow2_B, hcap2_B⟩ := hk10.ex 53 rfl
        replace hfr10 := hfr10.cons e28
        replace hst10 := hst10.fin (L' := [_, _, _, _]) (.cons e28 <| .cons e28 <| .nil)
        replace h_t := h_t.mono hle10
        replace hk_t := hk_t.mono hle10
        replace hs_t := hs_t.mono hle10
        replace hrw_t := hrw_t.mono hle10
        replace hc3 := hc3.mono hle10
        replace hcv24 := hcv24.mono hle10
        replace hv24 := hv24.mono hle10
        replace hkd24 := hkd24.mono hle10
        replace hs24 := hs24.mono hle10
        replace hrw24 := hrw24.mono hle10
        have hlh10 := hlh9.trans hle10
        replace hM := hM.trans hle10
        clear hst9 hfr9 hk10
        refine hK22 _ _ ?_; try clear hK22 K22
        refine region_plain (fun h => by cases h) hst10 hfr10 (by kernel_rfl) (by kernel_rfl) (.cons rfl (ob_add rfl rfl ⟨by omega, by omega⟩) <|
            .cons rfl (ob_move rfl) <|
            .nil) ?_
        intro a11 w11 m11 hst11 hle11 hk11
        have hfr11 := hk11.fr (T' := [(0, _), (1, _), (3, _), (21, _), (22, _), (4, _), (5, _), (28, _), (29, _), (23, _)]) (.old rfl rfl <| .old rfl rfl <| .old rfl rfl <| .old rfl rfl <| .old rfl rfl <| .old rfl rfl <| .old rfl rfl <| .old rfl rfl <| .old rfl rfl <| .new rfl <| .nil)
        replace h_t := h_t.mono hle11
        replace hk_t := hk_t.mono hle11
        replace hs_t := hs_t.mono hle11
        replace hrw_t := hrw_t.mono hle11
        replace hc3 := hc3.mono hle11
        replace hcv24 := hcv24.mono hle11
        replace hv24 := hv24.mono hle11
        replace hkd24 := hkd24.mono hle11
        replace hs24 := hs24.mono hle11
        replace hrw24 := hrw24.mono hle11
        replace hrow2_B := hrow2_B.mono hle11
        have hlh11 := hlh10.trans hle11
        replace hM := hM.trans hle11
        clear hst10 hfr10 hk11
        have hst11 := hst11.take 3
        exact ⟨(y + 1, ((walkT x24 s).1, withI (walkT x24 s).2 t.rv), (q3, d3), (Bo2, Bp2)), m11, by show t.args.length - (y + 1) < t.args.length - y; omega, ⟨hst11, hlh11, hfr11.sub (.cons rfl <| .cons rfl <| .cons rfl <| .cons rfl <| .cons rfl <| .cons rfl <| .nil), ⟨by show y + 1 ≤ t.args.length; omega, by rw [hrem]; first | rw [if_pos (show y = 0 ∧ t.kind = 5 ∧ 0 < t.rv by omega)] | rw [if_neg (show ¬ (y = 0 ∧ t.kind = 5 ∧ 0 < t.rv) by omega)], by have h9 : (walkT x24 s).1.length + (walkT x24 s).2.length ≤ room s + 2 * cntT x24 := walk_room x24 s; have h8 := withI_len (walkT x24 s).2 t.rv; show (walkT x24 s).1.length + (withI (walkT x24 s).2 t.rv).length + 2 * cntTs (t.args.drop (y + 1)) + (if y + 1 = 0 then 1 else 0) ≤ 1073741824; rw [if_neg (Nat.succ_ne_zero y)]; omega⟩⟩⟩
      · try simp only [Bool.not_eq_true', Bool.not_eq_false', decide_eq_true_eq, decide_eq_false_iff_not, Bool.and_eq_true, Bool.or_eq_true, Bool.and_eq_false_iff, Bool.or_eq_false_iff, Bool.not_not, u8_eq] at hb43
        refine wp_skip ?_
        refine hK22 _ _ ?_; try clear hK22 K22
        refine region_plain (fun h => by cases h) hst9 hfr9 (by kernel_rfl) (by kernel_rfl) (.cons rfl (ob_add rfl rfl ⟨by omega, by omega⟩) <|
            .cons rfl (ob_move rfl) <|
            .nil) ?_
        intro a10 w10 m10 hst10 hle10 hk10
        have hfr10 := hk10.fr (T' := [(0, _), (1, _), (3, _), (21, _), (22, _), (4, _), (5, _), (28, _), (29, _), (23, _)]) (.old rfl rfl <| .old rfl rfl <| .old rfl rfl <| .old rfl rfl <| .old rfl rfl <| .old rfl rfl <| .old rfl rfl <| .old rfl rfl <| .old rfl rfl <| .new rfl <| .nil)
        replace h_t := h_t.mono hle10
        replace hk_t := hk_t.mono hle10
        replace hs_t := hs_t.mono hle10
        replace hrw_t := hrw_t.mono hle10
        replace hc3 := hc3.mono hle10
        replace hcv24 := hcv24.mono hle10
        replace hv24 := hv24.mono hle10
        replace hkd24 := hkd24.mono hle10
        replace hs24 := hs24.mono hle10
        replace hrw24 := hrw24.mono hle10
        have hlh10 := hlh9.trans hle10
        replace hM := hM.trans hle10
        clear hst9 hfr9 hk10
        have hst10 := hst10.take 3
        exact ⟨(y + 1, ((walkT x24 s).1, (walkT x24 s).2), (q3, d3), (q4, d4)), m10, by show t.args.length - (y + 1) < t.args.length - y; omega, ⟨hst10, hlh10, hfr10.sub (.cons rfl <| .cons rfl <| .cons rfl <| .cons rfl <| .cons rfl <| .cons rfl <| .nil), ⟨by show y + 1 ≤ t.args.length; omega, by rw [hrem]; first | rw [if_pos (show y = 0 ∧ t.kind = 5 ∧ 0 < t.rv by omega)] | rw [if_neg (show ¬ (y = 0 ∧ t.kind = 5 ∧ 0 < t.rv) by omega)], by have h9 : (walkT x24 s).1.length + (walkT x24 s).2.length ≤ room s + 2 * cntT x24 := walk_room x24 s; have h8 := withI_len (walkT x24 s).2 t.rv; show (walkT x24 s).1.length + ((walkT x24 s).2).length + 2 * cntTs (t.args.drop (y + 1)) + (if y + 1 = 0 then 1 else 0) ≤ 1073741824; rw [if_neg (Nat.succ_ne_zero y)]; omega⟩⟩⟩
    · try simp only [Bool.not_eq_true', Bool.not_eq_false', decide_eq_true_eq, decide_eq_false_iff_not, Bool.and_eq_true, Bool.or_eq_true, Bool.and_eq_false_iff, Bool.or_eq_false_iff, Bool.not_not, u8_eq] at hb24
      have hge : y = t.args.length := by omega
      rw [List.drop_of_length_le (by omega), walkTs] at hrem
      refine wp_exit ?_
      repeat (with_reducible first | refine then_exit ?_ | refine block_exit ?_ | refine block_normal ?_)
      exact fn_end hst5 hfr5 rfl (.nil) (⟨_, hst5.loc, _, _, by rw [hrem]⟩)
theorem walk_c (t : Ty) : walk_G t := Ty.rec_ (p := walk_G) (fun t ih => walk_s ih) t

end Go.Proofs.YtembdjghbphcdaaDoor
