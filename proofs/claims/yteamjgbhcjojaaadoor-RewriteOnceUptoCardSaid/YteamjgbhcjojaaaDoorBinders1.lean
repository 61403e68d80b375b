/-
  Names that are bound in a term; a term in which a free variable is another one. Conditions: those of each theorem.
-/
import Derived.Test.YteamjgbhcjojaaaDoorQuotes1
namespace Go.Proofs.YteamjgbhcjojaaaDoor
set_option linter.all false
set_option maxRecDepth 4000
open Go.RowKit
mutual
def bndT : Tm → List Str
  | ⟨k, _, s, p, _, ks, az, _⟩ => (((if k = 5 ∨ k = 7 ∨ k = 8 then [s] else []) ++ (if k = 8 then [p] else [])) ++ bndKs ks) ++ bndAs az
def bndKs : List Tm → List Str
  | [] => []
  | t :: ts => bndT t ++ bndKs ts
def bndAs : List Ar → List Str
  | [] => []
  | ⟨_, l, b⟩ :: ts => (l ++ bndT b) ++ bndAs ts
end
theorem bndT_eq (t : Tm) : bndT t = (((if t.kind = 5 ∨ t.kind = 7 ∨ t.kind = 8 then [t.name] else []) ++ (if t.kind = 8 then [t.param] else [])) ++ bndKs t.kids) ++ bndAs t.arms := by obtain ⟨k, a, s, p, n, ks, az, r⟩ := t; rw [bndT]; rfl
theorem bndAs_cons (a : Ar) (ts : List Ar) : bndAs (a :: ts) = (a.vars ++ bndT a.body) ++ bndAs ts := by obtain ⟨x, l, b⟩ := a; rw [bndAs]; rfl
theorem bndT_len (t : Tm) : (bndT t).length ≤ bulkM t := by
  induction t using Tm.rec_ with
  | h t ihk iha =>
    have hk : ∀ (l : List Tm), (∀ u ∈ l, u ∈ t.kids) → (bndKs l).length ≤ bulkKs l := by
      intro l
      induction l with
      | nil => intro _; simp [bndKs]
      | cons u l ih => intro hl; rw [bndKs, bulkKs, List.length_append]; have := ihk u (hl u (.head _)); have := ih (fun u hu => hl u (.tail _ hu)); omega
    have ha : ∀ (l : List Ar), (∀ u ∈ l, u ∈ t.arms) → (bndAs l).length ≤ bulkAs l := by
      intro l
      induction l with
      | nil => intro _; simp [bndAs]
      | cons u l ih =>
        intro hl
        have h1 := iha u (hl u (.head _)); have h2 := ih (fun u hu => hl u (.tail _ hu)); have h3 := sum_len u.vars
        obtain ⟨n_, v_, b_⟩ := u
        rw [bndAs_cons, bulkAs, List.length_append, List.length_append]; simp only [Ar.vars, Ar.body] at *; omega
    rw [bndT_eq, bulkM_eq, List.length_append, List.length_append, List.length_append]
    have := hk t.kids (fun _ h => h); have := ha t.arms (fun _ h => h)
    have h1 : (if t.kind = 5 ∨ t.kind = 7 ∨ t.kind = 8 then [t.name] else []).length ≤ 1 := by split <;> simp
    have h2 : (if t.kind = 8 then [t.param] else []).length ≤ 1 := by split <;> simp
    omega
abbrev binders_G (t : Tm) : Prop := ∀ {w : World} {m : Mem} {vs_t : List Value} (hA : Agree w m) (h_t : TmR m t vs_t) (hb : bulkM t ≤ 1000000000), FnV Tryd.prog 14 #[.agg vs_t.toArray] w m (fun _ m v => (MP.strs (bndT t)).p m v)
set_option maxHeartbeats 1600000 in
theorem binders_s {t : Tm} (ihk : ∀ u ∈ t.kids, binders_G u) (iha : ∀ a ∈ t.arms, binders_G a.body) {w : World} {m : Mem} {vs_t : List Value} (hA : Agree w m) (h_t : TmR m t vs_t) (hb : bulkM t ≤ 1000000000) : FnV Tryd.prog 14 #[.agg vs_t.toArray] w m (fun _ m v => (MP.strs (bndT t)).p m v) := by
  obtain ⟨⟨oK_t, cK_t, oA_t, cA_t, oR_t, cR_t, t0_t, t1_t, t2_t, t3_t, t4_t, t5_t, u0_t, u1_t, u2_t, u3_t, u4_t, u5_t⟩, rfl, hon_t, hkk_t, haa_t, hrr_t⟩ := h_t.open_
  dsimp only at hkk_t haa_t hrr_t
  have hbg_t := hkk_t.big; have hcp_t := hkk_t.cap; have hbh_t := haa_t.big; have hcq_t := haa_t.cap
  refine fn_enter (vs := [_]) Tryd.func14 rfl rfl rfl fun a0 hfr0 => ?_
  have hst0 := st_enter hA (loc_nil [] _ w m)
  have hM : MLe m m := MLe.refl m
  have hbl := bndT_len t
  have hbk := fun u (hu : u ∈ t.kids) => bulk_kid hu
  have hba := fun a (ha : a ∈ t.arms) => bulk_arm ha
  refine seq_any fun _ hK1 => ?_
  refine rp0 hst0 hfr0 (.cons rfl (ob_box rfl rfl) <| .cons rfl (ob_assign rfl) <| .nil) ?_
  intro a1 w1 m1 hst1 hle1 hk1
  have hfr1 := hk1.fr (T' := []) (.nil)
  obtain ⟨g2, e2, hc1⟩ := hk1.ex 1 rfl
  replace hfr1 := hfr1.cons e2
  replace hkk_t := hkk_t.mono hle1
  replace haa_t := haa_t.mono hle1
  clear hst0 hfr0 hk1
  refine hK1 _ _ ?_; clear hK1
  refine seq_any fun _ hK3 => ?_
  refine rp0 hst1 hfr1 (.cons rfl (ob_assign rfl) <| .nil) ?_
  intro a2 w2 m2 hst2 hle2 hk2
  have hfr2 := hk2.fr (T' := [(1, _), (3, _)]) (.old rfl rfl <| .new rfl <| .nil)
  replace hkk_t := hkk_t.mono hle2
  replace haa_t := haa_t.mono hle2
  replace hc1 := hc1.mono hle2
  clear hst1 hfr1 hk2
  have hst2 := hst2.more (r := .rowx (.slice none 0 0) 0 1 9 (MP.reads (fun _ vs (x : Str) => vs = [S x]) 1 [])) rowx_new List.nodup_nil (by simp [Res.blocks, rowBlock])
  have hsl_O : Strs m2 none ([] : List Str).length 0 ([] : List Str) := Sl.empty
  refine hK3 _ _ ?_; clear hK3
  refine seq_any fun _ hK4 => ?_
  refine seq_any fun _ hK5 => ?_
  refine rp0 hst2 hfr2 (.cons rfl (ob_fieldAddrO (off := 0) rfl Tryd.underlying33 rfl rfl Tryd.sizeOf3 rfl) <| .cons rfl (ob_load1 rfl hc1 Tryd.isAgg3 rfl) <| .cons rfl (ob_eql rfl rfl) <| .cons rfl (ob_move rfl) <| .cons rfl (ob_fieldAddrO (off := 0) rfl Tryd.underlying33 rfl rfl Tryd.sizeOf3 rfl) <| .cons rfl (ob_load1 rfl hc1 Tryd.isAgg3 rfl) <| .cons rfl (ob_eql rfl rfl) <| .cons rfl (ob_or rfl rfl rfl) <| .cons rfl (ob_move rfl) <| .cons rfl (ob_fieldAddrO (off := 0) rfl Tryd.underlying33 rfl rfl Tryd.sizeOf3 rfl) <| .cons rfl (ob_load1 rfl hc1 Tryd.isAgg3 rfl) <| .cons rfl (ob_eql rfl rfl) <| .cons rfl (ob_or rfl rfl rfl) <| .nil) ?_
  intro a3 w3 m3 hst3 hle3 hk3
  have hfr3 := hk3.fr (T' := [(1, _), (3, _), (18, _)]) (.old rfl rfl <| .old rfl rfl <| .new rfl <| .nil)
  replace hkk_t := hkk_t.mono hle3
  replace haa_t := haa_t.mono hle3
  replace hc1 := hc1.mono hle3
  replace hsl_O := hsl_O.mono hle3
  clear hst2 hfr2 hk3
  refine hK5 _ _ ?_; clear hK5
  refine cond_any hfr3 rfl rfl (fun hb18 => ?_) (fun hb18 => ?_)
  · try simp only [nq1, nq2, nq3, nq4, nq5, nq6, nq7, nq8, nq9, u8_eq] at hb18
    refine ra0 (tch := [(4, 0, (fun v => .rowx (nz v) _ _ _ _))]) hst3 hfr3 (.cons rfl (ob_move rfl) <| .cons rfl (ob_fieldAddrO (off := 2) rfl Tryd.underlying33 rfl rfl Tryd.sizeOf9 rfl) <| .cons rfl (ob_load1 rfl hc1 Tryd.isAgg9 rfl) <| .cons rfl (ob_buildSlice (.cons rfl <| .nil) Tryd.underlying27 Tryd.sizeOf9 Tryd.zeroValue9 rfl rfl rfl rfl) <| .consT rfl rfl (fun _ => rfl) rfl (ob_imgT 22 rfl rfl rfl fun y22 => ob_appendX (size := 1) (bytes := 16) (l := ([] : List Str)) (l' := [t.name]) rfl rfl (fun _ => by first | exact .inl rfl | exact .inr (.inl rfl)) Tryd.underlying27 Tryd.type9 rfl rfl rfl rfl (fun w m hK => Sl.one (vs := [_]) hK.2 rfl rfl) rfl (by decide) (by simp only [maxLen]; omega) (by omega)) <| .consA 23 rfl rfl <| .nil) ?_
    intro a4 w4 m4 hst4 hle4 hk4
    have hfr4 := hk4.fr (T' := [(1, _)]) (.old rfl rfl <| .nil)
    obtain ⟨⟨O_6o, O_6p⟩, e7, hsl_O_6⟩ := hk4.ex 23 rfl
    replace hfr4 := hfr4.cons (hk4.same 3 rfl e7)
    replace hst4 := hst4.fin (L' := [_]) (.cons e7 <| .nil)
    replace hkk_t := hkk_t.mono hle4
    replace haa_t := haa_t.mono hle4
    replace hc1 := hc1.mono hle4
    clear hst3 hfr3 hk4
    replace hsl_O_6 : Strs m4 O_6o (([] : List Str) ++ [t.name]).length O_6p (([] : List Str) ++ [t.name]) := hsl_O_6
    refine hK4 _ _ ?_; clear hK4
    refine seq_any fun _ hK8 => ?_
    refine seq_any fun _ hK9 => ?_
    refine rp0 hst4 hfr4 (.cons rfl (ob_fieldAddrO (off := 0) rfl Tryd.underlying33 rfl rfl Tryd.sizeOf3 rfl) <| .cons rfl (ob_load1 rfl hc1 Tryd.isAgg3 rfl) <| .cons rfl (ob_eql rfl rfl) <| .nil) ?_
    intro a5 w5 m5 hst5 hle5 hk5
    have hfr5 := hk5.fr (T' := [(1, _), (3, _), (26, _)]) (.old rfl rfl <| .old rfl rfl <| .new rfl <| .nil)
    replace hkk_t := hkk_t.mono hle5
    replace haa_t := haa_t.mono hle5
    replace hc1 := hc1.mono hle5
    replace hsl_O_6 := hsl_O_6.mono hle5
    clear hst4 hfr4 hk5
    refine hK9 _ _ ?_; clear hK9
    refine cond_any hfr5 rfl rfl (fun hb26 => ?_) (fun hb26 => ?_)
    · try simp only [nq1, nq2, nq3, nq4, nq5, nq6, nq7, nq8, nq9, u8_eq] at hb26
      have hout0 : bndT t = (([] : List Str) ++ [t.name]) ++ [t.param] ++ bndKs t.kids ++ bndAs t.arms := by first | (exfalso; omega) | (rw [bndT_eq, if_pos (by omega), if_pos (by omega)]; simp)
      refine ra0 (tch := [(4, 0, (fun v => .rowx (nz v) _ _ _ _))]) hst5 hfr5 (.cons rfl (ob_move rfl) <| .cons rfl (ob_fieldAddrO (off := 3) rfl Tryd.underlying33 rfl rfl Tryd.sizeOf9 rfl) <| .cons rfl (ob_load1 rfl hc1 Tryd.isAgg9 rfl) <| .cons rfl (ob_buildSlice (.cons rfl <| .nil) Tryd.underlying27 Tryd.sizeOf9 Tryd.zeroValue9 rfl rfl rfl rfl) <| .consT rfl rfl (fun _ => rfl) rfl (ob_imgT 30 rfl rfl rfl fun y30 => ob_appendX (size := 1) (bytes := 16) (l := (([] : List Str) ++ [t.name])) (l' := [t.param]) rfl rfl (fun _ => by first | exact .inl rfl | exact .inr (.inl rfl)) Tryd.underlying27 Tryd.type9 rfl rfl rfl rfl (fun w m hK => Sl.one (vs := [_]) hK.2 rfl rfl) rfl (by decide) (by simp only [maxLen]; (try simp only [List.length_append, List.length_cons, List.length_nil]); omega) (by (try simp only [List.length_append, List.length_cons, List.length_nil]); omega)) <| .consA 31 rfl rfl <| .nil) ?_
      intro a6 w6 m6 hst6 hle6 hk6
      have hfr6 := hk6.fr (T' := [(1, _)]) (.old rfl rfl <| .nil)
      obtain ⟨⟨O_10o, O_10p⟩, e11, hsl_O_10⟩ := hk6.ex 31 rfl
      replace hfr6 := hfr6.cons (hk6.same 3 rfl e11)
      replace hst6 := hst6.fin (L' := [_]) (.cons e11 <| .nil)
      replace hkk_t := hkk_t.mono hle6
      replace haa_t := haa_t.mono hle6
      replace hc1 := hc1.mono hle6
      clear hst5 hfr5 hk6
      replace hsl_O_10 : Strs m6 O_10o ((([] : List Str) ++ [t.name]) ++ [t.param]).length O_10p ((([] : List Str) ++ [t.name]) ++ [t.param]) := hsl_O_10
      refine hK8 _ _ ?_; clear hK8
      refine seq_any fun _ hK12 => ?_
      refine seq_any fun _ hK13 => ?_
      refine rp0 hst6 hfr6 (.cons rfl (ob_assign rfl) <| .nil) ?_
      intro a7 w7 m7 hst7 hle7 hk7
      have hfr7 := hk7.fr (T' := [(1, _), (3, _), (4, _)]) (.old rfl rfl <| .old rfl rfl <| .new rfl <| .nil)
      replace hkk_t := hkk_t.mono hle7
      replace haa_t := haa_t.mono hle7
      replace hc1 := hc1.mono hle7
      replace hsl_O_10 := hsl_O_10.mono hle7
      clear hst6 hfr6 hk7
      refine hK13 _ _ ?_; clear hK13
      refine wp_block ?_
      refine loop_any (T := [(1, _)]) (fun (y : Nat × Option Addr × Nat × List Str) => ([(3, .slice y.2.1 y.2.2.2.length y.2.2.1), (4, .int .i64 (y.1 : Int))] : List (Nat × Value))) (fun y => [.rowx (nz (.slice y.2.1 y.2.2.2.length y.2.2.1)) y.2.2.2.length 1 9 (MP.reads (fun _ vs (x : Str) => vs = [S x]) 1 y.2.2.2)]) (fun (y : Nat × Option Addr × Nat × List Str) m => (fun (y : Nat) (gao : Option Addr) (gap : Nat) (ga : List Str) => (y ≤ t.kids.length) ∧ (Strs m gao ga.length gap ga) ∧ (bndT t = ga ++ bndKs (t.kids.drop y) ++ bndAs t.arms)) y.1 y.2.1 y.2.2.1 y.2.2.2) (fun y => t.kids.length - y.1) ((0, O_10o, O_10p, ((([] : List Str) ++ [t.name]) ++ [t.param]))) ⟨hst7, MLe.refl _, hfr7.sub (.cons rfl <| .cons rfl <| .cons rfl <| .nil), ⟨Nat.zero_le _, hsl_O_10, by simpa using hout0⟩⟩ fun y a8 w8 m8 hh8 => ?_
      have hst8 := hh8.st; have hle8 := hh8.le; have hfr8 := hh8.fr; have hrel := hh8.rel; clear hh8
      replace hkk_t := hkk_t.mono hle8
      replace haa_t := haa_t.mono hle8
      replace hc1 := hc1.mono hle8
      clear hst7 hfr7
      obtain ⟨y, gao, gap, ga⟩ := y
      dsimp only at hrel hfr8 hst8
      obtain ⟨hyn, hsl_ga, hlen_ga⟩ := hrel
      have hlh8 := hle8
      refine seq_any fun _ hK15 => ?_
      refine seq_any fun _ hK16 => ?_
      refine rp0 hst8 hfr8 (.cons rfl (ob_move rfl) <| .cons rfl (ob_fieldAddrO (off := 5) rfl Tryd.underlying33 rfl rfl Tryd.sizeOf24 rfl) <| .cons rfl (ob_load1 rfl hc1 Tryd.isAgg24 rfl) <| .cons rfl (ob_len rfl Tryd.underlying24) <| .cons rfl (ob_lss rfl rfl) <| .nil) ?_
      intro a9 w9 m9 hst9 hle9 hk9
      have hfr9 := hk9.fr (T' := [(3, _), (4, _), (1, _), (36, _)]) (.old rfl rfl <| .old rfl rfl <| .old rfl rfl <| .new rfl <| .nil)
      replace hkk_t := hkk_t.mono hle9
      replace haa_t := haa_t.mono hle9
      replace hc1 := hc1.mono hle9
      replace hsl_ga := hsl_ga.mono hle9
      have hlh9 := hlh8.trans hle9
      clear hst8 hfr8 hk9
      refine hK16 _ _ ?_; clear hK16
      refine cond_any hfr9 rfl rfl (fun hb36 => ?_) (fun hb36 => ?_)
      · try simp only [nq1, nq2, nq3, nq4, nq5, nq6, nq7, nq8, nq9, u8_eq] at hb36
        refine wp_skip ?_
        refine hK15 _ _ ?_; clear hK15
        refine seq_any fun _ hK17 => ?_
        refine wp_block ?_
        obtain ⟨p18, vs18, x18, ho18, hd18, hm_x18, ht18, hcv18, hl18, hv18⟩ := hkk_t.nth (k := y) (by omega)
        cases ho18
        obtain ⟨⟨oK18, cK18, oA18, cA18, oR18, cR18, t018, t118, t218, t318, t418, t518, u018, u118, u218, u318, u418, u518⟩, rfl, hon18, hkk18, haa18, hrr18⟩ := hv18.open_
        dsimp only at hkk18 haa18 hrr18
        have hbg18 := hkk18.big; have hcp18 := hkk18.cap; have hbh18 := haa18.big; have hcq18 := haa18.cap
        rw [hd18, bndKs] at hlen_ga
        have hla9 := congrArg List.length hlen_ga
        simp only [List.length_append] at hla9
        refine ra0 (tch := [(7, 0, (fun v => .rowx (nz v) _ _ _ _))]) hst9 hfr9 (.cons rfl (ob_move rfl) <| .cons rfl (ob_fieldAddrO (off := 5) rfl Tryd.underlying33 rfl rfl Tryd.sizeOf24 rfl) <| .cons rfl (ob_load1 rfl hc1 Tryd.isAgg24 rfl) <| .cons rfl (ob_move rfl) <| .cons rfl (ob_indexAddr (k := y) rfl rfl Tryd.underlying24 Tryd.sizeOf33 rfl (by omega)) <| .cons rfl (ob_loadS' rfl hcv18 Tryd.isAgg33 Tryd.sizeOf33 rfl rfl) <| .cons rfl (ob_call (φ := MP.strs (bndT x18)) rfl (.cons rfl <| .nil) Tryd.call14 (fun w m hK => by have hle_ := KC.le hK; have hA := KC.agree hK; have hv18 := hv18.mono hle_; exact FnG.mono (ihk _ hm_x18 hA hv18 (by have := hbk _ hm_x18; omega)) fun _ _ _ _ h => h)) <| .consT rfl rfl (fun _ => rfl) rfl (ob_imgT 45 rfl rfl rfl fun y45 => ob_appendX (size := 1) (bytes := 16) (l := ga) (l' := bndT x18) rfl rfl (fun _ => by first | exact .inl rfl | exact .inr (.inl rfl)) Tryd.underlying27 Tryd.type9 rfl rfl rfl rfl (fun w m hK => hK.2) rfl (by decide) (by simp only [maxLen]; omega) (by omega)) <| .consA 46 rfl rfl <| .nil) ?_
        intro a10 w10 m10 hst10 hle10 hk10
        have hfr10 := hk10.fr (T' := [(4, _), (1, _)]) (.old rfl rfl <| .old rfl rfl <| .nil)
        obtain ⟨⟨O_19o, O_19p⟩, e20, hsl_O_19⟩ := hk10.ex 46 rfl
        replace hfr10 := hfr10.cons (hk10.same 3 rfl e20)
        replace hst10 := hst10.fin (L' := [_]) (.cons e20 <| .nil)
        have hlh10 := hlh9.trans hle10
        clear hst9 hfr9 hk10
        replace hsl_O_19 : Strs m10 O_19o (ga ++ bndT x18).length O_19p (ga ++ bndT x18) := hsl_O_19
        refine hK17 _ _ ?_; clear hK17
        refine rp0 hst10 hfr10 (.cons rfl (ob_move rfl) <| .cons rfl (ob_add rfl rfl ⟨by omega, by omega⟩) <| .cons rfl (ob_assign rfl) <| .nil) ?_
        intro a11 w11 m11 hst11 hle11 hk11
        have hfr11 := hk11.fr (T' := [(1, _), (3, _), (4, _)]) (.old rfl rfl <| .old rfl rfl <| .new rfl <| .nil)
        replace hsl_O_19 := hsl_O_19.mono hle11
        have hlh11 := hlh10.trans hle11
        clear hst10 hfr10 hk11
        exact ⟨(y + 1, O_19o, O_19p, (ga ++ bndT x18)), m11, by show t.kids.length - (y + 1) < t.kids.length - y; omega, ⟨hst11, hlh11, hfr11.sub (.cons rfl <| .cons rfl <| .cons rfl <| .nil), ⟨by show y + 1 ≤ t.kids.length; omega, hsl_O_19, by rw [hlen_ga]; show _ = ((ga ++ bndT x18) ++ bndKs (t.kids.drop (y + 1))) ++ bndAs t.arms; simp [List.append_assoc]⟩⟩⟩
      · try simp only [nq1, nq2, nq3, nq4, nq5, nq6, nq7, nq8, nq9, u8_eq] at hb36
        have hge : y = t.kids.length := by omega
        rw [List.drop_of_length_le (by omega), bndKs, List.append_nil] at hlen_ga
        refine wp_exit ?_
        refine hK12 _ _ ?_; clear hK12
        refine seq_any fun _ hK21 => ?_
        refine seq_any fun _ hK22 => ?_
        refine rp0 hst9 hfr9 (.cons rfl (ob_assign rfl) <| .nil) ?_
        intro a10 w10 m10 hst10 hle10 hk10
        have hfr10 := hk10.fr (T' := [(3, _), (4, _), (1, _), (5, _)]) (.old rfl rfl <| .old rfl rfl <| .old rfl rfl <| .new rfl <| .nil)
        replace haa_t := haa_t.mono hle10
        replace hc1 := hc1.mono hle10
        replace hsl_ga := hsl_ga.mono hle10
        have hlh10 := hlh9.trans hle10
        clear hst9 hfr9 hk10
        refine hK22 _ _ ?_; clear hK22
        refine wp_block ?_
        have hlq23 := hlh10
        refine loop_any (T := [(4, _), (1, _)]) (fun (y : Nat × Option Addr × Nat × List Str) => ([(3, .slice y.2.1 y.2.2.2.length y.2.2.1), (5, .int .i64 (y.1 : Int))] : List (Nat × Value))) (fun y => [.rowx (nz (.slice y.2.1 y.2.2.2.length y.2.2.1)) y.2.2.2.length 1 9 (MP.reads (fun _ vs (x : Str) => vs = [S x]) 1 y.2.2.2)]) (fun (y : Nat × Option Addr × Nat × List Str) m => (fun (y : Nat) (gbo : Option Addr) (gbp : Nat) (gb : List Str) => (y ≤ t.arms.length) ∧ (Strs m gbo gb.length gbp gb) ∧ (bndT t = gb ++ bndAs (t.arms.drop y))) y.1 y.2.1 y.2.2.1 y.2.2.2) (fun y => t.arms.length - y.1) ((0, gao, gap, ga)) ⟨hst10, MLe.refl _, hfr10.sub (.cons rfl <| .cons rfl <| .cons rfl <| .cons rfl <| .nil), ⟨Nat.zero_le _, hsl_ga, hlen_ga⟩⟩ fun y a11 w11 m11 hh11 => ?_
        have hst11 := hh11.st; have hle11 := hh11.le; have hfr11 := hh11.fr; have hrel := hh11.rel; clear hh11
        replace haa_t := haa_t.mono hle11
        replace hc1 := hc1.mono hle11
        clear hst10 hfr10
        obtain ⟨y, gbo, gbp, gb⟩ := y
        dsimp only at hrel hfr11 hst11
        obtain ⟨hyn, hsl_gb, hlen_gb⟩ := hrel
        have hlh11 := hle11
        refine seq_any fun _ hK24 => ?_
        refine seq_any fun _ hK25 => ?_
        refine rp0 hst11 hfr11 (.cons rfl (ob_move rfl) <| .cons rfl (ob_fieldAddrO (off := 6) rfl Tryd.underlying33 rfl rfl Tryd.sizeOf25 rfl) <| .cons rfl (ob_load1 rfl hc1 Tryd.isAgg25 rfl) <| .cons rfl (ob_len rfl Tryd.underlying25) <| .cons rfl (ob_lss rfl rfl) <| .nil) ?_
        intro a12 w12 m12 hst12 hle12 hk12
        have hfr12 := hk12.fr (T' := [(3, _), (5, _), (4, _), (1, _), (51, _)]) (.old rfl rfl <| .old rfl rfl <| .old rfl rfl <| .old rfl rfl <| .new rfl <| .nil)
        replace haa_t := haa_t.mono hle12
        replace hc1 := hc1.mono hle12
        replace hsl_gb := hsl_gb.mono hle12
        have hlh12 := hlh11.trans hle12
        clear hst11 hfr11 hk12
        refine hK25 _ _ ?_; clear hK25
        refine cond_any hfr12 rfl rfl (fun hb51 => ?_) (fun hb51 => ?_)
        · try simp only [nq1, nq2, nq3, nq4, nq5, nq6, nq7, nq8, nq9, u8_eq] at hb51
          refine wp_skip ?_
          refine hK24 _ _ ?_; clear hK24
          refine seq_any fun _ hK26 => ?_
          refine wp_block ?_
          refine seq_any fun _ hK27 => ?_
          obtain ⟨p28, vs28, x28, ho28, hd28, hm_x28, ht28, hcv28, hl28, hv28⟩ := haa_t.nth (k := y) (by omega)
          cases ho28
          obtain ⟨oV28, cV28, bs28, rfl, hva28, hbd28⟩ := hv28.open_
          have hbv28 := hva28.big; have hcv28_ := hva28.cap
          obtain ⟨⟨oK28b, cK28b, oA28b, cA28b, oR28b, cR28b, t028b, t128b, t228b, t328b, t428b, t528b, u028b, u128b, u228b, u328b, u428b, u528b⟩, rfl, hon28b, hkk28b, haa28b, hrr28b⟩ := hbd28.open_
          dsimp only at hkk28b haa28b hrr28b
          have hbg28b := hkk28b.big; have hcp28b := hkk28b.cap; have hbh28b := haa28b.big; have hcq28b := haa28b.cap
          rw [hd28, bndAs_cons] at hlen_gb
          have hla9 := congrArg List.length hlen_gb
          simp only [List.length_append] at hla9
          refine ra0 (tch := [(7, 0, (fun v => .rowx (nz v) _ _ _ _))]) hst12 hfr12 (.cons rfl (ob_move rfl) <| .cons rfl (ob_fieldAddrO (off := 6) rfl Tryd.underlying33 rfl rfl Tryd.sizeOf25 rfl) <| .cons rfl (ob_load1 rfl hc1 Tryd.isAgg25 rfl) <| .cons rfl (ob_move rfl) <| .cons rfl (ob_indexAddr (k := y) rfl rfl Tryd.underlying25 Tryd.sizeOf60 rfl (by omega)) <| .cons rfl (ob_fieldAddrO (off := 1) rfl Tryd.underlying60 rfl rfl Tryd.sizeOf27 rfl) <| .cons rfl (ob_load1 rfl hcv28 Tryd.isAgg27 rfl) <| .consT rfl rfl (fun _ => rfl) rfl (ob_appendX (size := 1) (bytes := 16) (l := gb) (l' := x28.vars) rfl rfl (fun _ => by first | exact .inl rfl | exact .inr (.inl rfl)) Tryd.underlying27 Tryd.type9 rfl rfl rfl rfl (fun w m hK => hva28.mono (KC.le hK)) rfl (by decide) (by simp only [maxLen]; omega) (by omega)) <| .consA 61 rfl rfl <| .nil) ?_
          intro a13 w13 m13 hst13 hle13 hk13
          have hfr13 := hk13.fr (T' := [(5, _), (4, _), (1, _)]) (.old rfl rfl <| .old rfl rfl <| .old rfl rfl <| .nil)
          obtain ⟨⟨O_29o, O_29p⟩, e30, hsl_O_29⟩ := hk13.ex 61 rfl
          replace hfr13 := hfr13.cons (hk13.same 3 rfl e30)
          replace hst13 := hst13.fin (L' := [_]) (.cons e30 <| .nil)
          replace hc1 := hc1.mono hle13
          replace hcv28 := hcv28.mono hle13
          replace hbd28 := hbd28.mono hle13
          have hlh13 := hlh12.trans hle13
          clear hst12 hfr12 hk13
          replace hsl_O_29 : Strs m13 O_29o (gb ++ x28.vars).length O_29p (gb ++ x28.vars) := hsl_O_29
          refine hK27 _ _ ?_; clear hK27
          refine ra0 (tch := [(8, 0, (fun v => .rowx (nz v) _ _ _ _))]) hst13 hfr13 (.cons rfl (ob_move rfl) <| .cons rfl (ob_fieldAddrO (off := 6) rfl Tryd.underlying33 rfl rfl Tryd.sizeOf25 rfl) <| .cons rfl (ob_load1 rfl hc1 Tryd.isAgg25 rfl) <| .cons rfl (ob_move rfl) <| .cons rfl (ob_indexAddr (k := y) rfl rfl Tryd.underlying25 Tryd.sizeOf60 rfl (by omega)) <| .cons rfl (ob_fieldAddrO (off := 2) rfl Tryd.underlying60 rfl rfl Tryd.sizeOf33 rfl) <| .cons rfl (ob_loadS rfl hcv28 Tryd.isAgg33 Tryd.sizeOf33 rfl rfl) <| .cons rfl (ob_call (φ := MP.strs (bndT x28.body)) rfl (.cons rfl <| .nil) Tryd.call14 (fun w m hK => by have hle_ := KC.le hK; have hA := KC.agree hK; have hbd28 := hbd28.mono hle_; exact FnG.mono (iha _ hm_x28 hA hbd28 (by have := hba _ hm_x28; omega)) fun _ _ _ _ h => h)) <| .consT rfl rfl (fun _ => rfl) rfl (ob_imgT 69 rfl rfl rfl fun y69 => ob_appendX (size := 1) (bytes := 16) (l := (gb ++ x28.vars)) (l' := bndT x28.body) rfl rfl (fun _ => by first | exact .inl rfl | exact .inr (.inl rfl)) Tryd.underlying27 Tryd.type9 rfl rfl rfl rfl (fun w m hK => hK.2) rfl (by decide) (by simp only [maxLen]; (try simp only [List.length_append, List.length_cons, List.length_nil]); omega) (by (try simp only [List.length_append, List.length_cons, List.length_nil]); omega)) <| .consA 70 rfl rfl <| .nil) ?_
          intro a14 w14 m14 hst14 hle14 hk14
          have hfr14 := hk14.fr (T' := [(5, _), (4, _), (1, _)]) (.old rfl rfl <| .old rfl rfl <| .old rfl rfl <| .nil)
          obtain ⟨⟨O_31o, O_31p⟩, e32, hsl_O_31⟩ := hk14.ex 70 rfl
          replace hfr14 := hfr14.cons (hk14.same 3 rfl e32)
          replace hst14 := hst14.fin (L' := [_]) (.cons e32 <| .nil)
          have hlh14 := hlh13.trans hle14
          clear hst13 hfr13 hk14
          replace hsl_O_31 : Strs m14 O_31o ((gb ++ x28.vars) ++ bndT x28.body).length O_31p ((gb ++ x28.vars) ++ bndT x28.body) := hsl_O_31
          refine hK26 _ _ ?_; clear hK26
          refine rp0 hst14 hfr14 (.cons rfl (ob_move rfl) <| .cons rfl (ob_add rfl rfl ⟨by omega, by omega⟩) <| .cons rfl (ob_assign rfl) <| .nil) ?_
          intro a15 w15 m15 hst15 hle15 hk15
          have hfr15 := hk15.fr (T' := [(4, _), (1, _), (3, _), (5, _)]) (.old rfl rfl <| .old rfl rfl <| .old rfl rfl <| .new rfl <| .nil)
          replace hsl_O_31 := hsl_O_31.mono hle15
          have hlh15 := hlh14.trans hle15
          clear hst14 hfr14 hk15
          exact ⟨(y + 1, O_31o, O_31p, ((gb ++ x28.vars) ++ bndT x28.body)), m15, by show t.arms.length - (y + 1) < t.arms.length - y; omega, ⟨hst15, hlh15, hfr15.sub (.cons rfl <| .cons rfl <| .cons rfl <| .cons rfl <| .nil), ⟨by show y + 1 ≤ t.arms.length; omega, hsl_O_31, by rw [hlen_gb]; show _ = ((gb ++ x28.vars) ++ bndT x28.body) ++ bndAs (t.arms.drop (y + 1)); simp [List.append_assoc]⟩⟩⟩
        · try simp only [nq1, nq2, nq3, nq4, nq5, nq6, nq7, nq8, nq9, u8_eq] at hb51
          have hge : y = t.arms.length := by omega
          rw [List.drop_of_length_le (by omega), bndAs, List.append_nil] at hlen_gb
          have hfin := hlen_gb
          refine wp_exit ?_
          refine hK21 _ _ ?_; clear hK21
          refine seq_any fun _ hK33 => ?_
          refine rp0 hst12 hfr12 (.cons rfl (ob_move rfl) <| .cons rfl (ob_assign rfl) <| .nil) ?_
          intro a13 w13 m13 hst13 hle13 hk13
          have hfr13 := hk13.fr (T' := [(3, _), (5, _), (4, _), (2, _)]) (.old rfl rfl <| .old rfl rfl <| .old rfl rfl <| .new rfl <| .nil)
          replace hsl_gb := hsl_gb.mono hle13
          have hlh13 := hlh12.trans hle13
          clear hst12 hfr12 hk13
          refine hK33 _ _ ?_; clear hK33
          refine wp_ret ?_
          repeat (with_reducible first | refine then_ret ?_ | refine block_ret ?_)
          exact fn_ret hst13 hfr13 rfl (.tmp rfl <| .nil) (⟨(_, _), by rw [hfin]; rfl, by rw [hfin]; exact hsl_gb⟩)
    · try simp only [nq1, nq2, nq3, nq4, nq5, nq6, nq7, nq8, nq9, u8_eq] at hb26
      have hout0 : bndT t = (([] : List Str) ++ [t.name]) ++ bndKs t.kids ++ bndAs t.arms := by rw [bndT_eq]; first | (rw [if_pos (by omega), if_neg (by omega)]; simp; done) | (rw [if_neg (by omega), if_neg (by omega)]; simp; done)
      refine wp_skip ?_
      refine hK8 _ _ ?_; clear hK8
      refine seq_any fun _ hK35 => ?_
      refine seq_any fun _ hK36 => ?_
      refine rp0 hst5 hfr5 (.cons rfl (ob_assign rfl) <| .nil) ?_
      intro a6 w6 m6 hst6 hle6 hk6
      have hfr6 := hk6.fr (T' := [(1, _), (3, _), (4, _)]) (.old rfl rfl <| .old rfl rfl <| .new rfl <| .nil)
      replace hkk_t := hkk_t.mono hle6
      replace haa_t := haa_t.mono hle6
      replace hc1 := hc1.mono hle6
      replace hsl_O_6 := hsl_O_6.mono hle6
      clear hst5 hfr5 hk6
      refine hK36 _ _ ?_; clear hK36
      refine wp_block ?_
      refine loop_any (T := [(1, _)]) (fun (y : Nat × Option Addr × Nat × List Str) => ([(3, .slice y.2.1 y.2.2.2.length y.2.2.1), (4, .int .i64 (y.1 : Int))] : List (Nat × Value))) (fun y => [.rowx (nz (.slice y.2.1 y.2.2.2.length y.2.2.1)) y.2.2.2.length 1 9 (MP.reads (fun _ vs (x : Str) => vs = [S x]) 1 y.2.2.2)]) (fun (y : Nat × Option Addr × Nat × List Str) m => (fun (y : Nat) (gao : Option Addr) (gap : Nat) (ga : List Str) => (y ≤ t.kids.length) ∧ (Strs m gao ga.length gap ga) ∧ (bndT t = ga ++ bndKs (t.kids.drop y) ++ bndAs t.arms)) y.1 y.2.1 y.2.2.1 y.2.2.2) (fun y => t.kids.length - y.1) ((0, O_6o, O_6p, (([] : List Str) ++ [t.name]))) ⟨hst6, MLe.refl _, hfr6.sub (.cons rfl <| .cons rfl <| .cons rfl <| .nil), ⟨Nat.zero_le _, hsl_O_6, by simpa using hout0⟩⟩ fun y a7 w7 m7 hh7 => ?_
      have hst7 := hh7.st; have hle7 := hh7.le; have hfr7 := hh7.fr; have hrel := hh7.rel; clear hh7
      replace hkk_t := hkk_t.mono hle7
      replace haa_t := haa_t.mono hle7
      replace hc1 := hc1.mono hle7
      clear hst6 hfr6
      obtain ⟨y, gao, gap, ga⟩ := y
      dsimp only at hrel hfr7 hst7
      obtain ⟨hyn, hsl_ga, hlen_ga⟩ := hrel
      have hlh7 := hle7
      refine seq_any fun _ hK38 => ?_
      refine seq_any fun _ hK39 => ?_
      refine rp0 hst7 hfr7 (.cons rfl (ob_move rfl) <| .cons rfl (ob_fieldAddrO (off := 5) rfl Tryd.underlying33 rfl rfl Tryd.sizeOf24 rfl) <| .cons rfl (ob_load1 rfl hc1 Tryd.isAgg24 rfl) <| .cons rfl (ob_len rfl Tryd.underlying24) <| .cons rfl (ob_lss rfl rfl) <| .nil) ?_
      intro a8 w8 m8 hst8 hle8 hk8
      have hfr8 := hk8.fr (T' := [(3, _), (4, _), (1, _), (36, _)]) (.old rfl rfl <| .old rfl rfl <| .old rfl rfl <| .new rfl <| .nil)
      replace hkk_t := hkk_t.mono hle8
      replace haa_t := haa_t.mono hle8
      replace hc1 := hc1.mono hle8
      replace hsl_ga := hsl_ga.mono hle8
      have hlh8 := hlh7.trans hle8
      clear hst7 hfr7 hk8
      refine hK39 _ _ ?_; clear hK39
      refine cond_any hfr8 rfl rfl (fun hb36 => ?_) (fun hb36 => ?_)
      · try simp only [nq1, nq2, nq3, nq4, nq5, nq6, nq7, nq8, nq9, u8_eq] at hb36
        refine wp_skip ?_
        refine hK38 _ _ ?_; clear hK38
        refine seq_any fun _ hK40 => ?_
        refine wp_block ?_
        obtain ⟨p41, vs41, x41, ho41, hd41, hm_x41, ht41, hcv41, hl41, hv41⟩ := hkk_t.nth (k := y) (by omega)
        cases ho41
        obtain ⟨⟨oK41, cK41, oA41, cA41, oR41, cR41, t041, t141, t241, t341, t441, t541, u041, u141, u241, u341, u441, u541⟩, rfl, hon41, hkk41, haa41, hrr41⟩ := hv41.open_
        dsimp only at hkk41 haa41 hrr41
        have hbg41 := hkk41.big; have hcp41 := hkk41.cap; have hbh41 := haa41.big; have hcq41 := haa41.cap
        rw [hd41, bndKs] at hlen_ga
        have hla9 := congrArg List.length hlen_ga
        simp only [List.length_append] at hla9
        refine ra0 (tch := [(7, 0, (fun v => .rowx (nz v) _ _ _ _))]) hst8 hfr8 (.cons rfl (ob_move rfl) <| .cons rfl (ob_fieldAddrO (off := 5) rfl Tryd.underlying33 rfl rfl Tryd.sizeOf24 rfl) <| .cons rfl (ob_load1 rfl hc1 Tryd.isAgg24 rfl) <| .cons rfl (ob_move rfl) <| .cons rfl (ob_indexAddr (k := y) rfl rfl Tryd.underlying24 Tryd.sizeOf33 rfl (by omega)) <| .cons rfl (ob_loadS' rfl hcv41 Tryd.isAgg33 Tryd.sizeOf33 rfl rfl) <| .cons rfl (ob_call (φ := MP.strs (bndT x41)) rfl (.cons rfl <| .nil) Tryd.call14 (fun w m hK => by have hle_ := KC.le hK; have hA := KC.agree hK; have hv41 := hv41.mono hle_; exact FnG.mono (ihk _ hm_x41 hA hv41 (by have := hbk _ hm_x41; omega)) fun _ _ _ _ h => h)) <| .consT rfl rfl (fun _ => rfl) rfl (ob_imgT 45 rfl rfl rfl fun y45 => ob_appendX (size := 1) (bytes := 16) (l := ga) (l' := bndT x41) rfl rfl (fun _ => by first | exact .inl rfl | exact .inr (.inl rfl)) Tryd.underlying27 Tryd.type9 rfl rfl rfl rfl (fun w m hK => hK.2) rfl (by decide) (by simp only [maxLen]; omega) (by omega)) <| .consA 46 rfl rfl <| .nil) ?_
        intro a9 w9 m9 hst9 hle9 hk9
        have hfr9 := hk9.fr (T' := [(4, _), (1, _)]) (.old rfl rfl <| .old rfl rfl <| .nil)
        obtain ⟨⟨O_42o, O_42p⟩, e43, hsl_O_42⟩ := hk9.ex 46 rfl
        replace hfr9 := hfr9.cons (hk9.same 3 rfl e43)
        replace hst9 := hst9.fin (L' := [_]) (.cons e43 <| .nil)
        have hlh9 := hlh8.trans hle9
        clear hst8 hfr8 hk9
        replace hsl_O_42 : Strs m9 O_42o (ga ++ bndT x41).length O_42p (ga ++ bndT x41) := hsl_O_42
        refine hK40 _ _ ?_; clear hK40
        refine rp0 hst9 hfr9 (.cons rfl (ob_move rfl) <| .cons rfl (ob_add rfl rfl ⟨by omega, by omega⟩) <| .cons rfl (ob_assign rfl) <| .nil) ?_
        intro a10 w10 m10 hst10 hle10 hk10
        have hfr10 := hk10.fr (T' := [(1, _), (3, _), (4, _)]) (.old rfl rfl <| .old rfl rfl <| .new rfl <| .nil)
        replace hsl_O_42 := hsl_O_42.mono hle10
        have hlh10 := hlh9.trans hle10
        clear hst9 hfr9 hk10
        exact ⟨(y + 1, O_42o, O_42p, (ga ++ bndT x41)), m10, by show t.kids.length - (y + 1) < t.kids.length - y; omega, ⟨hst10, hlh10, hfr10.sub (.cons rfl <| .cons rfl <| .cons rfl <| .nil), ⟨by show y + 1 ≤ t.kids.length; omega, hsl_O_42, by rw [hlen_ga]; show _ = ((ga ++ bndT x41) ++ bndKs (t.kids.drop (y + 1))) ++ bndAs t.arms; simp [List.append_assoc]⟩⟩⟩
      · try simp only [nq1, nq2, nq3, nq4, nq5, nq6, nq7, nq8, nq9, u8_eq] at hb36
        have hge : y = t.kids.length := by omega
        rw [List.drop_of_length_le (by omega), bndKs, List.append_nil] at hlen_ga
        refine wp_exit ?_
        refine hK35 _ _ ?_; clear hK35
        refine seq_any fun _ hK44 => ?_
        refine seq_any fun _ hK45 => ?_
        refine rp0 hst8 hfr8 (.cons rfl (ob_assign rfl) <| .nil) ?_
        intro a9 w9 m9 hst9 hle9 hk9
        have hfr9 := hk9.fr (T' := [(3, _), (4, _), (1, _), (5, _)]) (.old rfl rfl <| .old rfl rfl <| .old rfl rfl <| .new rfl <| .nil)
        replace haa_t := haa_t.mono hle9
        replace hc1 := hc1.mono hle9
        replace hsl_ga := hsl_ga.mono hle9
        have hlh9 := hlh8.trans hle9
        clear hst8 hfr8 hk9
        refine hK45 _ _ ?_; clear hK45
        refine wp_block ?_
        have hlq46 := hlh9
        refine loop_any (T := [(4, _), (1, _)]) (fun (y : Nat × Option Addr × Nat × List Str) => ([(3, .slice y.2.1 y.2.2.2.length y.2.2.1), (5, .int .i64 (y.1 : Int))] : List (Nat × Value))) (fun y => [.rowx (nz (.slice y.2.1 y.2.2.2.length y.2.2.1)) y.2.2.2.length 1 9 (MP.reads (fun _ vs (x : Str) => vs = [S x]) 1 y.2.2.2)]) (fun (y : Nat × Option Addr × Nat × List Str) m => (fun (y : Nat) (gbo : Option Addr) (gbp : Nat) (gb : List Str) => (y ≤ t.arms.length) ∧ (Strs m gbo gb.length gbp gb) ∧ (bndT t = gb ++ bndAs (t.arms.drop y))) y.1 y.2.1 y.2.2.1 y.2.2.2) (fun y => t.arms.length - y.1) ((0, gao, gap, ga)) ⟨hst9, MLe.refl _, hfr9.sub (.cons rfl <| .cons rfl <| .cons rfl <| .cons rfl <| .nil), ⟨Nat.zero_le _, hsl_ga, hlen_ga⟩⟩ fun y a10 w10 m10 hh10 => ?_
        have hst10 := hh10.st; have hle10 := hh10.le; have hfr10 := hh10.fr; have hrel := hh10.rel; clear hh10
        replace haa_t := haa_t.mono hle10
        replace hc1 := hc1.mono hle10
        clear hst9 hfr9
        obtain ⟨y, gbo, gbp, gb⟩ := y
        dsimp only at hrel hfr10 hst10
        obtain ⟨hyn, hsl_gb, hlen_gb⟩ := hrel
        have hlh10 := hle10
        refine seq_any fun _ hK47 => ?_
        refine seq_any fun _ hK48 => ?_
        refine rp0 hst10 hfr10 (.cons rfl (ob_move rfl) <| .cons rfl (ob_fieldAddrO (off := 6) rfl Tryd.underlying33 rfl rfl Tryd.sizeOf25 rfl) <| .cons rfl (ob_load1 rfl hc1 Tryd.isAgg25 rfl) <| .cons rfl (ob_len rfl Tryd.underlying25) <| .cons rfl (ob_lss rfl rfl) <| .nil) ?_
        intro a11 w11 m11 hst11 hle11 hk11
        have hfr11 := hk11.fr (T' := [(3, _), (5, _), (4, _), (1, _), (51, _)]) (.old rfl rfl <| .old rfl rfl <| .old rfl rfl <| .old rfl rfl <| .new rfl <| .nil)
        replace haa_t := haa_t.mono hle11
        replace hc1 := hc1.mono hle11
        replace hsl_gb := hsl_gb.mono hle11
        have hlh11 := hlh10.trans hle11
        clear hst10 hfr10 hk11
        refine hK48 _ _ ?_; clear hK48
        refine cond_any hfr11 rfl rfl (fun hb51 => ?_) (fun hb51 => ?_)
        · try simp only [nq1, nq2, nq3, nq4, nq5, nq6, nq7, nq8, nq9, u8_eq] at hb51
          refine wp_skip ?_
          refine hK47 _ _ ?_; clear hK47
          refine seq_any fun _ hK49 => ?_
          refine wp_block ?_
          refine seq_any fun _ hK50 => ?_
          obtain ⟨p51, vs51, x51, ho51, hd51, hm_x51, ht51, hcv51, hl51, hv51⟩ := haa_t.nth (k := y) (by omega)
          cases ho51
          obtain ⟨oV51, cV51, bs51, rfl, hva51, hbd51⟩ := hv51.open_
          have hbv51 := hva51.big; have hcv51_ := hva51.cap
          obtain ⟨⟨oK51b, cK51b, oA51b, cA51b, oR51b, cR51b, t051b, t151b, t251b, t351b, t451b, t551b, u051b, u151b, u251b, u351b, u451b, u551b⟩, rfl, hon51b, hkk51b, haa51b, hrr51b⟩ := hbd51.open_
          dsimp only at hkk51b haa51b hrr51b
          have hbg51b := hkk51b.big; have hcp51b := hkk51b.cap; have hbh51b := haa51b.big; have hcq51b := haa51b.cap
          rw [hd51, bndAs_cons] at hlen_gb
          have hla9 := congrArg List.length hlen_gb
          simp only [List.length_append] at hla9
          refine ra0 (tch := [(7, 0, (fun v => .rowx (nz v) _ _ _ _))]) hst11 hfr11 (.cons rfl (ob_move rfl) <| .cons rfl (ob_fieldAddrO (off := 6) rfl Tryd.underlying33 rfl rfl Tryd.sizeOf25 rfl) <| .cons rfl (ob_load1 rfl hc1 Tryd.isAgg25 rfl) <| .cons rfl (ob_move rfl) <| .cons rfl (ob_indexAddr (k := y) rfl rfl Tryd.underlying25 Tryd.sizeOf60 rfl (by omega)) <| .cons rfl (ob_fieldAddrO (off := 1) rfl Tryd.underlying60 rfl rfl Tryd.sizeOf27 rfl) <| .cons rfl (ob_load1 rfl hcv51 Tryd.isAgg27 rfl) <| .consT rfl rfl (fun _ => rfl) rfl (ob_appendX (size := 1) (bytes := 16) (l := gb) (l' := x51.vars) rfl rfl (fun _ => by first | exact .inl rfl | exact .inr (.inl rfl)) Tryd.underlying27 Tryd.type9 rfl rfl rfl rfl (fun w m hK => hva51.mono (KC.le hK)) rfl (by decide) (by simp only [maxLen]; omega) (by omega)) <| .consA 61 rfl rfl <| .nil) ?_
          intro a12 w12 m12 hst12 hle12 hk12
          have hfr12 := hk12.fr (T' := [(5, _), (4, _), (1, _)]) (.old rfl rfl <| .old rfl rfl <| .old rfl rfl <| .nil)
          obtain ⟨⟨O_52o, O_52p⟩, e53, hsl_O_52⟩ := hk12.ex 61 rfl
          replace hfr12 := hfr12.cons (hk12.same 3 rfl e53)
          replace hst12 := hst12.fin (L' := [_]) (.cons e53 <| .nil)
          replace hc1 := hc1.mono hle12
          replace hcv51 := hcv51.mono hle12
          replace hbd51 := hbd51.mono hle12
          have hlh12 := hlh11.trans hle12
          clear hst11 hfr11 hk12
          replace hsl_O_52 : Strs m12 O_52o (gb ++ x51.vars).length O_52p (gb ++ x51.vars) := hsl_O_52
          refine hK50 _ _ ?_; clear hK50
          refine ra0 (tch := [(8, 0, (fun v => .rowx (nz v) _ _ _ _))]) hst12 hfr12 (.cons rfl (ob_move rfl) <| .cons rfl (ob_fieldAddrO (off := 6) rfl Tryd.underlying33 rfl rfl Tryd.sizeOf25 rfl) <| .cons rfl (ob_load1 rfl hc1 Tryd.isAgg25 rfl) <| .cons rfl (ob_move rfl) <| .cons rfl (ob_indexAddr (k := y) rfl rfl Tryd.underlying25 Tryd.sizeOf60 rfl (by omega)) <| .cons rfl (ob_fieldAddrO (off := 2) rfl Tryd.underlying60 rfl rfl Tryd.sizeOf33 rfl) <| .cons rfl (ob_loadS rfl hcv51 Tryd.isAgg33 Tryd.sizeOf33 rfl rfl) <| .cons rfl (ob_call (φ := MP.strs (bndT x51.body)) rfl (.cons rfl <| .nil) Tryd.call14 (fun w m hK => by have hle_ := KC.le hK; have hA := KC.agree hK; have hbd51 := hbd51.mono hle_; exact FnG.mono (iha _ hm_x51 hA hbd51 (by have := hba _ hm_x51; omega)) fun _ _ _ _ h => h)) <| .consT rfl rfl (fun _ => rfl) rfl (ob_imgT 69 rfl rfl rfl fun y69 => ob_appendX (size := 1) (bytes := 16) (l := (gb ++ x51.vars)) (l' := bndT x51.body) rfl rfl (fun _ => by first | exact .inl rfl | exact .inr (.inl rfl)) Tryd.underlying27 Tryd.type9 rfl rfl rfl rfl (fun w m hK => hK.2) rfl (by decide) (by simp only [maxLen]; (try simp only [List.length_append, List.length_cons, List.length_nil]); omega) (by (try simp only [List.length_append, List.length_cons, List.length_nil]); omega)) <| .consA 70 rfl rfl <| .nil) ?_
          intro a13 w13 m13 hst13 hle13 hk13
          have hfr13 := hk13.fr (T' := [(5, _), (4, _), (1, _)]) (.old rfl rfl <| .old rfl rfl <| .old rfl rfl <| .nil)
          obtain ⟨⟨O_54o, O_54p⟩, e55, hsl_O_54⟩ := hk13.ex 70 rfl
          replace hfr13 := hfr13.cons (hk13.same 3 rfl e55)
          replace hst13 := hst13.fin (L' := [_]) (.cons e55 <| .nil)
          have hlh13 := hlh12.trans hle13
          clear hst12 hfr12 hk13
          replace hsl_O_54 : Strs m13 O_54o ((gb ++ x51.vars) ++ bndT x51.body).length O_54p ((gb ++ x51.vars) ++ bndT x51.body) := hsl_O_54
          refine hK49 _ _ ?_; clear hK49
          refine rp0 hst13 hfr13 (.cons rfl (ob_move rfl) <| .cons rfl (ob_add rfl rfl ⟨by omega, by omega⟩) <| .cons rfl (ob_assign rfl) <| .nil) ?_
          intro a14 w14 m14 hst14 hle14 hk14
          have hfr14 := hk14.fr (T' := [(4, _), (1, _), (3, _), (5, _)]) (.old rfl rfl <| .old rfl rfl <| .old rfl rfl <| .new rfl <| .nil)
          replace hsl_O_54 := hsl_O_54.mono hle14
          have hlh14 := hlh13.trans hle14
          clear hst13 hfr13 hk14
          exact ⟨(y + 1, O_54o, O_54p, ((gb ++ x51.vars) ++ bndT x51.body)), m14, by show t.arms.length - (y + 1) < t.arms.length - y; omega, ⟨hst14, hlh14, hfr14.sub (.cons rfl <| .cons rfl <| .cons rfl <| .cons rfl <| .nil), ⟨by show y + 1 ≤ t.arms.length; omega, hsl_O_54, by rw [hlen_gb]; show _ = ((gb ++ x51.vars) ++ bndT x51.body) ++ bndAs (t.arms.drop (y + 1)); simp [List.append_assoc]⟩⟩⟩
        · try simp only [nq1, nq2, nq3, nq4, nq5, nq6, nq7, nq8, nq9, u8_eq] at hb51
          have hge : y = t.arms.length := by omega
          rw [List.drop_of_length_le (by omega), bndAs, List.append_nil] at hlen_gb
          have hfin := hlen_gb
          refine wp_exit ?_
          refine hK44 _ _ ?_; clear hK44
          refine seq_any fun _ hK56 => ?_
          refine rp0 hst11 hfr11 (.cons rfl (ob_move rfl) <| .cons rfl (ob_assign rfl) <| .nil) ?_
          intro a12 w12 m12 hst12 hle12 hk12
          have hfr12 := hk12.fr (T' := [(3, _), (5, _), (4, _), (2, _)]) (.old rfl rfl <| .old rfl rfl <| .old rfl rfl <| .new rfl <| .nil)
          replace hsl_gb := hsl_gb.mono hle12
          have hlh12 := hlh11.trans hle12
          clear hst11 hfr11 hk12
          refine hK56 _ _ ?_; clear hK56
          refine wp_ret ?_
          repeat (with_reducible first | refine then_ret ?_ | refine block_ret ?_)
          exact fn_ret hst12 hfr12 rfl (.tmp rfl <| .nil) (⟨(_, _), by rw [hfin]; rfl, by rw [hfin]; exact hsl_gb⟩)
  · try simp only [nq1, nq2, nq3, nq4, nq5, nq6, nq7, nq8, nq9, u8_eq] at hb18
    refine wp_skip ?_
    refine hK4 _ _ ?_; clear hK4
    refine seq_any fun _ hK58 => ?_
    refine seq_any fun _ hK59 => ?_
    refine rp0 hst3 hfr3 (.cons rfl (ob_fieldAddrO (off := 0) rfl Tryd.underlying33 rfl rfl Tryd.sizeOf3 rfl) <| .cons rfl (ob_load1 rfl hc1 Tryd.isAgg3 rfl) <| .cons rfl (ob_eql rfl rfl) <| .nil) ?_
    intro a4 w4 m4 hst4 hle4 hk4
    have hfr4 := hk4.fr (T' := [(1, _), (3, _), (26, _)]) (.old rfl rfl <| .old rfl rfl <| .new rfl <| .nil)
    replace hkk_t := hkk_t.mono hle4
    replace haa_t := haa_t.mono hle4
    replace hc1 := hc1.mono hle4
    replace hsl_O := hsl_O.mono hle4
    clear hst3 hfr3 hk4
    refine hK59 _ _ ?_; clear hK59
    refine cond_any hfr4 rfl rfl (fun hb26 => ?_) (fun hb26 => ?_)
    · try simp only [nq1, nq2, nq3, nq4, nq5, nq6, nq7, nq8, nq9, u8_eq] at hb26
      have hout0 : bndT t = ([] : List Str) ++ [t.param] ++ bndKs t.kids ++ bndAs t.arms := by first | (exfalso; omega) | (rw [bndT_eq, if_pos (by omega), if_pos (by omega)]; simp)
      refine ra0 (tch := [(4, 0, (fun v => .rowx (nz v) _ _ _ _))]) hst4 hfr4 (.cons rfl (ob_move rfl) <| .cons rfl (ob_fieldAddrO (off := 3) rfl Tryd.underlying33 rfl rfl Tryd.sizeOf9 rfl) <| .cons rfl (ob_load1 rfl hc1 Tryd.isAgg9 rfl) <| .cons rfl (ob_buildSlice (.cons rfl <| .nil) Tryd.underlying27 Tryd.sizeOf9 Tryd.zeroValue9 rfl rfl rfl rfl) <| .consT rfl rfl (fun _ => rfl) rfl (ob_imgT 30 rfl rfl rfl fun y30 => ob_appendX (size := 1) (bytes := 16) (l := ([] : List Str)) (l' := [t.param]) rfl rfl (fun _ => by first | exact .inl rfl | exact .inr (.inl rfl)) Tryd.underlying27 Tryd.type9 rfl rfl rfl rfl (fun w m hK => Sl.one (vs := [_]) hK.2 rfl rfl) rfl (by decide) (by simp only [maxLen]; (try simp only [List.length_append, List.length_cons, List.length_nil]); omega) (by (try simp only [List.length_append, List.length_cons, List.length_nil]); omega)) <| .consA 31 rfl rfl <| .nil) ?_
      intro a5 w5 m5 hst5 hle5 hk5
      have hfr5 := hk5.fr (T' := [(1, _)]) (.old rfl rfl <| .nil)
      obtain ⟨⟨O_60o, O_60p⟩, e61, hsl_O_60⟩ := hk5.ex 31 rfl
      replace hfr5 := hfr5.cons (hk5.same 3 rfl e61)
      replace hst5 := hst5.fin (L' := [_]) (.cons e61 <| .nil)
      replace hkk_t := hkk_t.mono hle5
      replace haa_t := haa_t.mono hle5
      replace hc1 := hc1.mono hle5
      clear hst4 hfr4 hk5
      replace hsl_O_60 : Strs m5 O_60o (([] : List Str) ++ [t.param]).length O_60p (([] : List Str) ++ [t.param]) := hsl_O_60
      refine hK58 _ _ ?_; clear hK58
      refine seq_any fun _ hK62 => ?_
      refine seq_any fun _ hK63 => ?_
      refine rp0 hst5 hfr5 (.cons rfl (ob_assign rfl) <| .nil) ?_
      intro a6 w6 m6 hst6 hle6 hk6
      have hfr6 := hk6.fr (T' := [(1, _), (3, _), (4, _)]) (.old rfl rfl <| .old rfl rfl <| .new rfl <| .nil)
      replace hkk_t := hkk_t.mono hle6
      replace haa_t := haa_t.mono hle6
      replace hc1 := hc1.mono hle6
      replace hsl_O_60 := hsl_O_60.mono hle6
      clear hst5 hfr5 hk6
      refine hK63 _ _ ?_; clear hK63
      refine wp_block ?_
      refine loop_any (T := [(1, _)]) (fun (y : Nat × Option Addr × Nat × List Str) => ([(3, .slice y.2.1 y.2.2.2.length y.2.2.1), (4, .int .i64 (y.1 : Int))] : List (Nat × Value))) (fun y => [.rowx (nz (.slice y.2.1 y.2.2.2.length y.2.2.1)) y.2.2.2.length 1 9 (MP.reads (fun _ vs (x : Str) => vs = [S x]) 1 y.2.2.2)]) (fun (y : Nat × Option Addr × Nat × List Str) m => (fun (y : Nat) (gao : Option Addr) (gap : Nat) (ga : List Str) => (y ≤ t.kids.length) ∧ (Strs m gao ga.length gap ga) ∧ (bndT t = ga ++ bndKs (t.kids.drop y) ++ bndAs t.arms)) y.1 y.2.1 y.2.2.1 y.2.2.2) (fun y => t.kids.length - y.1) ((0, O_60o, O_60p, (([] : List Str) ++ [t.param]))) ⟨hst6, MLe.refl _, hfr6.sub (.cons rfl <| .cons rfl <| .cons rfl <| .nil), ⟨Nat.zero_le _, hsl_O_60, by simpa using hout0⟩⟩ fun y a7 w7 m7 hh7 => ?_
      have hst7 := hh7.st; have hle7 := hh7.le; have hfr7 := hh7.fr; have hrel := hh7.rel; clear hh7
      replace hkk_t := hkk_t.mono hle7
      replace haa_t := haa_t.mono hle7
      replace hc1 := hc1.mono hle7
      clear hst6 hfr6
      obtain ⟨y, gao, gap, ga⟩ := y
      dsimp only at hrel hfr7 hst7
      obtain ⟨hyn, hsl_ga, hlen_ga⟩ := hrel
      have hlh7 := hle7
      refine seq_any fun _ hK65 => ?_
      refine seq_any fun _ hK66 => ?_
      refine rp0 hst7 hfr7 (.cons rfl (ob_move rfl) <| .cons rfl (ob_fieldAddrO (off := 5) rfl Tryd.underlying33 rfl rfl Tryd.sizeOf24 rfl) <| .cons rfl (ob_load1 rfl hc1 Tryd.isAgg24 rfl) <| .cons rfl (ob_len rfl Tryd.underlying24) <| .cons rfl (ob_lss rfl rfl) <| .nil) ?_
      intro a8 w8 m8 hst8 hle8 hk8
      have hfr8 := hk8.fr (T' := [(3, _), (4, _), (1, _), (36, _)]) (.old rfl rfl <| .old rfl rfl <| .old rfl rfl <| .new rfl <| .nil)
      replace hkk_t := hkk_t.mono hle8
      replace haa_t := haa_t.mono hle8
      replace hc1 := hc1.mono hle8
      replace hsl_ga := hsl_ga.mono hle8
      have hlh8 := hlh7.trans hle8
      clear hst7 hfr7 hk8
      refine hK66 _ _ ?_; clear hK66
      refine cond_any hfr8 rfl rfl (fun hb36 => ?_) (fun hb36 => ?_)
      · try simp only [nq1, nq2, nq3, nq4, nq5, nq6, nq7, nq8, nq9, u8_eq] at hb36
        refine wp_skip ?_
        refine hK65 _ _ ?_; clear hK65
        refine seq_any fun _ hK67 => ?_
        refine wp_block ?_
        obtain ⟨p68, vs68, x68, ho68, hd68, hm_x68, ht68, hcv68, hl68, hv68⟩ := hkk_t.nth (k := y) (by omega)
        cases ho68
        obtain ⟨⟨oK68, cK68, oA68, cA68, oR68, cR68, t068, t168, t268, t368, t468, t568, u068, u168, u268, u368, u468, u568⟩, rfl, hon68, hkk68, haa68, hrr68⟩ := hv68.open_
        dsimp only at hkk68 haa68 hrr68
        have hbg68 := hkk68.big; have hcp68 := hkk68.cap; have hbh68 := haa68.big; have hcq68 := haa68.cap
        rw [hd68, bndKs] at hlen_ga
        have hla9 := congrArg List.length hlen_ga
        simp only [List.length_append] at hla9
        refine ra0 (tch := [(7, 0, (fun v => .rowx (nz v) _ _ _ _))]) hst8 hfr8 (.cons rfl (ob_move rfl) <| .cons rfl (ob_fieldAddrO (off := 5) rfl Tryd.underlying33 rfl rfl Tryd.sizeOf24 rfl) <| .cons rfl (ob_load1 rfl hc1 Tryd.isAgg24 rfl) <| .cons rfl (ob_move rfl) <| .cons rfl (ob_indexAddr (k := y) rfl rfl Tryd.underlying24 Tryd.sizeOf33 rfl (by omega)) <| .cons rfl (ob_loadS' rfl hcv68 Tryd.isAgg33 Tryd.sizeOf33 rfl rfl) <| .cons rfl (ob_call (φ := MP.strs (bndT x68)) rfl (.cons rfl <| .nil) Tryd.call14 (fun w m hK => by have hle_ := KC.le hK; have hA := KC.agree hK; have hv68 := hv68.mono hle_; exact FnG.mono (ihk _ hm_x68 hA hv68 (by have := hbk _ hm_x68; omega)) fun _ _ _ _ h => h)) <| .consT rfl rfl (fun _ => rfl) rfl (ob_imgT 45 rfl rfl rfl fun y45 => ob_appendX (size := 1) (bytes := 16) (l := ga) (l' := bndT x68) rfl rfl (fun _ => by first | exact .inl rfl | exact .inr (.inl rfl)) Tryd.underlying27 Tryd.type9 rfl rfl rfl rfl (fun w m hK => hK.2) rfl (by decide) (by simp only [maxLen]; omega) (by omega)) <| .consA 46 rfl rfl <| .nil) ?_
        intro a9 w9 m9 hst9 hle9 hk9
        have hfr9 := hk9.fr (T' := [(4, _), (1, _)]) (.old rfl rfl <| .old rfl rfl <| .nil)
        obtain ⟨⟨O_69o, O_69p⟩, e70, hsl_O_69⟩ := hk9.ex 46 rfl
        replace hfr9 := hfr9.cons (hk9.same 3 rfl e70)
        replace hst9 := hst9.fin (L' := [_]) (.cons e70 <| .nil)
        have hlh9 := hlh8.trans hle9
        clear hst8 hfr8 hk9
        replace hsl_O_69 : Strs m9 O_69o (ga ++ bndT x68).length O_69p (ga ++ bndT x68) := hsl_O_69
        refine hK67 _ _ ?_; clear hK67
        refine rp0 hst9 hfr9 (.cons rfl (ob_move rfl) <| .cons rfl (ob_add rfl rfl ⟨by omega, by omega⟩) <| .cons rfl (ob_assign rfl) <| .nil) ?_
        intro a10 w10 m10 hst10 hle10 hk10
        have hfr10 := hk10.fr (T' := [(1, _), (3, _), (4, _)]) (.old rfl rfl <| .old rfl rfl <| .new rfl <| .nil)
        replace hsl_O_69 := hsl_O_69.mono hle10
        have hlh10 := hlh9.trans hle10
        clear hst9 hfr9 hk10
        exact ⟨(y + 1, O_69o, O_69p, (ga ++ bndT x68)), m10, by show t.kids.length - (y + 1) < t.kids.length - y; omega, ⟨hst10, hlh10, hfr10.sub (.cons rfl <| .cons rfl <| .cons rfl <| .nil), ⟨by show y + 1 ≤ t.kids.length; omega, hsl_O_69, by rw [hlen_ga]; show _ = ((ga ++ bndT x68) ++ bndKs (t.kids.drop (y + 1))) ++ bndAs t.arms; simp [List.append_assoc]⟩⟩⟩
      · try simp only [nq1, nq2, nq3, nq4, nq5, nq6, nq7, nq8, nq9, u8_eq] at hb36
        have hge : y = t.kids.length := by omega
        rw [List.drop_of_length_le (by omega), bndKs, List.append_nil] at hlen_ga
        refine wp_exit ?_
        refine hK62 _ _ ?_; clear hK62
        refine seq_any fun _ hK71 => ?_
        refine seq_any fun _ hK72 => ?_
        refine rp0 hst8 hfr8 (.cons rfl (ob_assign rfl) <| .nil) ?_
        intro a9 w9 m9 hst9 hle9 hk9
        have hfr9 := hk9.fr (T' := [(3, _), (4, _), (1, _), (5, _)]) (.old rfl rfl <| .old rfl rfl <| .old rfl rfl <| .new rfl <| .nil)
        replace haa_t := haa_t.mono hle9
        replace hc1 := hc1.mono hle9
        replace hsl_ga := hsl_ga.mono hle9
        have hlh9 := hlh8.trans hle9
        clear hst8 hfr8 hk9
        refine hK72 _ _ ?_; clear hK72
        refine wp_block ?_
        have hlq73 := hlh9
        refine loop_any (T := [(4, _), (1, _)]) (fun (y : Nat × Option Addr × Nat × List Str) => ([(3, .slice y.2.1 y.2.2.2.length y.2.2.1), (5, .int .i64 (y.1 : Int))] : List (Nat × Value))) (fun y => [.rowx (nz (.slice y.2.1 y.2.2.2.length y.2.2.1)) y.2.2.2.length 1 9 (MP.reads (fun _ vs (x : Str) => vs = [S x]) 1 y.2.2.2)]) (fun (y : Nat × Option Addr × Nat × List Str) m => (fun (y : Nat) (gbo : Option Addr) (gbp : Nat) (gb : List Str) => (y ≤ t.arms.length) ∧ (Strs m gbo gb.length gbp gb) ∧ (bndT t = gb ++ bndAs (t.arms.drop y))) y.1 y.2.1 y.2.2.1 y.2.2.2) (fun y => t.arms.length - y.1) ((0, gao, gap, ga)) ⟨hst9, MLe.refl _, hfr9.sub (.cons rfl <| .cons rfl <| .cons rfl <| .cons rfl <| .nil), ⟨Nat.zero_le _, hsl_ga, hlen_ga⟩⟩ fun y a10 w10 m10 hh10 => ?_
        have hst10 := hh10.st; have hle10 := hh10.le; have hfr10 := hh10.fr; have hrel := hh10.rel; clear hh10
        replace haa_t := haa_t.mono hle10
        replace hc1 := hc1.mono hle10
        clear hst9 hfr9
        obtain ⟨y, gbo, gbp, gb⟩ := y
        dsimp only at hrel hfr10 hst10
        obtain ⟨hyn, hsl_gb, hlen_gb⟩ := hrel
        have hlh10 := hle10
        refine seq_any fun _ hK74 => ?_
        refine seq_any fun _ hK75 => ?_
        refine rp0 hst10 hfr10 (.cons rfl (ob_move rfl) <| .cons rfl (ob_fieldAddrO (off := 6) rfl Tryd.underlying33 rfl rfl Tryd.sizeOf25 rfl) <| .cons rfl (ob_load1 rfl hc1 Tryd.isAgg25 rfl) <| .cons rfl (ob_len rfl Tryd.underlying25) <| .cons rfl (ob_lss rfl rfl) <| .nil) ?_
        intro a11 w11 m11 hst11 hle11 hk11
        have hfr11 := hk11.fr (T' := [(3, _), (5, _), (4, _), (1, _), (51, _)]) (.old rfl rfl <| .old rfl rfl <| .old rfl rfl <| .old rfl rfl <| .new rfl <| .nil)
        replace haa_t := haa_t.mono hle11
        replace hc1 := hc1.mono hle11
        replace hsl_gb := hsl_gb.mono hle11
        have hlh11 := hlh10.trans hle11
        clear hst10 hfr10 hk11
        refine hK75 _ _ ?_; clear hK75
        refine cond_any hfr11 rfl rfl (fun hb51 => ?_) (fun hb51 => ?_)
        · try simp only [nq1, nq2, nq3, nq4, nq5, nq6, nq7, nq8, nq9, u8_eq] at hb51
          refine wp_skip ?_
          refine hK74 _ _ ?_; clear hK74
          refine seq_any fun _ hK76 => ?_
          refine wp_block ?_
          refine seq_any fun _ hK77 => ?_
          obtain ⟨p78, vs78, x78, ho78, hd78, hm_x78, ht78, hcv78, hl78, hv78⟩ := haa_t.nth (k := y) (by omega)
          cases ho78
          obtain ⟨oV78, cV78, bs78, rfl, hva78, hbd78⟩ := hv78.open_
          have hbv78 := hva78.big; have hcv78_ := hva78.cap
          obtain ⟨⟨oK78b, cK78b, oA78b, cA78b, oR78b, cR78b, t078b, t178b, t278b, t378b, t478b, t578b, u078b, u178b, u278b, u378b, u478b, u578b⟩, rfl, hon78b, hkk78b, haa78b, hrr78b⟩ := hbd78.open_
          dsimp only at hkk78b haa78b hrr78b
          have hbg78b := hkk78b.big; have hcp78b := hkk78b.cap; have hbh78b := haa78b.big; have hcq78b := haa78b.cap
          rw [hd78, bndAs_cons] at hlen_gb
          have hla9 := congrArg List.length hlen_gb
          simp only [List.length_append] at hla9
          refine ra0 (tch := [(7, 0, (fun v => .rowx (nz v) _ _ _ _))]) hst11 hfr11 (.cons rfl (ob_move rfl) <| .cons rfl (ob_fieldAddrO (off := 6) rfl Tryd.underlying33 rfl rfl Tryd.sizeOf25 rfl) <| .cons rfl (ob_load1 rfl hc1 Tryd.isAgg25 rfl) <| .cons rfl (ob_move rfl) <| .cons rfl (ob_indexAddr (k := y) rfl rfl Tryd.underlying25 Tryd.sizeOf60 rfl (by omega)) <| .cons rfl (ob_fieldAddrO (off := 1) rfl Tryd.underlying60 rfl rfl Tryd.sizeOf27 rfl) <| .cons rfl (ob_load1 rfl hcv78 Tryd.isAgg27 rfl) <| .consT rfl rfl (fun _ => rfl) rfl (ob_appendX (size := 1) (bytes := 16) (l := gb) (l' := x78.vars) rfl rfl (fun _ => by first | exact .inl rfl | exact .inr (.inl rfl)) Tryd.underlying27 Tryd.type9 rfl rfl rfl rfl (fun w m hK => hva78.mono (KC.le hK)) rfl (by decide) (by simp only [maxLen]; omega) (by omega)) <| .consA 61 rfl rfl <| .nil) ?_
          intro a12 w12 m12 hst12 hle12 hk12
          have hfr12 := hk12.fr (T' := [(5, _), (4, _), (1, _)]) (.old rfl rfl <| .old rfl rfl <| .old rfl rfl <| .nil)
          obtain ⟨⟨O_79o, O_79p⟩, e80, hsl_O_79⟩ := hk12.ex 61 rfl
          replace hfr12 := hfr12.cons (hk12.same 3 rfl e80)
          replace hst12 := hst12.fin (L' := [_]) (.cons e80 <| .nil)
          replace hc1 := hc1.mono hle12
          replace hcv78 := hcv78.mono hle12
          replace hbd78 := hbd78.mono hle12
          have hlh12 := hlh11.trans hle12
          clear hst11 hfr11 hk12
          replace hsl_O_79 : Strs m12 O_79o (gb ++ x78.vars).length O_79p (gb ++ x78.vars) := hsl_O_79
          refine hK77 _ _ ?_; clear hK77
          refine ra0 (tch := [(8, 0, (fun v => .rowx (nz v) _ _ _ _))]) hst12 hfr12 (.cons rfl (ob_move rfl) <| .cons rfl (ob_fieldAddrO (off := 6) rfl Tryd.underlying33 rfl rfl Tryd.sizeOf25 rfl) <| .cons rfl (ob_load1 rfl hc1 Tryd.isAgg25 rfl) <| .cons rfl (ob_move rfl) <| .cons rfl (ob_indexAddr (k := y) rfl rfl Tryd.underlying25 Tryd.sizeOf60 rfl (by omega)) <| .cons rfl (ob_fieldAddrO (off := 2) rfl Tryd.underlying60 rfl rfl Tryd.sizeOf33 rfl) <| .cons rfl (ob_loadS rfl hcv78 Tryd.isAgg33 Tryd.sizeOf33 rfl rfl) <| .cons rfl (ob_call (φ := MP.strs (bndT x78.body)) rfl (.cons rfl <| .nil) Tryd.call14 (fun w m hK => by have hle_ := KC.le hK; have hA := KC.agree hK; have hbd78 := hbd78.mono hle_; exact FnG.mono (iha _ hm_x78 hA hbd78 (by have := hba _ hm_x78; omega)) fun _ _ _ _ h => h)) <| .consT rfl rfl (fun _ => rfl) rfl (ob_imgT 69 rfl rfl rfl fun y69 => ob_appendX (size := 1) (bytes := 16) (l := (gb ++ x78.vars)) (l' := bndT x78.body) rfl rfl (fun _ => by first | exact .inl rfl | exact .inr (.inl rfl)) Tryd.underlying27 Tryd.type9 rfl rfl rfl rfl (fun w m hK => hK.2) rfl (by decide) (by simp only [maxLen]; (try simp only [List.length_append, List.length_cons, List.length_nil]); omega) (by (try simp only [List.length_append, List.length_cons, List.length_nil]); omega)) <| .consA 70 rfl rfl <| .nil) ?_
          intro a13 w13 m13 hst13 hle13 hk13
          have hfr13 := hk13.fr (T' := [(5, _), (4, _), (1, _)]) (.old rfl rfl <| .old rfl rfl <| .old rfl rfl <| .nil)
          obtain ⟨⟨O_81o, O_81p⟩, e82, hsl_O_81⟩ := hk13.ex 70 rfl
          replace hfr13 := hfr13.cons (hk13.same 3 rfl e82)
          replace hst13 := hst13.fin (L' := [_]) (.cons e82 <| .nil)
          have hlh13 := hlh12.trans hle13
          clear hst12 hfr12 hk13
          replace hsl_O_81 : Strs m13 O_81o ((gb ++ x78.vars) ++ bndT x78.body).length O_81p ((gb ++ x78.vars) ++ bndT x78.body) := hsl_O_81
          refine hK76 _ _ ?_; clear hK76
          refine rp0 hst13 hfr13 (.cons rfl (ob_move rfl) <| .cons rfl (ob_add rfl rfl ⟨by omega, by omega⟩) <| .cons rfl (ob_assign rfl) <| .nil) ?_
          intro a14 w14 m14 hst14 hle14 hk14
          have hfr14 := hk14.fr (T' := [(4, _), (1, _), (3, _), (5, _)]) (.old rfl rfl <| .old rfl rfl <| .old rfl rfl <| .new rfl <| .nil)
          replace hsl_O_81 := hsl_O_81.mono hle14
          have hlh14 := hlh13.trans hle14
          clear hst13 hfr13 hk14
          exact ⟨(y + 1, O_81o, O_81p, ((gb ++ x78.vars) ++ bndT x78.body)), m14, by show t.arms.length - (y + 1) < t.arms.length - y; omega, ⟨hst14, hlh14, hfr14.sub (.cons rfl <| .cons rfl <| .cons rfl <| .cons rfl <| .nil), ⟨by show y + 1 ≤ t.arms.length; omega, hsl_O_81, by rw [hlen_gb]; show _ = ((gb ++ x78.vars) ++ bndT x78.body) ++ bndAs (t.arms.drop (y + 1)); simp [List.append_assoc]⟩⟩⟩
        · try simp only [nq1, nq2, nq3, nq4, nq5, nq6, nq7, nq8, nq9, u8_eq] at hb51
          have hge : y = t.arms.length := by omega
          rw [List.drop_of_length_le (by omega), bndAs, List.append_nil] at hlen_gb
          have hfin := hlen_gb
          refine wp_exit ?_
          refine hK71 _ _ ?_; clear hK71
          refine seq_any fun _ hK83 => ?_
          refine rp0 hst11 hfr11 (.cons rfl (ob_move rfl) <| .cons rfl (ob_assign rfl) <| .nil) ?_
          intro a12 w12 m12 hst12 hle12 hk12
          have hfr12 := hk12.fr (T' := [(3, _), (5, _), (4, _), (2, _)]) (.old rfl rfl <| .old rfl rfl <| .old rfl rfl <| .new rfl <| .nil)
          replace hsl_gb := hsl_gb.mono hle12
          have hlh12 := hlh11.trans hle12
          clear hst11 hfr11 hk12
          refine hK83 _ _ ?_; clear hK83
          refine wp_ret ?_
          repeat (with_reducible first | refine then_ret ?_ | refine block_ret ?_)
          exact fn_ret hst12 hfr12 rfl (.tmp rfl <| .nil) (⟨(_, _), by rw [hfin]; rfl, by rw [hfin]; exact hsl_gb⟩)
    · try simp only [nq1, nq2, nq3, nq4, nq5, nq6, nq7, nq8, nq9, u8_eq] at hb26
      have hout0 : bndT t = ([] : List Str) ++ bndKs t.kids ++ bndAs t.arms := by rw [bndT_eq]; first | (rw [if_pos (by omega), if_neg (by omega)]; simp; done) | (rw [if_neg (by omega), if_neg (by omega)]; simp; done)
      refine wp_skip ?_
      refine hK58 _ _ ?_; clear hK58
      refine seq_any fun _ hK85 => ?_
      refine seq_any fun _ hK86 => ?_
      refine rp0 hst4 hfr4 (.cons rfl (ob_assign rfl) <| .nil) ?_
      intro a5 w5 m5 hst5 hle5 hk5
      have hfr5 := hk5.fr (T' := [(1, _), (3, _), (4, _)]) (.old rfl rfl <| .old rfl rfl <| .new rfl <| .nil)
      replace hkk_t := hkk_t.mono hle5
      replace haa_t := haa_t.mono hle5
      replace hc1 := hc1.mono hle5
      replace hsl_O := hsl_O.mono hle5
      clear hst4 hfr4 hk5
      refine hK86 _ _ ?_; clear hK86
      refine wp_block ?_
      refine loop_any (T := [(1, _)]) (fun (y : Nat × Option Addr × Nat × List Str) => ([(3, .slice y.2.1 y.2.2.2.length y.2.2.1), (4, .int .i64 (y.1 : Int))] : List (Nat × Value))) (fun y => [.rowx (nz (.slice y.2.1 y.2.2.2.length y.2.2.1)) y.2.2.2.length 1 9 (MP.reads (fun _ vs (x : Str) => vs = [S x]) 1 y.2.2.2)]) (fun (y : Nat × Option Addr × Nat × List Str) m => (fun (y : Nat) (gao : Option Addr) (gap : Nat) (ga : List Str) => (y ≤ t.kids.length) ∧ (Strs m gao ga.length gap ga) ∧ (bndT t = ga ++ bndKs (t.kids.drop y) ++ bndAs t.arms)) y.1 y.2.1 y.2.2.1 y.2.2.2) (fun y => t.kids.length - y.1) ((0, none, 0, ([] : List Str))) ⟨hst5, MLe.refl _, hfr5.sub (.cons rfl <| .cons rfl <| .cons rfl <| .nil), ⟨Nat.zero_le _, hsl_O, by simpa using hout0⟩⟩ fun y a6 w6 m6 hh6 => ?_
      have hst6 := hh6.st; have hle6 := hh6.le; have hfr6 := hh6.fr; have hrel := hh6.rel; clear hh6
      replace hkk_t := hkk_t.mono hle6
      replace haa_t := haa_t.mono hle6
      replace hc1 := hc1.mono hle6
      clear hst5 hfr5
      obtain ⟨y, gao, gap, ga⟩ := y
      dsimp only at hrel hfr6 hst6
      obtain ⟨hyn, hsl_ga, hlen_ga⟩ := hrel
      have hlh6 := hle6
      refine seq_any fun _ hK88 => ?_
      refine seq_any fun _ hK89 => ?_
      refine rp0 hst6 hfr6 (.cons rfl (ob_move rfl) <| .cons rfl (ob_fieldAddrO (off := 5) rfl Tryd.underlying33 rfl rfl Tryd.sizeOf24 rfl) <| .cons rfl (ob_load1 rfl hc1 Tryd.isAgg24 rfl) <| .cons rfl (ob_len rfl Tryd.underlying24) <| .cons rfl (ob_lss rfl rfl) <| .nil) ?_
      intro a7 w7 m7 hst7 hle7 hk7
      have hfr7 := hk7.fr (T' := [(3, _), (4, _), (1, _), (36, _)]) (.old rfl rfl <| .old rfl rfl <| .old rfl rfl <| .new rfl <| .nil)
      replace hkk_t := hkk_t.mono hle7
      replace haa_t := haa_t.mono hle7
      replace hc1 := hc1.mono hle7
      replace hsl_ga := hsl_ga.mono hle7
      have hlh7 := hlh6.trans hle7
      clear hst6 hfr6 hk7
      refine hK89 _ _ ?_; clear hK89
      refine cond_any hfr7 rfl rfl (fun hb36 => ?_) (fun hb36 => ?_)
      · try simp only [nq1, nq2, nq3, nq4, nq5, nq6, nq7, nq8, nq9, u8_eq] at hb36
        refine wp_skip ?_
        refine hK88 _ _ ?_; clear hK88
        refine seq_any fun _ hK90 => ?_
        refine wp_block ?_
        obtain ⟨p91, vs91, x91, ho91, hd91, hm_x91, ht91, hcv91, hl91, hv91⟩ := hkk_t.nth (k := y) (by omega)
        cases ho91
        obtain ⟨⟨oK91, cK91, oA91, cA91, oR91, cR91, t091, t191, t291, t391, t491, t591, u091, u191, u291, u391, u491, u591⟩, rfl, hon91, hkk91, haa91, hrr91⟩ := hv91.open_
        dsimp only at hkk91 haa91 hrr91
        have hbg91 := hkk91.big; have hcp91 := hkk91.cap; have hbh91 := haa91.big; have hcq91 := haa91.cap
        rw [hd91, bndKs] at hlen_ga
        have hla9 := congrArg List.length hlen_ga
        simp only [List.length_append] at hla9
        refine ra0 (tch := [(7, 0, (fun v => .rowx (nz v) _ _ _ _))]) hst7 hfr7 (.cons rfl (ob_move rfl) <| .cons rfl (ob_fieldAddrO (off := 5) rfl Tryd.underlying33 rfl rfl Tryd.sizeOf24 rfl) <| .cons rfl (ob_load1 rfl hc1 Tryd.isAgg24 rfl) <| .cons rfl (ob_move rfl) <| .cons rfl (ob_indexAddr (k := y) rfl rfl Tryd.underlying24 Tryd.sizeOf33 rfl (by omega)) <| .cons rfl (ob_loadS' rfl hcv91 Tryd.isAgg33 Tryd.sizeOf33 rfl rfl) <| .cons rfl (ob_call (φ := MP.strs (bndT x91)) rfl (.cons rfl <| .nil) Tryd.call14 (fun w m hK => by have hle_ := KC.le hK; have hA := KC.agree hK; have hv91 := hv91.mono hle_; exact FnG.mono (ihk _ hm_x91 hA hv91 (by have := hbk _ hm_x91; omega)) fun _ _ _ _ h => h)) <| .consT rfl rfl (fun _ => rfl) rfl (ob_imgT 45 rfl rfl rfl fun y45 => ob_appendX (size := 1) (bytes := 16) (l := ga) (l' := bndT x91) rfl rfl (fun _ => by first | exact .inl rfl | exact .inr (.inl rfl)) Tryd.underlying27 Tryd.type9 rfl rfl rfl rfl (fun w m hK => hK.2) rfl (by decide) (by simp only [maxLen]; omega) (by omega)) <| .consA 46 rfl rfl <| .nil) ?_
        intro a8 w8 m8 hst8 hle8 hk8
        have hfr8 := hk8.fr (T' := [(4, _), (1, _)]) (.old rfl rfl <| .old rfl rfl <| .nil)
        obtain ⟨⟨O_92o, O_92p⟩, e93, hsl_O_92⟩ := hk8.ex 46 rfl
        replace hfr8 := hfr8.cons (hk8.same 3 rfl e93)
        replace hst8 := hst8.fin (L' := [_]) (.cons e93 <| .nil)
        have hlh8 := hlh7.trans hle8
        clear hst7 hfr7 hk8
        replace hsl_O_92 : Strs m8 O_92o (ga ++ bndT x91).length O_92p (ga ++ bndT x91) := hsl_O_92
        refine hK90 _ _ ?_; clear hK90
        refine rp0 hst8 hfr8 (.cons rfl (ob_move rfl) <| .cons rfl (ob_add rfl rfl ⟨by omega, by omega⟩) <| .cons rfl (ob_assign rfl) <| .nil) ?_
        intro a9 w9 m9 hst9 hle9 hk9
        have hfr9 := hk9.fr (T' := [(1, _), (3, _), (4, _)]) (.old rfl rfl <| .old rfl rfl <| .new rfl <| .nil)
        replace hsl_O_92 := hsl_O_92.mono hle9
        have hlh9 := hlh8.trans hle9
        clear hst8 hfr8 hk9
        exact ⟨(y + 1, O_92o, O_92p, (ga ++ bndT x91)), m9, by show t.kids.length - (y + 1) < t.kids.length - y; omega, ⟨hst9, hlh9, hfr9.sub (.cons rfl <| .cons rfl <| .cons rfl <| .nil), ⟨by show y + 1 ≤ t.kids.length; omega, hsl_O_92, by rw [hlen_ga]; show _ = ((ga ++ bndT x91) ++ bndKs (t.kids.drop (y + 1))) ++ bndAs t.arms; simp [List.append_assoc]⟩⟩⟩
      · try simp only [nq1, nq2, nq3, nq4, nq5, nq6, nq7, nq8, nq9, u8_eq] at hb36
        have hge : y = t.kids.length := by omega
        rw [List.drop_of_length_le (by omega), bndKs, List.append_nil] at hlen_ga
        refine wp_exit ?_
        refine hK85 _ _ ?_; clear hK85
        refine seq_any fun _ hK94 => ?_
        refine seq_any fun _ hK95 => ?_
        refine rp0 hst7 hfr7 (.cons rfl (ob_assign rfl) <| .nil) ?_
        intro a8 w8 m8 hst8 hle8 hk8
        have hfr8 := hk8.fr (T' := [(3, _), (4, _), (1, _), (5, _)]) (.old rfl rfl <| .old rfl rfl <| .old rfl rfl <| .new rfl <| .nil)
        replace haa_t := haa_t.mono hle8
        replace hc1 := hc1.mono hle8
        replace hsl_ga := hsl_ga.mono hle8
        have hlh8 := hlh7.trans hle8
        clear hst7 hfr7 hk8
        refine hK95 _ _ ?_; clear hK95
        refine wp_block ?_
        have hlq96 := hlh8
        refine loop_any (T := [(4, _), (1, _)]) (fun (y : Nat × Option Addr × Nat × List Str) => ([(3, .slice y.2.1 y.2.2.2.length y.2.2.1), (5, .int .i64 (y.1 : Int))] : List (Nat × Value))) (fun y => [.rowx (nz (.slice y.2.1 y.2.2.2.length y.2.2.1)) y.2.2.2.length 1 9 (MP.reads (fun _ vs (x : Str) => vs = [S x]) 1 y.2.2.2)]) (fun (y : Nat × Option Addr × Nat × List Str) m => (fun (y : Nat) (gbo : Option Addr) (gbp : Nat) (gb : List Str) => (y ≤ t.arms.length) ∧ (Strs m gbo gb.length gbp gb) ∧ (bndT t = gb ++ bndAs (t.arms.drop y))) y.1 y.2.1 y.2.2.1 y.2.2.2) (fun y => t.arms.length - y.1) ((0, gao, gap, ga)) ⟨hst8, MLe.refl _, hfr8.sub (.cons rfl <| .cons rfl <| .cons rfl <| .cons rfl <| .nil), ⟨Nat.zero_le _, hsl_ga, hlen_ga⟩⟩ fun y a9 w9 m9 hh9 => ?_
        have hst9 := hh9.st; have hle9 := hh9.le; have hfr9 := hh9.fr; have hrel := hh9.rel; clear hh9
        replace haa_t := haa_t.mono hle9
        replace hc1 := hc1.mono hle9
        clear hst8 hfr8
        obtain ⟨y, gbo, gbp, gb⟩ := y
        dsimp only at hrel hfr9 hst9
        obtain ⟨hyn, hsl_gb, hlen_gb⟩ := hrel
        have hlh9 := hle9
        refine seq_any fun _ hK97 => ?_
        refine seq_any fun _ hK98 => ?_
        refine rp0 hst9 hfr9 (.cons rfl (ob_move rfl) <| .cons rfl (ob_fieldAddrO (off := 6) rfl Tryd.underlying33 rfl rfl Tryd.sizeOf25 rfl) <| .cons rfl (ob_load1 rfl hc1 Tryd.isAgg25 rfl) <| .cons rfl (ob_len rfl Tryd.underlying25) <| .cons rfl (ob_lss rfl rfl) <| .nil) ?_
        intro a10 w10 m10 hst10 hle10 hk10
        have hfr10 := hk10.fr (T' := [(3, _), (5, _), (4, _), (1, _), (51, _)]) (.old rfl rfl <| .old rfl rfl <| .old rfl rfl <| .old rfl rfl <| .new rfl <| .nil)
        replace haa_t := haa_t.mono hle10
        replace hc1 := hc1.mono hle10
        replace hsl_gb := hsl_gb.mono hle10
        have hlh10 := hlh9.trans hle10
        clear hst9 hfr9 hk10
        refine hK98 _ _ ?_; clear hK98
        refine cond_any hfr10 rfl rfl (fun hb51 => ?_) (fun hb51 => ?_)
        · try simp only [nq1, nq2, nq3, nq4, nq5, nq6, nq7, nq8, nq9, u8_eq] at hb51
          refine wp_skip ?_
          refine hK97 _ _ ?_; clear hK97
          refine seq_any fun _ hK99 => ?_
          refine wp_block ?_
          refine seq_any fun _ hK100 => ?_
          obtain ⟨p101, vs101, x101, ho101, hd101, hm_x101, ht101, hcv101, hl101, hv101⟩ := haa_t.nth (k := y) (by omega)
          cases ho101
          obtain ⟨oV101, cV101, bs101, rfl, hva101, hbd101⟩ := hv101.open_
          have hbv101 := hva101.big; have hcv101_ := hva101.cap
          obtain ⟨⟨oK101b, cK101b, oA101b, cA101b, oR101b, cR101b, t0101b, t1101b, t2101b, t3101b, t4101b, t5101b, u0101b, u1101b, u2101b, u3101b, u4101b, u5101b⟩, rfl, hon101b, hkk101b, haa101b, hrr101b⟩ := hbd101.open_
          dsimp only at hkk101b haa101b hrr101b
          have hbg101b := hkk101b.big; have hcp101b := hkk101b.cap; have hbh101b := haa101b.big; have hcq101b := haa101b.cap
          rw [hd101, bndAs_cons] at hlen_gb
          have hla9 := congrArg List.length hlen_gb
          simp only [List.length_append] at hla9
          refine ra0 (tch := [(7, 0, (fun v => .rowx (nz v) _ _ _ _))]) hst10 hfr10 (.cons rfl (ob_move rfl) <| .cons rfl (ob_fieldAddrO (off := 6) rfl Tryd.underlying33 rfl rfl Tryd.sizeOf25 rfl) <| .cons rfl (ob_load1 rfl hc1 Tryd.isAgg25 rfl) <| .cons rfl (ob_move rfl) <| .cons rfl (ob_indexAddr (k := y) rfl rfl Tryd.underlying25 Tryd.sizeOf60 rfl (by omega)) <| .cons rfl (ob_fieldAddrO (off := 1) rfl Tryd.underlying60 rfl rfl Tryd.sizeOf27 rfl) <| .cons rfl (ob_load1 rfl hcv101 Tryd.isAgg27 rfl) <| .consT rfl rfl (fun _ => rfl) rfl (ob_appendX (size := 1) (bytes := 16) (l := gb) (l' := x101.vars) rfl rfl (fun _ => by first | exact .inl rfl | exact .inr (.inl rfl)) Tryd.underlying27 Tryd.type9 rfl rfl rfl rfl (fun w m hK => hva101.mono (KC.le hK)) rfl (by decide) (by simp only [maxLen]; omega) (by omega)) <| .consA 61 rfl rfl <| .nil) ?_
          intro a11 w11 m11 hst11 hle11 hk11
          have hfr11 := hk11.fr (T' := [(5, _), (4, _), (1, _)]) (.old rfl rfl <| .old rfl rfl <| .old rfl rfl <| .nil)
          obtain ⟨⟨O_102o, O_102p⟩, e103, hsl_O_102⟩ := hk11.ex 61 rfl
          replace hfr11 := hfr11.cons (hk11.same 3 rfl e103)
          replace hst11 := hst11.fin (L' := [_]) (.cons e103 <| .nil)
          replace hc1 := hc1.mono hle11
          replace hcv101 := hcv101.mono hle11
          replace hbd101 := hbd101.mono hle11
          have hlh11 := hlh10.trans hle11
          clear hst10 hfr10 hk11
          replace hsl_O_102 : Strs m11 O_102o (gb ++ x101.vars).length O_102p (gb ++ x101.vars) := hsl_O_102
          refine hK100 _ _ ?_; clear hK100
          refine ra0 (tch := [(8, 0, (fun v => .rowx (nz v) _ _ _ _))]) hst11 hfr11 (.cons rfl (ob_move rfl) <| .cons rfl (ob_fieldAddrO (off := 6) rfl Tryd.underlying33 rfl rfl Tryd.sizeOf25 rfl) <| .cons rfl (ob_load1 rfl hc1 Tryd.isAgg25 rfl) <| .cons rfl (ob_move rfl) <| .cons rfl (ob_indexAddr (k := y) rfl rfl Tryd.underlying25 Tryd.sizeOf60 rfl (by omega)) <| .cons rfl (ob_fieldAddrO (off := 2) rfl Tryd.underlying60 rfl rfl Tryd.sizeOf33 rfl) <| .cons rfl (ob_loadS rfl hcv101 Tryd.isAgg33 Tryd.sizeOf33 rfl rfl) <| .cons rfl (ob_call (φ := MP.strs (bndT x101.body)) rfl (.cons rfl <| .nil) Tryd.call14 (fun w m hK => by have hle_ := KC.le hK; have hA := KC.agree hK; have hbd101 := hbd101.mono hle_; exact FnG.mono (iha _ hm_x101 hA hbd101 (by have := hba _ hm_x101; omega)) fun _ _ _ _ h => h)) <| .consT rfl rfl (fun _ => rfl) rfl (ob_imgT 69 rfl rfl rfl fun y69 => ob_appendX (size := 1) (bytes := 16) (l := (gb ++ x101.vars)) (l' := bndT x101.body) rfl rfl (fun _ => by first | exact .inl rfl | exact .inr (.inl rfl)) Tryd.underlying27 Tryd.type9 rfl rfl rfl rfl (fun w m hK => hK.2) rfl (by decide) (by simp only [maxLen]; (try simp only [List.length_append, List.length_cons, List.length_nil]); omega) (by (try simp only [List.length_append, List.length_cons, List.length_nil]); omega)) <| .consA 70 rfl rfl <| .nil) ?_
          intro a12 w12 m12 hst12 hle12 hk12
          have hfr12 := hk12.fr (T' := [(5, _), (4, _), (1, _)]) (.old rfl rfl <| .old rfl rfl <| .old rfl rfl <| .nil)
          obtain ⟨⟨O_104o, O_104p⟩, e105, hsl_O_104⟩ := hk12.ex 70 rfl
          replace hfr12 := hfr12.cons (hk12.same 3 rfl e105)
          replace hst12 := hst12.fin (L' := [_]) (.cons e105 <| .nil)
          have hlh12 := hlh11.trans hle12
          clear hst11 hfr11 hk12
          replace hsl_O_104 : Strs m12 O_104o ((gb ++ x101.vars) ++ bndT x101.body).length O_104p ((gb ++ x101.vars) ++ bndT x101.body) := hsl_O_104
          refine hK99 _ _ ?_; clear hK99
          refine rp0 hst12 hfr12 (.cons rfl (ob_move rfl) <| .cons rfl (ob_add rfl rfl ⟨by omega, by omega⟩) <| .cons rfl (ob_assign rfl) <| .nil) ?_
          intro a13 w13 m13 hst13 hle13 hk13
          have hfr13 := hk13.fr (T' := [(4, _), (1, _), (3, _), (5, _)]) (.old rfl rfl <| .old rfl rfl <| .old rfl rfl <| .new rfl <| .nil)
          replace hsl_O_104 := hsl_O_104.mono hle13
          have hlh13 := hlh12.trans hle13
          clear hst12 hfr12 hk13
          exact ⟨(y + 1, O_104o, O_104p, ((gb ++ x101.vars) ++ bndT x101.body)), m13, by show t.arms.length - (y + 1) < t.arms.length - y; omega, ⟨hst13, hlh13, hfr13.sub (.cons rfl <| .cons rfl <| .cons rfl <| .cons rfl <| .nil), ⟨by show y + 1 ≤ t.arms.length; omega, hsl_O_104, by rw [hlen_gb]; show _ = ((gb ++ x101.vars) ++ bndT x101.body) ++ bndAs (t.arms.drop (y + 1)); simp [List.append_assoc]⟩⟩⟩
        · try simp only [nq1, nq2, nq3, nq4, nq5, nq6, nq7, nq8, nq9, u8_eq] at hb51
          have hge : y = t.arms.length := by omega
          rw [List.drop_of_length_le (by omega), bndAs, List.append_nil] at hlen_gb
          have hfin := hlen_gb
          refine wp_exit ?_
          refine hK94 _ _ ?_; clear hK94
          refine seq_any fun _ hK106 => ?_
          refine rp0 hst10 hfr10 (.cons rfl (ob_move rfl) <| .cons rfl (ob_assign rfl) <| .nil) ?_
          intro a11 w11 m11 hst11 hle11 hk11
          have hfr11 := hk11.fr (T' := [(3, _), (5, _), (4, _), (2, _)]) (.old rfl rfl <| .old rfl rfl <| .old rfl rfl <| .new rfl <| .nil)
          replace hsl_gb := hsl_gb.mono hle11
          have hlh11 := hlh10.trans hle11
          clear hst10 hfr10 hk11
          refine hK106 _ _ ?_; clear hK106
          refine wp_ret ?_
          repeat (with_reducible first | refine then_ret ?_ | refine block_ret ?_)
          exact fn_ret hst11 hfr11 rfl (.tmp rfl <| .nil) (⟨(_, _), by rw [hfin]; rfl, by rw [hfin]; exact hsl_gb⟩)
theorem binders_c (t : Tm) : binders_G t := Tm.rec_ (p := binders_G) (fun t ihk iha => binders_s ihk iha) t

end Go.Proofs.YteamjgbhcjojaaaDoor
