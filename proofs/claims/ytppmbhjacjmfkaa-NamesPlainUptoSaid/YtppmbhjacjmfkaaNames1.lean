/-
  Names of terms (brocaderef06): rising rows, each name once. Conditions: those of each theorem.
-/
import Derived.Test.YtppmbhjacjmfkaaTerms2
namespace Go.Proofs.Ytppmbhjacjmfkaa
set_option linter.all false
set_option maxRecDepth 4000
open Go.RowKit
def insM : List Str → Str → List Str
  | [], s => [s]
  | x :: l, s => if Op.bytesLess x s = true then x :: insM l s else if x = s then x :: l else s :: x :: l
def joinM (a b : List Str) : List Str := b.foldl insM a
theorem insM_len : ∀ (l : List Str) (s : Str), (insM l s).length ≤ l.length + 1
  | [], s => by simp [insM]
  | x :: l, s => by rw [insM]; have := insM_len l s; split; (simp only [List.length_cons]; omega); split <;> simp
theorem joinM_len : ∀ (b a : List Str), (joinM a b).length ≤ a.length + b.length
  | [], a => by simp [joinM]
  | x :: b, a => by have := joinM_len b (insM a x); have := insM_len a x; unfold joinM at *; rw [List.foldl_cons, List.length_cons]; omega
theorem insM_new {d : List Str} {s : Str} (h : ∀ x r, d = x :: r → Op.bytesLess x s = false ∧ x ≠ s) : insM d s = s :: d := by
  cases d with
  | nil => rfl
  | cons x r => obtain ⟨h1, h2⟩ := h x r rfl; rw [insM, if_neg (by rw [h1]; decide), if_neg h2]
theorem insM_old {d r : List Str} {s x : Str} (hd : d = x :: r) (h1 : Op.bytesLess x s = false) (h2 : x = s) : insM d s = d := by
  subst hd; rw [insM, if_neg (by rw [h1]; decide), if_pos h2]
mutual
def nameT : Tm → List Str
  | ⟨k, _, s, _, _, ks, az, _⟩ => if k = 1 then [s] else nameAs (nameKs [] ks) az
def nameKs : List Str → List Tm → List Str
  | a, [] => a
  | a, t :: ts => nameKs (joinM a (nameT t)) ts
def nameAs : List Str → List Ar → List Str
  | a, [] => a
  | a, ⟨_, _, b⟩ :: ts => nameAs (joinM a (nameT b)) ts
end
theorem nameT_eq (t : Tm) : nameT t = if t.kind = 1 then [t.name] else nameAs (nameKs [] t.kids) t.arms := by obtain ⟨k, a, s, p, n, ks, az, r⟩ := t; rw [nameT]; rfl
theorem nameAs_cons (l : List Str) (a : Ar) (ts : List Ar) : nameAs l (a :: ts) = nameAs (joinM l (nameT a.body)) ts := by obtain ⟨x, v, b⟩ := a; rw [nameAs]; rfl
theorem nameT_len (t : Tm) : (nameT t).length ≤ countM t := by
  induction t using Tm.rec_ with
  | h t ihk iha =>
    have hk : ∀ (l : List Tm), (∀ u ∈ l, u ∈ t.kids) → ∀ a, (nameKs a l).length ≤ a.length + countKs l := by
      intro l
      induction l with
      | nil => intro _ a; simp [nameKs]
      | cons u l ih => intro hl a; rw [nameKs, countKs]; have := ihk u (hl u (.head _)); have := ih (fun u hu => hl u (.tail _ hu)) (joinM a (nameT u)); have := joinM_len (nameT u) a; omega
    have ha : ∀ (l : List Ar), (∀ u ∈ l, u ∈ t.arms) → ∀ a, (nameAs a l).length ≤ a.length + countAs l := by
      intro l
      induction l with
      | nil => intro _ a; simp [nameAs]
      | cons u l ih => intro hl a; rw [nameAs_cons, countAs_cons]; have := iha u (hl u (.head _)); have := ih (fun u hu => hl u (.tail _ hu)) (joinM a (nameT u.body)); have := joinM_len (nameT u.body) a; omega
    rw [nameT_eq, countM_eq]
    split
    · simp; omega
    · have := ha t.arms (fun _ h => h) (nameKs [] t.kids); have := hk t.kids (fun _ h => h) []; simp only [List.length_nil] at this; omega
def freeT (t : Tm) : List Str := (nameT t).filter fun s => decide (0 < usesM s t)
set_option maxHeartbeats 800000 in
theorem join_c {w : World} {m : Mem} {o_pl : Option Addr} {c_pl : Nat} {pl : List Str} {o_ql : Option Addr} {c_ql : Nat} {ql : List Str} (hA : Agree w m) (h_pl : Strs m o_pl pl.length c_pl pl) (h_ql : Strs m o_ql ql.length c_ql ql) (hbig : pl.length + ql.length ≤ 1073741824) : FnV Try.prog 45 #[.slice o_pl pl.length c_pl, .slice o_ql ql.length c_ql] w m (fun _ m v => (MP.strs (joinM pl ql)).p m v) := by
  have hb_pl := h_pl.big; have hc_pl := h_pl.cap
  have hb_ql := h_ql.big; have hc_ql := h_ql.cap
  refine fn_enter (vs := [_, _]) Try.func45 rfl rfl rfl fun a0 hfr0 => ?_
  have hst0 := st_enter hA (loc_nil [] _ w m)
  have hM : MLe m m := MLe.refl m
  refine seq_any fun _ hK1 => ?_
  refine rp0 hst0 hfr0 (.cons rfl (ob_assign rfl) <| .nil) ?_
  intro a1 w1 m1 hst1 hle1 hk1
  have hfr1 := hk1.fr (T' := [(0, _), (1, _)]) (.old rfl rfl <| .old rfl rfl <| .nil)
  replace h_pl := h_pl.mono hle1
  replace h_ql := h_ql.mono hle1
  clear hst0 hfr0 hk1
  refine hK1 _ _ ?_; clear hK1
  refine seq_any fun _ hK2 => ?_
  refine rp0 hst1 hfr1 (.cons rfl (ob_move rfl) <| .cons rfl (ob_assign rfl) <| .nil) ?_
  intro a2 w2 m2 hst2 hle2 hk2
  have hfr2 := hk2.fr (T' := [(1, _), (5, _)]) (.old rfl rfl <| .new rfl <| .nil)
  replace h_pl := h_pl.mono hle2
  replace h_ql := h_ql.mono hle2
  clear hst1 hfr1 hk2
  refine hK2 _ _ ?_; clear hK2
  refine seq_any fun _ hK3 => ?_
  refine seq_any fun _ hK4 => ?_
  refine rp0 hst2 hfr2 (.cons rfl (ob_assign rfl) <| .nil) ?_
  intro a3 w3 m3 hst3 hle3 hk3
  have hfr3 := hk3.fr (T' := [(1, _), (5, _), (6, _)]) (.old rfl rfl <| .old rfl rfl <| .new rfl <| .nil)
  replace h_pl := h_pl.mono hle3
  replace h_ql := h_ql.mono hle3
  clear hst2 hfr2 hk3
  refine hK4 _ _ ?_; clear hK4
  refine wp_block ?_
  refine loop_any (T := [(1, _)]) (fun (y : Nat × Option Addr × Nat × List Str) => ([(5, .slice y.2.1 y.2.2.2.length y.2.2.1), (6, .int .i64 (y.1 : Int))] : List (Nat × Value))) (fun _ => _) (fun (y : Nat × Option Addr × Nat × List Str) m => (fun (y : Nat) (gao : Option Addr) (gap : Nat) (ga : List Str) => (y ≤ ql.length) ∧ (Strs m gao ga.length gap ga) ∧ (joinM pl ql = (ql.drop y).foldl insM ga ∧ ga.length ≤ pl.length + y)) y.1 y.2.1 y.2.2.1 y.2.2.2) (fun y => ql.length - y.1) ((0, o_pl, c_pl, pl)) ⟨hst3, MLe.refl _, hfr3.sub (.cons rfl <| .cons rfl <| .cons rfl <| .nil), ⟨Nat.zero_le _, h_pl, ⟨rfl, Nat.le_refl _⟩⟩⟩ fun y a4 w4 m4 hh4 => ?_
  have hst4 := hh4.st; have hle4 := hh4.le; have hfr4 := hh4.fr; have hrel := hh4.rel; clear hh4
  replace h_ql := h_ql.mono hle4
  clear hst3 hfr3
  obtain ⟨y, gao, gap, ga⟩ := y
  dsimp only at hrel hfr4 hst4
  obtain ⟨hyn, hsl_ga, hlen_ga⟩ := hrel
  have hlh4 := hle4
  refine seq_any fun _ hK6 => ?_
  refine seq_any fun _ hK7 => ?_
  refine rp0 hst4 hfr4 (.cons rfl (ob_move rfl) <| .cons rfl (ob_move rfl) <| .cons rfl (ob_len rfl Try.underlying27) <| .cons rfl (ob_lss rfl rfl) <| .nil) ?_
  intro a5 w5 m5 hst5 hle5 hk5
  have hfr5 := hk5.fr (T' := [(5, _), (6, _), (1, _), (12, _)]) (.old rfl rfl <| .old rfl rfl <| .old rfl rfl <| .new rfl <| .nil)
  replace h_ql := h_ql.mono hle5
  replace hsl_ga := hsl_ga.mono hle5
  have hlh5 := hlh4.trans hle5
  clear hst4 hfr4 hk5
  refine hK7 _ _ ?_; clear hK7
  refine cond_any hfr5 rfl rfl (fun hb12 => ?_) (fun hb12 => ?_)
  · try simp only [nq1, nq2, nq3, nq4, nq5, nq6, nq7, nq8, nq9, u8_eq] at hb12
    refine wp_skip ?_
    refine hK6 _ _ ?_; clear hK6
    refine seq_any fun _ hK8 => ?_
    refine wp_block ?_
    refine seq_any fun _ hK9 => ?_
    refine rp0 hst5 hfr5 (.cons rfl (ob_assign rfl) <| .nil) ?_
    intro a6 w6 m6 hst6 hle6 hk6
    have hfr6 := hk6.fr (T' := [(5, _), (6, _), (1, _), (7, _)]) (.old rfl rfl <| .old rfl rfl <| .old rfl rfl <| .new rfl <| .nil)
    replace h_ql := h_ql.mono hle6
    replace hsl_ga := hsl_ga.mono hle6
    have hlh6 := hlh5.trans hle6
    clear hst5 hfr5 hk6
    obtain ⟨zz, hzz⟩ : ∃ z, z = (ql.drop y).headD [] := ⟨_, rfl⟩
    refine hK9 _ _ ?_; clear hK9
    refine seq_any fun _ hK10 => ?_
    refine wp_block ?_
    have hlq11 := hlh6
    refine loop_any (T := [(5, _), (6, _), (1, _)]) (fun (k : Nat) => ([(7, .int .i64 (k : Int))] : List (Nat × Value))) (fun _ => _) (fun (k : Nat) m => (k ≤ ga.length) ∧ (insM ga zz = ga.take k ++ insM (ga.drop k) zz)) (fun k => ga.length - k) (0) ⟨hst6, MLe.refl _, hfr6.sub (.cons rfl <| .cons rfl <| .cons rfl <| .cons rfl <| .nil), ⟨Nat.zero_le _, rfl⟩⟩ fun k a7 w7 m7 hh7 => ?_
    have hst7 := hh7.st; have hle7 := hh7.le; have hfr7 := hh7.fr; have hrel := hh7.rel; clear hh7
    replace h_ql := h_ql.mono hle7
    replace hsl_ga := hsl_ga.mono hle7
    clear hst6 hfr6
    obtain ⟨hkn, hremk⟩ := hrel
    replace hlq11 := hlq11.trans hle7
    have hlh7 := hle7
    refine seq_any fun _ hK12 => ?_
    refine seq_any fun _ hK13 => ?_
    rcases Nat.lt_or_ge k ga.length with hz | hz
    · skip
      obtain ⟨p14, vs14, x14, ho14, hd14, hm_x14, ht14, hcv14, hl14, hv14⟩ := hsl_ga.nth (k := k) (by omega)
      cases ho14
      subst hv14
      try rw [hd14] at hremk
      obtain ⟨p15, vs15, x15, ho15, hd15, hm_x15, ht15, hcv15, hl15, hv15⟩ := h_ql.nth (k := y) (by omega)
      cases ho15
      subst hv15
      try rw [hd15] at hremk
      refine region_plain (fun _ => mixed) hst7 hfr7 (by kernel_rfl) (by kernel_rfl) (.cons rfl (ob_move rfl) <| .cons rfl (ob_move rfl) <| .cons rfl (ob_len rfl Try.underlying27) <| .cons rfl (ob_lss rfl rfl) <| .cons rfl (ob_move rfl) <| .cons rfl (ob_move rfl) <| .cons rfl (ob_move rfl) <| .cons rfl (ob_indexAddr (k := k) rfl rfl Try.underlying27 Try.sizeOf9 rfl (by omega)) <| .cons rfl (ob_load1' rfl hcv14 Try.isAgg9 rfl) <| .cons rfl (ob_move rfl) <| .cons rfl (ob_move rfl) <| .cons rfl (ob_indexAddr (k := y) rfl rfl Try.underlying27 Try.sizeOf9 rfl (by omega)) <| .cons rfl (ob_load1' rfl hcv15 Try.isAgg9 rfl) <| .cons rfl (ob_slss rfl rfl) <| .cons rfl (ob_and rfl rfl rfl) <| .nil) ?_
      intro a8 w8 m8 hst8 hle8 hk8
      have hfr8 := hk8.fr (T' := [(7, _), (5, _), (6, _), (1, _), (29, _)]) (.old rfl rfl <| .old rfl rfl <| .old rfl rfl <| .old rfl rfl <| .new rfl <| .nil)
      replace hsl_ga := hsl_ga.mono hle8
      replace hcv14 := hcv14.mono hle8
      replace hcv15 := hcv15.mono hle8
      have hlh8 := hlh7.trans hle8
      replace hlq11 := hlq11.trans hle8
      clear hst7 hfr7 hk8
      have hh9 : zz = x15 := by rw [hzz, hd15]; rfl
      refine hK13 _ _ ?_; clear hK13
      refine cond_any hfr8 rfl rfl (fun hb29 => ?_) (fun hb29 => ?_)
      · try simp only [nq1, nq2, nq3, nq4, nq5, nq6, nq7, nq8, nq9, u8_eq] at hb29
        have hbl9 : Op.bytesLess x14 x15 = true := by simpa [hz] using hb29
        refine wp_skip ?_
        refine hK12 _ _ ?_; clear hK12
        refine wp_block ?_
        refine rp0 hst8 hfr8 (.cons rfl (ob_move rfl) <| .cons rfl (ob_add rfl rfl ⟨by omega, by omega⟩) <| .cons rfl (ob_assign rfl) <| .nil) ?_
        intro a9 w9 m9 hst9 hle9 hk9
        have hfr9 := hk9.fr (T' := [(5, _), (6, _), (1, _), (7, _)]) (.old rfl rfl <| .old rfl rfl <| .old rfl rfl <| .new rfl <| .nil)
        have hlh9 := hlh8.trans hle9
        clear hst8 hfr8 hk9
        exact ⟨k + 1, m9, by show ga.length - (k + 1) < ga.length - k; omega, ⟨hst9, hlh9, hfr9.sub (.cons rfl <| .cons rfl <| .cons rfl <| .cons rfl <| .nil), ⟨by show k + 1 ≤ ga.length; omega, by rw [hremk, insM, if_pos (by rw [hh9]; exact hbl9), ht14, List.append_assoc]; rfl⟩⟩⟩
      · try simp only [nq1, nq2, nq3, nq4, nq5, nq6, nq7, nq8, nq9, u8_eq] at hb29
        rw [← hd14] at hremk
        have hno : ∀ x r, ga.drop k = x :: r → Op.bytesLess x zz = false := by intro x r e; rw [hd14] at e; injection e with e1 e2; subst e1; rw [hh9]; simpa [hz] using hb29
        refine wp_exit ?_
        refine hK10 _ _ ?_; clear hK10
        refine seq_any fun _ hK16 => ?_
        rcases Nat.lt_or_ge k ga.length with hz | hz
        · skip
          refine region_plain (fun _ => mixed) hst8 hfr8 (by kernel_rfl) (by kernel_rfl) (.cons rfl (ob_move rfl) <| .cons rfl (ob_move rfl) <| .cons rfl (ob_len rfl Try.underlying27) <| .cons rfl (ob_eql rfl rfl) <| .cons rfl (ob_move rfl) <| .cons rfl (ob_move rfl) <| .cons rfl (ob_move rfl) <| .cons rfl (ob_indexAddr (k := k) rfl rfl Try.underlying27 Try.sizeOf9 rfl (by omega)) <| .cons rfl (ob_load1' rfl hcv14 Try.isAgg9 rfl) <| .cons rfl (ob_move rfl) <| .cons rfl (ob_move rfl) <| .cons rfl (ob_indexAddr (k := y) rfl rfl Try.underlying27 Try.sizeOf9 rfl (by omega)) <| .cons rfl (ob_load1' rfl hcv15 Try.isAgg9 rfl) <| .cons rfl (ob_sneq rfl rfl) <| .cons rfl (ob_or rfl rfl rfl) <| .nil) ?_
          intro a9 w9 m9 hst9 hle9 hk9
          have hfr9 := hk9.fr (T' := [(7, _), (5, _), (6, _), (1, _), (46, _)]) (.old rfl rfl <| .old rfl rfl <| .old rfl rfl <| .old rfl rfl <| .new rfl <| .nil)
          replace hsl_ga := hsl_ga.mono hle9
          replace hcv15 := hcv15.mono hle9
          have hlh9 := hlh8.trans hle9
          replace hlq11 := hlq11.trans hle9
          clear hst8 hfr8 hk9
          try rw [← hd14] at hremk
          have hh9 : zz = x15 := by rw [hzz, hd15]; rfl
          refine hK16 _ _ ?_; clear hK16
          refine cond_any hfr9 rfl rfl (fun hb46 => ?_) (fun hb46 => ?_)
          · try simp only [nq1, nq2, nq3, nq4, nq5, nq6, nq7, nq8, nq9, u8_eq] at hb46
            have hins : insM (ga.drop k) zz = zz :: ga.drop k := insM_new fun x r e => ⟨hno x r e, by rw [hd14] at e; injection e with e1 e2; subst e1; rw [hh9]; rcases hb46 with h | h; (exact absurd h (by omega)); exact h⟩
            have hcp9 := hsl_ga.cap
            have hct17 : Strs _ _ _ _ ((ga.take (k)).drop (0)) := hsl_ga.cut (l := 0) (k := k) (by omega) (by omega)
            have hcl17 : (k) - (0) = (((ga.take (k)).drop (0))).length := hct17.len.symm
            have hcu17 : Strs _ _ _ _ ((ga.take (k)).drop (0)) := hct17.lenL
            obtain ⟨cs_18, hrw_18, hrd_18, hcl_18⟩ := hct17.reads
            have hct20 : Strs _ _ _ _ ((ga.take (ga.length)).drop (k)) := hsl_ga.cut (l := k) (k := ga.length) (by omega) (by omega)
            have hcl20 : (ga.length) - (k) = (((ga.take (ga.length)).drop (k))).length := hct20.len.symm
            have hcu20 : Strs _ _ _ _ ((ga.take (ga.length)).drop (k)) := hct20.lenL
            obtain ⟨cs_21, hrw_21, hrd_21, hcl_21⟩ := hct20.reads
            replace hst9 := hst9.more (r := .free) trivial List.nodup_nil (by simp [Res.blocks])
            refine region_any (tch := [(4, 0, (fun v => .row (nz v) _ _ _ _)), (10, 0, (fun v => .row (nz v) _ _ _ _)), (14, 0, (fun v => .row (nz v) _ _ _ _))]) (fun _ => mixed) hst9 hfr9 (by kernel_rfl) (by kernel_rfl) (by kernel_rfl) (.cons rfl (ob_buildSlice0 Try.underlying27 Try.sizeOf9) <| .cons rfl (ob_move rfl) <| .cons rfl (ob_move rfl) <| .cons rfl (ob_slice (l := 0) (h := k) rfl .none (.some rfl (by omega)) Try.underlying27 Try.sizeOf9 (by omega) (by omega)) <| .consT rfl rfl (fun _ => rfl) rfl (ob_imgT 47 rfl rfl rfl fun y47 => ob_appendZ (size := 1) (bytes := 16) rfl rfl (fun _ => .inr ⟨rfl, rfl, rfl, rfl⟩) Try.underlying27 Try.type9 rfl rfl rfl rfl (fun w m hK => hrw_18.mono (KC.le hK)) hcl_18 (by decide) hrd_18.one (by simp only [maxLen]; omega) (by omega)) <| .cons rfl (ob_move rfl) <| .cons rfl (ob_move rfl) <| .cons rfl (ob_indexAddr (k := y) rfl rfl Try.underlying27 Try.sizeOf9 rfl (by omega)) <| .cons rfl (ob_load1' rfl hcv15 Try.isAgg9 rfl) <| .cons rfl (ob_buildSlice (.cons rfl <| .nil) Try.underlying27 Try.sizeOf9 Try.zeroValue9 rfl rfl rfl rfl) <| .consT rfl rfl (fun _ => rfl) rfl (ob_imgT 51 rfl rfl rfl fun y51 => ob_imgT 56 rfl rfl rfl fun y56 => ob_appendZ (size := 1) (bytes := 16) rfl rfl (fun _ => .inl rfl) Try.underlying27 Try.type9 rfl rfl rfl rfl (fun w m hK => .inr ⟨_, rfl, hK.2⟩) rfl (by decide) rfl (by simp only [maxLen]; omega) (by omega)) <| .cons rfl (ob_move rfl) <| .cons rfl (ob_move rfl) <| .cons rfl (ob_slice (l := k) (h := ga.length) rfl (.some rfl (by omega)) .none Try.underlying27 Try.sizeOf9 (by omega) (by omega)) <| .consT rfl rfl (fun _ => rfl) rfl (ob_imgT 57 rfl rfl rfl fun y57 => ob_appendZ (size := 1) (bytes := 16) rfl rfl (fun _ => .inl rfl) Try.underlying27 Try.type9 rfl rfl rfl rfl (fun w m hK => hrw_21.mono (KC.le hK)) hcl_21 (by decide) hrd_21.one (by simp only [maxLen]; omega) (by omega)) <| .consA 61 rfl rfl <| .nil) ?_
            intro a10 w10 m10 hst10 hle10 hk10
            have hfr10 := hk10.fr (T' := [(7, _), (6, _), (1, _)]) (.old rfl rfl <| .old rfl rfl <| .old rfl rfl <| .nil)
            obtain ⟨⟨oz18, cz18⟩, e22, hrz18, hcz18⟩ := hk10.ex 51 rfl
            replace e22 : envOf a10 51 = .slice oz18 (((ga.take (k)).drop (0))).length cz18 := by rw [e22]; refine congrArg (fun q => Value.slice _ q _) ?_; first | omega | (simp only [List.length_append, List.length_cons, List.length_nil, List.nil_append, List.length_take, List.length_drop]; try omega)
            obtain ⟨⟨oz19, cz19⟩, e23, hrz19, hcz19⟩ := hk10.ex 57 rfl
            replace e23 : envOf a10 57 = .slice oz19 ((((ga.take (k)).drop (0)) ++ [x15])).length cz19 := by rw [e23]; refine congrArg (fun q => Value.slice _ q _) ?_; first | omega | (simp only [List.length_append, List.length_cons, List.length_nil, List.nil_append, List.length_take, List.length_drop]; try omega)
            obtain ⟨⟨oz21, cz21⟩, e24, hrz21, hcz21⟩ := hk10.ex 61 rfl
            replace e24 : envOf a10 61 = .slice oz21 (((((ga.take (k)).drop (0)) ++ [x15]) ++ ((ga.take (ga.length)).drop (k)))).length cz21 := by rw [e24]; refine congrArg (fun q => Value.slice _ q _) ?_; first | omega | (simp only [List.length_append, List.length_cons, List.length_nil, List.nil_append, List.length_take, List.length_drop]; try omega)
            replace hfr10 := hfr10.cons (hk10.same 5 rfl e24)
            replace hst10 := hst10.fin (L' := [_]) (.cons e22 <| .cons e23 <| .cons e24 <| .nil)
            replace hrd_18 := hrd_18.mono hle10
            replace hrd_21 := hrd_21.mono hle10
            have hlh10 := hlh9.trans hle10
            replace hlq11 := hlq11.trans hle10
            clear hst9 hfr9 hk10
            have hsz21 : Strs m10 oz21 (((((ga.take (k)).drop (0)) ++ [x15]) ++ ((ga.take (ga.length)).drop (k)))).length cz21 ((((ga.take (k)).drop (0)) ++ [x15]) ++ ((ga.take (ga.length)).drop (k))) := Reads.sl (((Reads.nil.app hrd_18).app (Reads.single (vs := [_]) rfl rfl)).app hrd_21) hrz21 (by decide) rfl (by have h := hcz21; first | omega | (simp only [List.length_append, List.length_cons, List.length_nil, List.nil_append, List.length_take, List.length_drop] at h ⊢; omega)) (by first | omega | (simp only [List.length_append, List.length_cons, List.length_nil, List.nil_append, List.length_take, List.length_drop]; omega))
            have hh8 : zz = x15 := by rw [hzz, hd15]; rfl
            have hins2 : insM ga zz = ((((ga.take k).drop 0) ++ [x15]) ++ ((ga.take ga.length).drop k)) := by rw [hremk, hins, hh8]; simp
            refine hK8 _ _ ?_; clear hK8
            refine rp0 hst10 hfr10 (.cons rfl (ob_move rfl) <| .cons rfl (ob_add rfl rfl ⟨by omega, by omega⟩) <| .cons rfl (ob_assign rfl) <| .nil) ?_
            intro a11 w11 m11 hst11 hle11 hk11
            have hfr11 := hk11.fr (T' := [(7, _), (1, _), (5, _), (6, _)]) (.old rfl rfl <| .old rfl rfl <| .old rfl rfl <| .new rfl <| .nil)
            replace hsz21 := hsz21.mono hle11
            have hlh11 := hlh10.trans hle11
            replace hlq11 := hlq11.trans hle11
            clear hst10 hfr10 hk11
            have hst11 := hst11.take 0
            exact ⟨(y + 1, oz21, cz21, ((((ga.take k).drop 0) ++ [x15]) ++ ((ga.take ga.length).drop k))), m11, by show ql.length - (y + 1) < ql.length - y; omega, ⟨hst11, hlq11, hfr11.sub (.cons rfl <| .cons rfl <| .cons rfl <| .nil), ⟨by show y + 1 ≤ ql.length; omega, hsz21, ⟨by rw [hlen_ga.1, hd15, List.foldl_cons, ← hins2, hh8], by rw [← hins2]; have := insM_len ga zz; have := hlen_ga.2; show (insM ga zz).length ≤ pl.length + (y + 1); omega⟩⟩⟩⟩
          · try simp only [nq1, nq2, nq3, nq4, nq5, nq6, nq7, nq8, nq9, u8_eq] at hb46
            have hins : insM ga zz = ga := by rw [hremk, insM_old hd14 (hno _ _ hd14) (by rw [hh9]; exact hb46.2), List.take_append_drop]
            refine wp_skip ?_
            refine hK8 _ _ ?_; clear hK8
            refine rp0 hst9 hfr9 (.cons rfl (ob_move rfl) <| .cons rfl (ob_add rfl rfl ⟨by omega, by omega⟩) <| .cons rfl (ob_assign rfl) <| .nil) ?_
            intro a10 w10 m10 hst10 hle10 hk10
            have hfr10 := hk10.fr (T' := [(7, _), (5, _), (1, _), (6, _)]) (.old rfl rfl <| .old rfl rfl <| .old rfl rfl <| .new rfl <| .nil)
            replace hsl_ga := hsl_ga.mono hle10
            have hlh10 := hlh9.trans hle10
            replace hlq11 := hlq11.trans hle10
            clear hst9 hfr9 hk10
            exact ⟨(y + 1, _, gap, ga), m10, by show ql.length - (y + 1) < ql.length - y; omega, ⟨hst10, hlq11, hfr10.sub (.cons rfl <| .cons rfl <| .cons rfl <| .nil), ⟨by show y + 1 ≤ ql.length; omega, hsl_ga, ⟨by rw [hlen_ga.1, hd15, List.foldl_cons, ← hh9, hins], by have := hlen_ga.2; show ga.length ≤ pl.length + (y + 1); omega⟩⟩⟩⟩
        · skip
          refine region_plain (fun _ => mixed) hst8 hfr8 (by kernel_rfl) (by kernel_rfl) (.cons rfl (ob_move rfl) <| .cons rfl (ob_move rfl) <| .cons rfl (ob_len rfl Try.underlying27) <| .cons rfl (ob_eql rfl rfl) <| .cons rfl (ob_move rfl) <| .cons rfl (ob_move rfl) <| .cons rfl (ob_move rfl) <| .cons rfl (ob_guard (κ := .eq (.bool false)) (b := false) 36 rfl rfl (fun h => by first | (simp at h; omega) | omega)) <| .cons rfl (ob_guard (κ := .eq (.bool false)) (b := false) 36 rfl rfl (fun h => by first | (simp at h; omega) | omega)) <| .cons rfl (ob_move rfl) <| .cons rfl (ob_move rfl) <| .cons rfl (ob_guard (κ := .eq (.bool false)) (b := false) 36 rfl rfl (fun h => by first | (simp at h; omega) | omega)) <| .cons rfl (ob_guard (κ := .eq (.bool false)) (b := false) 36 rfl rfl (fun h => by first | (simp at h; omega) | omega)) <| .cons rfl (ob_guard (κ := .eq (.bool false)) (b := false) 36 rfl rfl (fun h => by first | (simp at h; omega) | omega)) <| .cons rfl (ob_or rfl rfl rfl) <| .nil) ?_
          intro a9 w9 m9 hst9 hle9 hk9
          have hfr9 := hk9.fr (T' := [(7, _), (5, _), (6, _), (1, _), (46, _)]) (.old rfl rfl <| .old rfl rfl <| .old rfl rfl <| .old rfl rfl <| .new rfl <| .nil)
          replace hsl_ga := hsl_ga.mono hle9
          replace hcv15 := hcv15.mono hle9
          have hlh9 := hlh8.trans hle9
          replace hlq11 := hlq11.trans hle9
          clear hst8 hfr8 hk9
          refine hK16 _ _ ?_; clear hK16
          refine cond_any hfr9 rfl rfl (fun hb46 => ?_) (fun hb46 => ?_)
          · try simp only [nq1, nq2, nq3, nq4, nq5, nq6, nq7, nq8, nq9, u8_eq] at hb46
            have hins : insM (ga.drop k) zz = zz :: ga.drop k := insM_new fun x r e => by rw [List.drop_of_length_le (by omega)] at e; cases e
            have hcp9 := hsl_ga.cap
            have hct25 : Strs _ _ _ _ ((ga.take (k)).drop (0)) := hsl_ga.cut (l := 0) (k := k) (by omega) (by omega)
            have hcl25 : (k) - (0) = (((ga.take (k)).drop (0))).length := hct25.len.symm
            have hcu25 : Strs _ _ _ _ ((ga.take (k)).drop (0)) := hct25.lenL
            obtain ⟨cs_26, hrw_26, hrd_26, hcl_26⟩ := hct25.reads
            have hct28 : Strs _ _ _ _ ((ga.take (ga.length)).drop (k)) := hsl_ga.cut (l := k) (k := ga.length) (by omega) (by omega)
            have hcl28 : (ga.length) - (k) = (((ga.take (ga.length)).drop (k))).length := hct28.len.symm
            have hcu28 : Strs _ _ _ _ ((ga.take (ga.length)).drop (k)) := hct28.lenL
            obtain ⟨cs_29, hrw_29, hrd_29, hcl_29⟩ := hct28.reads
            replace hst9 := hst9.more (r := .free) trivial List.nodup_nil (by simp [Res.blocks])
            refine region_any (tch := [(4, 0, (fun v => .row (nz v) _ _ _ _)), (10, 0, (fun v => .row (nz v) _ _ _ _)), (14, 0, (fun v => .row (nz v) _ _ _ _))]) (fun _ => mixed) hst9 hfr9 (by kernel_rfl) (by kernel_rfl) (by kernel_rfl) (.cons rfl (ob_buildSlice0 Try.underlying27 Try.sizeOf9) <| .cons rfl (ob_move rfl) <| .cons rfl (ob_move rfl) <| .cons rfl (ob_slice (l := 0) (h := k) rfl .none (.some rfl (by omega)) Try.underlying27 Try.sizeOf9 (by omega) (by omega)) <| .consT rfl rfl (fun _ => rfl) rfl (ob_imgT 47 rfl rfl rfl fun y47 => ob_appendZ (size := 1) (bytes := 16) rfl rfl (fun _ => .inr ⟨rfl, rfl, rfl, rfl⟩) Try.underlying27 Try.type9 rfl rfl rfl rfl (fun w m hK => hrw_26.mono (KC.le hK)) hcl_26 (by decide) hrd_26.one (by simp only [maxLen]; omega) (by omega)) <| .cons rfl (ob_move rfl) <| .cons rfl (ob_move rfl) <| .cons rfl (ob_indexAddr (k := y) rfl rfl Try.underlying27 Try.sizeOf9 rfl (by omega)) <| .cons rfl (ob_load1' rfl hcv15 Try.isAgg9 rfl) <| .cons rfl (ob_buildSlice (.cons rfl <| .nil) Try.underlying27 Try.sizeOf9 Try.zeroValue9 rfl rfl rfl rfl) <| .consT rfl rfl (fun _ => rfl) rfl (ob_imgT 51 rfl rfl rfl fun y51 => ob_imgT 56 rfl rfl rfl fun y56 => ob_appendZ (size := 1) (bytes := 16) rfl rfl (fun _ => .inl rfl) Try.underlying27 Try.type9 rfl rfl rfl rfl (fun w m hK => .inr ⟨_, rfl, hK.2⟩) rfl (by decide) rfl (by simp only [maxLen]; omega) (by omega)) <| .cons rfl (ob_move rfl) <| .cons rfl (ob_move rfl) <| .cons rfl (ob_slice (l := k) (h := ga.length) rfl (.some rfl (by omega)) .none Try.underlying27 Try.sizeOf9 (by omega) (by omega)) <| .consT rfl rfl (fun _ => rfl) rfl (ob_imgT 57 rfl rfl rfl fun y57 => ob_appendZ (size := 1) (bytes := 16) rfl rfl (fun _ => .inl rfl) Try.underlying27 Try.type9 rfl rfl rfl rfl (fun w m hK => hrw_29.mono (KC.le hK)) hcl_29 (by decide) hrd_29.one (by simp only [maxLen]; omega) (by omega)) <| .consA 61 rfl rfl <| .nil) ?_
            intro a10 w10 m10 hst10 hle10 hk10
            have hfr10 := hk10.fr (T' := [(7, _), (6, _), (1, _)]) (.old rfl rfl <| .old rfl rfl <| .old rfl rfl <| .nil)
            obtain ⟨⟨oz26, cz26⟩, e30, hrz26, hcz26⟩ := hk10.ex 51 rfl
            replace e30 : envOf a10 51 = .slice oz26 (((ga.take (k)).drop (0))).length cz26 := by rw [e30]; refine congrArg (fun q => Value.slice _ q _) ?_; first | omega | (simp only [List.length_append, List.length_cons, List.length_nil, List.nil_append, List.length_take, List.length_drop]; try omega)
            obtain ⟨⟨oz27, cz27⟩, e31, hrz27, hcz27⟩ := hk10.ex 57 rfl
            replace e31 : envOf a10 57 = .slice oz27 ((((ga.take (k)).drop (0)) ++ [x15])).length cz27 := by rw [e31]; refine congrArg (fun q => Value.slice _ q _) ?_; first | omega | (simp only [List.length_append, List.length_cons, List.length_nil, List.nil_append, List.length_take, List.length_drop]; try omega)
            obtain ⟨⟨oz29, cz29⟩, e32, hrz29, hcz29⟩ := hk10.ex 61 rfl
            replace e32 : envOf a10 61 = .slice oz29 (((((ga.take (k)).drop (0)) ++ [x15]) ++ ((ga.take (ga.length)).drop (k)))).length cz29 := by rw [e32]; refine congrArg (fun q => Value.slice _ q _) ?_; first | omega | (simp only [List.length_append, List.length_cons, List.length_nil, List.nil_append, List.length_take, List.length_drop]; try omega)
            replace hfr10 := hfr10.cons (hk10.same 5 rfl e32)
            replace hst10 := hst10.fin (L' := [_]) (.cons e30 <| .cons e31 <| .cons e32 <| .nil)
            replace hrd_26 := hrd_26.mono hle10
            replace hrd_29 := hrd_29.mono hle10
            have hlh10 := hlh9.trans hle10
            replace hlq11 := hlq11.trans hle10
            clear hst9 hfr9 hk10
            have hsz29 : Strs m10 oz29 (((((ga.take (k)).drop (0)) ++ [x15]) ++ ((ga.take (ga.length)).drop (k)))).length cz29 ((((ga.take (k)).drop (0)) ++ [x15]) ++ ((ga.take (ga.length)).drop (k))) := Reads.sl (((Reads.nil.app hrd_26).app (Reads.single (vs := [_]) rfl rfl)).app hrd_29) hrz29 (by decide) rfl (by have h := hcz29; first | omega | (simp only [List.length_append, List.length_cons, List.length_nil, List.nil_append, List.length_take, List.length_drop] at h ⊢; omega)) (by first | omega | (simp only [List.length_append, List.length_cons, List.length_nil, List.nil_append, List.length_take, List.length_drop]; omega))
            have hh8 : zz = x15 := by rw [hzz, hd15]; rfl
            have hins2 : insM ga zz = ((((ga.take k).drop 0) ++ [x15]) ++ ((ga.take ga.length).drop k)) := by rw [hremk, hins, hh8]; simp
            refine hK8 _ _ ?_; clear hK8
            refine rp0 hst10 hfr10 (.cons rfl (ob_move rfl) <| .cons rfl (ob_add rfl rfl ⟨by omega, by omega⟩) <| .cons rfl (ob_assign rfl) <| .nil) ?_
            intro a11 w11 m11 hst11 hle11 hk11
            have hfr11 := hk11.fr (T' := [(7, _), (1, _), (5, _), (6, _)]) (.old rfl rfl <| .old rfl rfl <| .old rfl rfl <| .new rfl <| .nil)
            replace hsz29 := hsz29.mono hle11
            have hlh11 := hlh10.trans hle11
            replace hlq11 := hlq11.trans hle11
            clear hst10 hfr10 hk11
            have hst11 := hst11.take 0
            exact ⟨(y + 1, oz29, cz29, ((((ga.take k).drop 0) ++ [x15]) ++ ((ga.take ga.length).drop k))), m11, by show ql.length - (y + 1) < ql.length - y; omega, ⟨hst11, hlq11, hfr11.sub (.cons rfl <| .cons rfl <| .cons rfl <| .nil), ⟨by show y + 1 ≤ ql.length; omega, hsz29, ⟨by rw [hlen_ga.1, hd15, List.foldl_cons, ← hins2, hh8], by rw [← hins2]; have := insM_len ga zz; have := hlen_ga.2; show (insM ga zz).length ≤ pl.length + (y + 1); omega⟩⟩⟩⟩
          · exfalso
            simp at hb46; omega
    · skip
      refine region_plain (fun _ => mixed) hst7 hfr7 (by kernel_rfl) (by kernel_rfl) (.cons rfl (ob_move rfl) <| .cons rfl (ob_move rfl) <| .cons rfl (ob_len rfl Try.underlying27) <| .cons rfl (ob_lss rfl rfl) <| .cons rfl (ob_move rfl) <| .cons rfl (ob_move rfl) <| .cons rfl (ob_move rfl) <| .cons rfl (ob_guard (κ := .eq (.bool false)) (b := true) 19 rfl rfl (fun h => by first | (simp at h; omega) | omega)) <| .cons rfl (ob_guard (κ := .eq (.bool false)) (b := true) 19 rfl rfl (fun h => by first | (simp at h; omega) | omega)) <| .cons rfl (ob_move rfl) <| .cons rfl (ob_move rfl) <| .cons rfl (ob_guard (κ := .eq (.bool false)) (b := true) 19 rfl rfl (fun h => by first | (simp at h; omega) | omega)) <| .cons rfl (ob_guard (κ := .eq (.bool false)) (b := true) 19 rfl rfl (fun h => by first | (simp at h; omega) | omega)) <| .cons rfl (ob_guard (κ := .eq (.bool false)) (b := true) 19 rfl rfl (fun h => by first | (simp at h; omega) | omega)) <| .cons rfl (ob_and rfl rfl rfl) <| .nil) ?_
      intro a8 w8 m8 hst8 hle8 hk8
      have hfr8 := hk8.fr (T' := [(7, _), (5, _), (6, _), (1, _), (29, _)]) (.old rfl rfl <| .old rfl rfl <| .old rfl rfl <| .old rfl rfl <| .new rfl <| .nil)
      replace h_ql := h_ql.mono hle8
      replace hsl_ga := hsl_ga.mono hle8
      have hlh8 := hlh7.trans hle8
      replace hlq11 := hlq11.trans hle8
      clear hst7 hfr7 hk8
      refine hK13 _ _ ?_; clear hK13
      refine cond_any hfr8 rfl rfl (fun hb29 => ?_) (fun hb29 => ?_)
      · exfalso
        first | (exact absurd hb29 (by simp)) | (simp at hb29; done) | (simp at hb29; omega)
      · try simp only [nq1, nq2, nq3, nq4, nq5, nq6, nq7, nq8, nq9, u8_eq] at hb29
        have hno : ∀ x r, ga.drop k = x :: r → Op.bytesLess x zz = false := by intro x r e; rw [List.drop_of_length_le (by omega)] at e; cases e
        refine wp_exit ?_
        refine hK10 _ _ ?_; clear hK10
        refine seq_any fun _ hK33 => ?_
        rcases Nat.lt_or_ge k ga.length with hz | hz
        · skip
          obtain ⟨p34, vs34, x34, ho34, hd34, hm_x34, ht34, hcv34, hl34, hv34⟩ := hsl_ga.nth (k := k) (by omega)
          cases ho34
          subst hv34
          try rw [hd34] at hremk
          obtain ⟨p35, vs35, x35, ho35, hd35, hm_x35, ht35, hcv35, hl35, hv35⟩ := h_ql.nth (k := y) (by omega)
          cases ho35
          subst hv35
          try rw [hd35] at hremk
          refine region_plain (fun _ => mixed) hst8 hfr8 (by kernel_rfl) (by kernel_rfl) (.cons rfl (ob_move rfl) <| .cons rfl (ob_move rfl) <| .cons rfl (ob_len rfl Try.underlying27) <| .cons rfl (ob_eql rfl rfl) <| .cons rfl (ob_move rfl) <| .cons rfl (ob_move rfl) <| .cons rfl (ob_move rfl) <| .cons rfl (ob_indexAddr (k := k) rfl rfl Try.underlying27 Try.sizeOf9 rfl (by omega)) <| .cons rfl (ob_load1' rfl hcv34 Try.isAgg9 rfl) <| .cons rfl (ob_move rfl) <| .cons rfl (ob_move rfl) <| .cons rfl (ob_indexAddr (k := y) rfl rfl Try.underlying27 Try.sizeOf9 rfl (by omega)) <| .cons rfl (ob_load1' rfl hcv35 Try.isAgg9 rfl) <| .cons rfl (ob_sneq rfl rfl) <| .cons rfl (ob_or rfl rfl rfl) <| .nil) ?_
          intro a9 w9 m9 hst9 hle9 hk9
          have hfr9 := hk9.fr (T' := [(7, _), (5, _), (6, _), (1, _), (46, _)]) (.old rfl rfl <| .old rfl rfl <| .old rfl rfl <| .old rfl rfl <| .new rfl <| .nil)
          replace hsl_ga := hsl_ga.mono hle9
          replace hcv35 := hcv35.mono hle9
          have hlh9 := hlh8.trans hle9
          replace hlq11 := hlq11.trans hle9
          clear hst8 hfr8 hk9
          try rw [← hd34] at hremk
          have hh9 : zz = x35 := by rw [hzz, hd35]; rfl
          refine hK33 _ _ ?_; clear hK33
          refine cond_any hfr9 rfl rfl (fun hb46 => ?_) (fun hb46 => ?_)
          · try simp only [nq1, nq2, nq3, nq4, nq5, nq6, nq7, nq8, nq9, u8_eq] at hb46
            have hins : insM (ga.drop k) zz = zz :: ga.drop k := insM_new fun x r e => ⟨hno x r e, by rw [hd34] at e; injection e with e1 e2; subst e1; rw [hh9]; rcases hb46 with h | h; (exact absurd h (by omega)); exact h⟩
            have hcp9 := hsl_ga.cap
            have hct36 : Strs _ _ _ _ ((ga.take (k)).drop (0)) := hsl_ga.cut (l := 0) (k := k) (by omega) (by omega)
            have hcl36 : (k) - (0) = (((ga.take (k)).drop (0))).length := hct36.len.symm
            have hcu36 : Strs _ _ _ _ ((ga.take (k)).drop (0)) := hct36.lenL
            obtain ⟨cs_37, hrw_37, hrd_37, hcl_37⟩ := hct36.reads
            have hct39 : Strs _ _ _ _ ((ga.take (ga.length)).drop (k)) := hsl_ga.cut (l := k) (k := ga.length) (by omega) (by omega)
            have hcl39 : (ga.length) - (k) = (((ga.take (ga.length)).drop (k))).length := hct39.len.symm
            have hcu39 : Strs _ _ _ _ ((ga.take (ga.length)).drop (k)) := hct39.lenL
            obtain ⟨cs_40, hrw_40, hrd_40, hcl_40⟩ := hct39.reads
            replace hst9 := hst9.more (r := .free) trivial List.nodup_nil (by simp [Res.blocks])
            refine region_any (tch := [(4, 0, (fun v => .row (nz v) _ _ _ _)), (10, 0, (fun v => .row (nz v) _ _ _ _)), (14, 0, (fun v => .row (nz v) _ _ _ _))]) (fun _ => mixed) hst9 hfr9 (by kernel_rfl) (by kernel_rfl) (by kernel_rfl) (.cons rfl (ob_buildSlice0 Try.underlying27 Try.sizeOf9) <| .cons rfl (ob_move rfl) <| .cons rfl (ob_move rfl) <| .cons rfl (ob_slice (l := 0) (h := k) rfl .none (.some rfl (by omega)) Try.underlying27 Try.sizeOf9 (by omega) (by omega)) <| .consT rfl rfl (fun _ => rfl) rfl (ob_imgT 47 rfl rfl rfl fun y47 => ob_appendZ (size := 1) (bytes := 16) rfl rfl (fun _ => .inr ⟨rfl, rfl, rfl, rfl⟩) Try.underlying27 Try.type9 rfl rfl rfl rfl (fun w m hK => hrw_37.mono (KC.le hK)) hcl_37 (by decide) hrd_37.one (by simp only [maxLen]; omega) (by omega)) <| .cons rfl (ob_move rfl) <| .cons rfl (ob_move rfl) <| .cons rfl (ob_indexAddr (k := y) rfl rfl Try.underlying27 Try.sizeOf9 rfl (by omega)) <| .cons rfl (ob_load1' rfl hcv35 Try.isAgg9 rfl) <| .cons rfl (ob_buildSlice (.cons rfl <| .nil) Try.underlying27 Try.sizeOf9 Try.zeroValue9 rfl rfl rfl rfl) <| .consT rfl rfl (fun _ => rfl) rfl (ob_imgT 51 rfl rfl rfl fun y51 => ob_imgT 56 rfl rfl rfl fun y56 => ob_appendZ (size := 1) (bytes := 16) rfl rfl (fun _ => .inl rfl) Try.underlying27 Try.type9 rfl rfl rfl rfl (fun w m hK => .inr ⟨_, rfl, hK.2⟩) rfl (by decide) rfl (by simp only [maxLen]; omega) (by omega)) <| .cons rfl (ob_move rfl) <| .cons rfl (ob_move rfl) <| .cons rfl (ob_slice (l := k) (h := ga.length) rfl (.some rfl (by omega)) .none Try.underlying27 Try.sizeOf9 (by omega) (by omega)) <| .consT rfl rfl (fun _ => rfl) rfl (ob_imgT 57 rfl rfl rfl fun y57 => ob_appendZ (size := 1) (bytes := 16) rfl rfl (fun _ => .inl rfl) Try.underlying27 Try.type9 rfl rfl rfl rfl (fun w m hK => hrw_40.mono (KC.le hK)) hcl_40 (by decide) hrd_40.one (by simp only [maxLen]; omega) (by omega)) <| .consA 61 rfl rfl <| .nil) ?_
            intro a10 w10 m10 hst10 hle10 hk10
            have hfr10 := hk10.fr (T' := [(7, _), (6, _), (1, _)]) (.old rfl rfl <| .old rfl rfl <| .old rfl rfl <| .nil)
            obtain ⟨⟨oz37, cz37⟩, e41, hrz37, hcz37⟩ := hk10.ex 51 rfl
            replace e41 : envOf a10 51 = .slice oz37 (((ga.take (k)).drop (0))).length cz37 := by rw [e41]; refine congrArg (fun q => Value.slice _ q _) ?_; first | omega | (simp only [List.length_append, List.length_cons, List.length_nil, List.nil_append, List.length_take, List.length_drop]; try omega)
            obtain ⟨⟨oz38, cz38⟩, e42, hrz38, hcz38⟩ := hk10.ex 57 rfl
            replace e42 : envOf a10 57 = .slice oz38 ((((ga.take (k)).drop (0)) ++ [x35])).length cz38 := by rw [e42]; refine congrArg (fun q => Value.slice _ q _) ?_; first | omega | (simp only [List.length_append, List.length_cons, List.length_nil, List.nil_append, List.length_take, List.length_drop]; try omega)
            obtain ⟨⟨oz40, cz40⟩, e43, hrz40, hcz40⟩ := hk10.ex 61 rfl
            replace e43 : envOf a10 61 = .slice oz40 (((((ga.take (k)).drop (0)) ++ [x35]) ++ ((ga.take (ga.length)).drop (k)))).length cz40 := by rw [e43]; refine congrArg (fun q => Value.slice _ q _) ?_; first | omega | (simp only [List.length_append, List.length_cons, List.length_nil, List.nil_append, List.length_take, List.length_drop]; try omega)
            replace hfr10 := hfr10.cons (hk10.same 5 rfl e43)
            replace hst10 := hst10.fin (L' := [_]) (.cons e41 <| .cons e42 <| .cons e43 <| .nil)
            replace hrd_37 := hrd_37.mono hle10
            replace hrd_40 := hrd_40.mono hle10
            have hlh10 := hlh9.trans hle10
            replace hlq11 := hlq11.trans hle10
            clear hst9 hfr9 hk10
            have hsz40 : Strs m10 oz40 (((((ga.take (k)).drop (0)) ++ [x35]) ++ ((ga.take (ga.length)).drop (k)))).length cz40 ((((ga.take (k)).drop (0)) ++ [x35]) ++ ((ga.take (ga.length)).drop (k))) := Reads.sl (((Reads.nil.app hrd_37).app (Reads.single (vs := [_]) rfl rfl)).app hrd_40) hrz40 (by decide) rfl (by have h := hcz40; first | omega | (simp only [List.length_append, List.length_cons, List.length_nil, List.nil_append, List.length_take, List.length_drop] at h ⊢; omega)) (by first | omega | (simp only [List.length_append, List.length_cons, List.length_nil, List.nil_append, List.length_take, List.length_drop]; omega))
            have hh8 : zz = x35 := by rw [hzz, hd35]; rfl
            have hins2 : insM ga zz = ((((ga.take k).drop 0) ++ [x35]) ++ ((ga.take ga.length).drop k)) := by rw [hremk, hins, hh8]; simp
            refine hK8 _ _ ?_; clear hK8
            refine rp0 hst10 hfr10 (.cons rfl (ob_move rfl) <| .cons rfl (ob_add rfl rfl ⟨by omega, by omega⟩) <| .cons rfl (ob_assign rfl) <| .nil) ?_
            intro a11 w11 m11 hst11 hle11 hk11
            have hfr11 := hk11.fr (T' := [(7, _), (1, _), (5, _), (6, _)]) (.old rfl rfl <| .old rfl rfl <| .old rfl rfl <| .new rfl <| .nil)
            replace hsz40 := hsz40.mono hle11
            have hlh11 := hlh10.trans hle11
            replace hlq11 := hlq11.trans hle11
            clear hst10 hfr10 hk11
            have hst11 := hst11.take 0
            exact ⟨(y + 1, oz40, cz40, ((((ga.take k).drop 0) ++ [x35]) ++ ((ga.take ga.length).drop k))), m11, by show ql.length - (y + 1) < ql.length - y; omega, ⟨hst11, hlq11, hfr11.sub (.cons rfl <| .cons rfl <| .cons rfl <| .nil), ⟨by show y + 1 ≤ ql.length; omega, hsz40, ⟨by rw [hlen_ga.1, hd35, List.foldl_cons, ← hins2, hh8], by rw [← hins2]; have := insM_len ga zz; have := hlen_ga.2; show (insM ga zz).length ≤ pl.length + (y + 1); omega⟩⟩⟩⟩
          · try simp only [nq1, nq2, nq3, nq4, nq5, nq6, nq7, nq8, nq9, u8_eq] at hb46
            have hins : insM ga zz = ga := by rw [hremk, insM_old hd34 (hno _ _ hd34) (by rw [hh9]; exact hb46.2), List.take_append_drop]
            refine wp_skip ?_
            refine hK8 _ _ ?_; clear hK8
            refine rp0 hst9 hfr9 (.cons rfl (ob_move rfl) <| .cons rfl (ob_add rfl rfl ⟨by omega, by omega⟩) <| .cons rfl (ob_assign rfl) <| .nil) ?_
            intro a10 w10 m10 hst10 hle10 hk10
            have hfr10 := hk10.fr (T' := [(7, _), (5, _), (1, _), (6, _)]) (.old rfl rfl <| .old rfl rfl <| .old rfl rfl <| .new rfl <| .nil)
            replace hsl_ga := hsl_ga.mono hle10
            have hlh10 := hlh9.trans hle10
            replace hlq11 := hlq11.trans hle10
            clear hst9 hfr9 hk10
            exact ⟨(y + 1, _, gap, ga), m10, by show ql.length - (y + 1) < ql.length - y; omega, ⟨hst10, hlq11, hfr10.sub (.cons rfl <| .cons rfl <| .cons rfl <| .nil), ⟨by show y + 1 ≤ ql.length; omega, hsl_ga, ⟨by rw [hlen_ga.1, hd35, List.foldl_cons, ← hh9, hins], by have := hlen_ga.2; show ga.length ≤ pl.length + (y + 1); omega⟩⟩⟩⟩
        · skip
          refine region_plain (fun _ => mixed) hst8 hfr8 (by kernel_rfl) (by kernel_rfl) (.cons rfl (ob_move rfl) <| .cons rfl (ob_move rfl) <| .cons rfl (ob_len rfl Try.underlying27) <| .cons rfl (ob_eql rfl rfl) <| .cons rfl (ob_move rfl) <| .cons rfl (ob_move rfl) <| .cons rfl (ob_move rfl) <| .cons rfl (ob_guard (κ := .eq (.bool false)) (b := false) 36 rfl rfl (fun h => by first | (simp at h; omega) | omega)) <| .cons rfl (ob_guard (κ := .eq (.bool false)) (b := false) 36 rfl rfl (fun h => by first | (simp at h; omega) | omega)) <| .cons rfl (ob_move rfl) <| .cons rfl (ob_move rfl) <| .cons rfl (ob_guard (κ := .eq (.bool false)) (b := false) 36 rfl rfl (fun h => by first | (simp at h; omega) | omega)) <| .cons rfl (ob_guard (κ := .eq (.bool false)) (b := false) 36 rfl rfl (fun h => by first | (simp at h; omega) | omega)) <| .cons rfl (ob_guard (κ := .eq (.bool false)) (b := false) 36 rfl rfl (fun h => by first | (simp at h; omega) | omega)) <| .cons rfl (ob_or rfl rfl rfl) <| .nil) ?_
          intro a9 w9 m9 hst9 hle9 hk9
          have hfr9 := hk9.fr (T' := [(7, _), (5, _), (6, _), (1, _), (46, _)]) (.old rfl rfl <| .old rfl rfl <| .old rfl rfl <| .old rfl rfl <| .new rfl <| .nil)
          replace h_ql := h_ql.mono hle9
          replace hsl_ga := hsl_ga.mono hle9
          have hlh9 := hlh8.trans hle9
          replace hlq11 := hlq11.trans hle9
          clear hst8 hfr8 hk9
          refine hK33 _ _ ?_; clear hK33
          refine cond_any hfr9 rfl rfl (fun hb46 => ?_) (fun hb46 => ?_)
          · try simp only [nq1, nq2, nq3, nq4, nq5, nq6, nq7, nq8, nq9, u8_eq] at hb46
            have hins : insM (ga.drop k) zz = zz :: ga.drop k := insM_new fun x r e => by rw [List.drop_of_length_le (by omega)] at e; cases e
            have hcp9 := hsl_ga.cap
            have hct44 : Strs _ _ _ _ ((ga.take (k)).drop (0)) := hsl_ga.cut (l := 0) (k := k) (by omega) (by omega)
            have hcl44 : (k) - (0) = (((ga.take (k)).drop (0))).length := hct44.len.symm
            have hcu44 : Strs _ _ _ _ ((ga.take (k)).drop (0)) := hct44.lenL
            obtain ⟨cs_45, hrw_45, hrd_45, hcl_45⟩ := hct44.reads
            obtain ⟨p46, vs46, x46, ho46, hd46, hm_x46, ht46, hcv46, hl46, hv46⟩ := h_ql.nth (k := y) (by omega)
            cases ho46
            subst hv46
            try rw [hd46] at hremk
            have hct48 : Strs _ _ _ _ ((ga.take (ga.length)).drop (k)) := hsl_ga.cut (l := k) (k := ga.length) (by omega) (by omega)
            have hcl48 : (ga.length) - (k) = (((ga.take (ga.length)).drop (k))).length := hct48.len.symm
            have hcu48 : Strs _ _ _ _ ((ga.take (ga.length)).drop (k)) := hct48.lenL
            obtain ⟨cs_49, hrw_49, hrd_49, hcl_49⟩ := hct48.reads
            replace hst9 := hst9.more (r := .free) trivial List.nodup_nil (by simp [Res.blocks])
            refine region_any (tch := [(4, 0, (fun v => .row (nz v) _ _ _ _)), (10, 0, (fun v => .row (nz v) _ _ _ _)), (14, 0, (fun v => .row (nz v) _ _ _ _))]) (fun _ => mixed) hst9 hfr9 (by kernel_rfl) (by kernel_rfl) (by kernel_rfl) (.cons rfl (ob_buildSlice0 Try.underlying27 Try.sizeOf9) <| .cons rfl (ob_move rfl) <| .cons rfl (ob_move rfl) <| .cons rfl (ob_slice (l := 0) (h := k) rfl .none (.some rfl (by omega)) Try.underlying27 Try.sizeOf9 (by omega) (by omega)) <| .consT rfl rfl (fun _ => rfl) rfl (ob_imgT 47 rfl rfl rfl fun y47 => ob_appendZ (size := 1) (bytes := 16) rfl rfl (fun _ => .inr ⟨rfl, rfl, rfl, rfl⟩) Try.underlying27 Try.type9 rfl rfl rfl rfl (fun w m hK => hrw_45.mono (KC.le hK)) hcl_45 (by decide) hrd_45.one (by simp only [maxLen]; omega) (by omega)) <| .cons rfl (ob_move rfl) <| .cons rfl (ob_move rfl) <| .cons rfl (ob_indexAddr (k := y) rfl rfl Try.underlying27 Try.sizeOf9 rfl (by omega)) <| .cons rfl (ob_load1' rfl hcv46 Try.isAgg9 rfl) <| .cons rfl (ob_buildSlice (.cons rfl <| .nil) Try.underlying27 Try.sizeOf9 Try.zeroValue9 rfl rfl rfl rfl) <| .consT rfl rfl (fun _ => rfl) rfl (ob_imgT 51 rfl rfl rfl fun y51 => ob_imgT 56 rfl rfl rfl fun y56 => ob_appendZ (size := 1) (bytes := 16) rfl rfl (fun _ => .inl rfl) Try.underlying27 Try.type9 rfl rfl rfl rfl (fun w m hK => .inr ⟨_, rfl, hK.2⟩) rfl (by decide) rfl (by simp only [maxLen]; omega) (by omega)) <| .cons rfl (ob_move rfl) <| .cons rfl (ob_move rfl) <| .cons rfl (ob_slice (l := k) (h := ga.length) rfl (.some rfl (by omega)) .none Try.underlying27 Try.sizeOf9 (by omega) (by omega)) <| .consT rfl rfl (fun _ => rfl) rfl (ob_imgT 57 rfl rfl rfl fun y57 => ob_appendZ (size := 1) (bytes := 16) rfl rfl (fun _ => .inl rfl) Try.underlying27 Try.type9 rfl rfl rfl rfl (fun w m hK => hrw_49.mono (KC.le hK)) hcl_49 (by decide) hrd_49.one (by simp only [maxLen]; omega) (by omega)) <| .consA 61 rfl rfl <| .nil) ?_
            intro a10 w10 m10 hst10 hle10 hk10
            have hfr10 := hk10.fr (T' := [(7, _), (6, _), (1, _)]) (.old rfl rfl <| .old rfl rfl <| .old rfl rfl <| .nil)
            obtain ⟨⟨oz45, cz45⟩, e50, hrz45, hcz45⟩ := hk10.ex 51 rfl
            replace e50 : envOf a10 51 = .slice oz45 (((ga.take (k)).drop (0))).length cz45 := by rw [e50]; refine congrArg (fun q => Value.slice _ q _) ?_; first | omega | (simp only [List.length_append, List.length_cons, List.length_nil, List.nil_append, List.length_take, List.length_drop]; try omega)
            obtain ⟨⟨oz47, cz47⟩, e51, hrz47, hcz47⟩ := hk10.ex 57 rfl
            replace e51 : envOf a10 57 = .slice oz47 ((((ga.take (k)).drop (0)) ++ [x46])).length cz47 := by rw [e51]; refine congrArg (fun q => Value.slice _ q _) ?_; first | omega | (simp only [List.length_append, List.length_cons, List.length_nil, List.nil_append, List.length_take, List.length_drop]; try omega)
            obtain ⟨⟨oz49, cz49⟩, e52, hrz49, hcz49⟩ := hk10.ex 61 rfl
            replace e52 : envOf a10 61 = .slice oz49 (((((ga.take (k)).drop (0)) ++ [x46]) ++ ((ga.take (ga.length)).drop (k)))).length cz49 := by rw [e52]; refine congrArg (fun q => Value.slice _ q _) ?_; first | omega | (simp only [List.length_append, List.length_cons, List.length_nil, List.nil_append, List.length_take, List.length_drop]; try omega)
            replace hfr10 := hfr10.cons (hk10.same 5 rfl e52)
            replace hst10 := hst10.fin (L' := [_]) (.cons e50 <| .cons e51 <| .cons e52 <| .nil)
            replace hrd_45 := hrd_45.mono hle10
            replace hrd_49 := hrd_49.mono hle10
            have hlh10 := hlh9.trans hle10
            replace hlq11 := hlq11.trans hle10
            clear hst9 hfr9 hk10
            have hsz49 : Strs m10 oz49 (((((ga.take (k)).drop (0)) ++ [x46]) ++ ((ga.take (ga.length)).drop (k)))).length cz49 ((((ga.take (k)).drop (0)) ++ [x46]) ++ ((ga.take (ga.length)).drop (k))) := Reads.sl (((Reads.nil.app hrd_45).app (Reads.single (vs := [_]) rfl rfl)).app hrd_49) hrz49 (by decide) rfl (by have h := hcz49; first | omega | (simp only [List.length_append, List.length_cons, List.length_nil, List.nil_append, List.length_take, List.length_drop] at h ⊢; omega)) (by first | omega | (simp only [List.length_append, List.length_cons, List.length_nil, List.nil_append, List.length_take, List.length_drop]; omega))
            have hh8 : zz = x46 := by rw [hzz, hd46]; rfl
            have hins2 : insM ga zz = ((((ga.take k).drop 0) ++ [x46]) ++ ((ga.take ga.length).drop k)) := by rw [hremk, hins, hh8]; simp
            refine hK8 _ _ ?_; clear hK8
            refine rp0 hst10 hfr10 (.cons rfl (ob_move rfl) <| .cons rfl (ob_add rfl rfl ⟨by omega, by omega⟩) <| .cons rfl (ob_assign rfl) <| .nil) ?_
            intro a11 w11 m11 hst11 hle11 hk11
            have hfr11 := hk11.fr (T' := [(7, _), (1, _), (5, _), (6, _)]) (.old rfl rfl <| .old rfl rfl <| .old rfl rfl <| .new rfl <| .nil)
            replace hsz49 := hsz49.mono hle11
            have hlh11 := hlh10.trans hle11
            replace hlq11 := hlq11.trans hle11
            clear hst10 hfr10 hk11
            have hst11 := hst11.take 0
            exact ⟨(y + 1, oz49, cz49, ((((ga.take k).drop 0) ++ [x46]) ++ ((ga.take ga.length).drop k))), m11, by show ql.length - (y + 1) < ql.length - y; omega, ⟨hst11, hlq11, hfr11.sub (.cons rfl <| .cons rfl <| .cons rfl <| .nil), ⟨by show y + 1 ≤ ql.length; omega, hsz49, ⟨by rw [hlen_ga.1, hd46, List.foldl_cons, ← hins2, hh8], by rw [← hins2]; have := insM_len ga zz; have := hlen_ga.2; show (insM ga zz).length ≤ pl.length + (y + 1); omega⟩⟩⟩⟩
          · exfalso
            simp at hb46; omega
  · try simp only [nq1, nq2, nq3, nq4, nq5, nq6, nq7, nq8, nq9, u8_eq] at hb12
    have hge : y = ql.length := by omega
    rw [List.drop_of_length_le (by omega)] at hlen_ga
    have hfin : joinM pl ql = ga := hlen_ga.1
    refine wp_exit ?_
    refine hK3 _ _ ?_; clear hK3
    refine seq_any fun _ hK53 => ?_
    refine rp0 hst5 hfr5 (.cons rfl (ob_move rfl) <| .cons rfl (ob_assign rfl) <| .nil) ?_
    intro a6 w6 m6 hst6 hle6 hk6
    have hfr6 := hk6.fr (T' := [(5, _), (6, _), (4, _)]) (.old rfl rfl <| .old rfl rfl <| .new rfl <| .nil)
    replace hsl_ga := hsl_ga.mono hle6
    have hlh6 := hlh5.trans hle6
    clear hst5 hfr5 hk6
    refine hK53 _ _ ?_; clear hK53
    refine wp_ret ?_
    repeat (with_reducible first | refine then_ret ?_ | refine block_ret ?_)
    exact fn_ret hst6 hfr6 rfl (.tmp rfl <| .nil) (⟨(_, _), by rw [hfin]; rfl, by rw [hfin]; exact hsl_ga⟩)

abbrev names_G (t : Tm) : Prop := ∀ {w : World} {m : Mem} {vs_t : List Value} (hA : Agree w m) (h_t : TmR m t vs_t) (hb : countM t ≤ 1000000000), FnV Try.prog 33 #[.agg vs_t.toArray] w m (fun _ m v => (MP.strs (nameT t)).p m v)
set_option maxHeartbeats 800000 in
theorem names_s {t : Tm} (ihk : ∀ u ∈ t.kids, names_G u) (iha : ∀ a ∈ t.arms, names_G a.body) {w : World} {m : Mem} {vs_t : List Value} (hA : Agree w m) (h_t : TmR m t vs_t) (hb : countM t ≤ 1000000000) : FnV Try.prog 33 #[.agg vs_t.toArray] w m (fun _ m v => (MP.strs (nameT t)).p m v) := by
  obtain ⟨⟨oK_t, cK_t, oA_t, cA_t, oR_t, cR_t, t0_t, t1_t, t2_t, t3_t, t4_t, t5_t, u0_t, u1_t, u2_t, u3_t, u4_t, u5_t⟩, rfl, hon_t, hkk_t, haa_t, hrr_t⟩ := h_t.open_
  dsimp only at hkk_t haa_t hrr_t
  have hbg_t := hkk_t.big; have hcp_t := hkk_t.cap; have hbh_t := haa_t.big; have hcq_t := haa_t.cap
  refine fn_enter (vs := [_]) Try.func33 rfl rfl rfl fun a0 hfr0 => ?_
  have hst0 := st_enter hA (loc_nil [] _ w m)
  have hM : MLe m m := MLe.refl m
  have hce := countM_eq t
  refine seq_any fun _ hK1 => ?_
  refine rp0 hst0 hfr0 (.cons rfl (ob_box rfl rfl) <| .cons rfl (ob_assign rfl) <| .nil) ?_
  intro a1 w1 m1 hst1 hle1 hk1
  have hfr1 := hk1.fr (T' := []) (.nil)
  obtain ⟨g2, e2, hc1⟩ := hk1.ex 1 rfl
  replace hfr1 := hfr1.cons e2
  replace hkk_t := hkk_t.mono hle1
  replace haa_t := haa_t.mono hle1
  clear hst0 hfr0 hk1
  refine hK1 _ _ ?_; clear hK1
  refine seq_any fun _ hK3 => ?_
  refine seq_any fun _ hK4 => ?_
  refine rp0 hst1 hfr1 (.cons rfl (ob_fieldAddrO (off := 0) rfl Try.underlying33 rfl rfl Try.sizeOf3 rfl) <| .cons rfl (ob_load1 rfl hc1 Try.isAgg3 rfl) <| .cons rfl (ob_eql rfl rfl) <| .nil) ?_
  intro a2 w2 m2 hst2 hle2 hk2
  have hfr2 := hk2.fr (T' := [(1, _), (8, _)]) (.old rfl rfl <| .new rfl <| .nil)
  replace hkk_t := hkk_t.mono hle2
  replace haa_t := haa_t.mono hle2
  replace hc1 := hc1.mono hle2
  clear hst1 hfr1 hk2
  refine hK4 _ _ ?_; clear hK4
  refine cond_any hfr2 rfl rfl (fun hb8 => ?_) (fun hb8 => ?_)
  · try simp only [nq1, nq2, nq3, nq4, nq5, nq6, nq7, nq8, nq9, u8_eq] at hb8
    refine seq_any fun _ hK5 => ?_
    refine ra0 (tch := []) hst2 hfr2 (.cons rfl (ob_fieldAddrO (off := 2) rfl Try.underlying33 rfl rfl Try.sizeOf9 rfl) <| .cons rfl (ob_load1 rfl hc1 Try.isAgg9 rfl) <| .cons rfl (ob_buildSlice (.cons rfl <| .nil) Try.underlying27 Try.sizeOf9 Try.zeroValue9 rfl rfl rfl rfl) <| .consA 11 rfl rfl <| .nil) ?_
    intro a3 w3 m3 hst3 hle3 hk3
    have hfr3 := hk3.fr (T' := []) (.nil)
    obtain ⟨g9, e6, hg9⟩ := hk3.ex 11 rfl
    replace hfr3 := hfr3.cons (hk3.same 2 rfl e6)
    clear hst2 hfr2 hk3
    refine hK5 _ _ ?_; clear hK5
    refine wp_ret ?_
    repeat (with_reducible first | refine then_ret ?_ | refine block_ret ?_)
    exact fn_ret hst3 hfr3 rfl (.tmp rfl <| .nil) (⟨(some ⟨g9, 0, none⟩, 1), by rw [show nameT t = [t.name] from by rw [nameT_eq, if_pos hb8]]; rfl, by rw [show nameT t = [t.name] from by rw [nameT_eq, if_pos hb8]]; exact Sl.one (vs := [_]) hg9 rfl rfl⟩)
  · try simp only [nq1, nq2, nq3, nq4, nq5, nq6, nq7, nq8, nq9, u8_eq] at hb8
    have hnm : nameT t = nameAs (nameKs [] t.kids) t.arms := by rw [nameT_eq, if_neg hb8]
    refine wp_skip ?_
    refine hK3 _ _ ?_; clear hK3
    refine seq_any fun _ hK8 => ?_
    refine rp0 hst2 hfr2 (.cons rfl (ob_assign rfl) <| .nil) ?_
    intro a3 w3 m3 hst3 hle3 hk3
    have hfr3 := hk3.fr (T' := [(1, _), (3, _)]) (.old rfl rfl <| .new rfl <| .nil)
    replace hkk_t := hkk_t.mono hle3
    replace haa_t := haa_t.mono hle3
    replace hc1 := hc1.mono hle3
    clear hst2 hfr2 hk3
    refine hK8 _ _ ?_; clear hK8
    refine seq_any fun _ hK9 => ?_
    refine seq_any fun _ hK10 => ?_
    refine rp0 hst3 hfr3 (.cons rfl (ob_assign rfl) <| .nil) ?_
    intro a4 w4 m4 hst4 hle4 hk4
    have hfr4 := hk4.fr (T' := [(1, _), (3, _), (4, _)]) (.old rfl rfl <| .old rfl rfl <| .new rfl <| .nil)
    replace hkk_t := hkk_t.mono hle4
    replace haa_t := haa_t.mono hle4
    replace hc1 := hc1.mono hle4
    clear hst3 hfr3 hk4
    refine hK10 _ _ ?_; clear hK10
    refine wp_block ?_
    refine loop_any (T := [(1, _)]) (fun (y : Nat × Option Addr × Nat × List Str) => ([(3, .slice y.2.1 y.2.2.2.length y.2.2.1), (4, .int .i64 (y.1 : Int))] : List (Nat × Value))) (fun _ => _) (fun (y : Nat × Option Addr × Nat × List Str) m => (fun (y : Nat) (gao : Option Addr) (gap : Nat) (ga : List Str) => (y ≤ t.kids.length) ∧ (Strs m gao ga.length gap ga) ∧ (nameT t = nameAs (nameKs ga (t.kids.drop y)) t.arms ∧ ga.length + countKs (t.kids.drop y) ≤ countKs t.kids)) y.1 y.2.1 y.2.2.1 y.2.2.2) (fun y => t.kids.length - y.1) ((0, none, 0, ([] : List Str))) ⟨hst4, MLe.refl _, hfr4.sub (.cons rfl <| .cons rfl <| .cons rfl <| .nil), ⟨Nat.zero_le _, Sl.empty, ⟨hnm, by show 0 + countKs t.kids ≤ _; omega⟩⟩⟩ fun y a5 w5 m5 hh5 => ?_
    have hst5 := hh5.st; have hle5 := hh5.le; have hfr5 := hh5.fr; have hrel := hh5.rel; clear hh5
    replace hkk_t := hkk_t.mono hle5
    replace haa_t := haa_t.mono hle5
    replace hc1 := hc1.mono hle5
    clear hst4 hfr4
    obtain ⟨y, gao, gap, ga⟩ := y
    dsimp only at hrel hfr5 hst5
    obtain ⟨hyn, hsl_ga, hlen_ga⟩ := hrel
    have hlh5 := hle5
    refine seq_any fun _ hK12 => ?_
    refine seq_any fun _ hK13 => ?_
    refine rp0 hst5 hfr5 (.cons rfl (ob_move rfl) <| .cons rfl (ob_fieldAddrO (off := 5) rfl Try.underlying33 rfl rfl Try.sizeOf24 rfl) <| .cons rfl (ob_load1 rfl hc1 Try.isAgg24 rfl) <| .cons rfl (ob_len rfl Try.underlying24) <| .cons rfl (ob_lss rfl rfl) <| .nil) ?_
    intro a6 w6 m6 hst6 hle6 hk6
    have hfr6 := hk6.fr (T' := [(3, _), (4, _), (1, _), (16, _)]) (.old rfl rfl <| .old rfl rfl <| .old rfl rfl <| .new rfl <| .nil)
    replace hkk_t := hkk_t.mono hle6
    replace haa_t := haa_t.mono hle6
    replace hc1 := hc1.mono hle6
    replace hsl_ga := hsl_ga.mono hle6
    have hlh6 := hlh5.trans hle6
    clear hst5 hfr5 hk6
    refine hK13 _ _ ?_; clear hK13
    refine cond_any hfr6 rfl rfl (fun hb16 => ?_) (fun hb16 => ?_)
    · try simp only [nq1, nq2, nq3, nq4, nq5, nq6, nq7, nq8, nq9, u8_eq] at hb16
      refine wp_skip ?_
      refine hK12 _ _ ?_; clear hK12
      refine seq_any fun _ hK14 => ?_
      refine wp_block ?_
      obtain ⟨p15, vs15, x15, ho15, hd15, hm_x15, ht15, hcv15, hl15, hv15⟩ := hkk_t.nth (k := y) (by omega)
      cases ho15
      obtain ⟨⟨oK15, cK15, oA15, cA15, oR15, cR15, t015, t115, t215, t315, t415, t515, u015, u115, u215, u315, u415, u515⟩, rfl, hon15, hkk15, haa15, hrr15⟩ := hv15.open_
      dsimp only at hkk15 haa15 hrr15
      have hbg15 := hkk15.big; have hcp15 := hkk15.cap; have hbh15 := haa15.big; have hcq15 := haa15.cap
      rw [hd15, nameKs, countKs] at hlen_ga
      have hln9 := hlen_ga.2
      have hnl9 := nameT_len x15
      refine ra0 (tch := []) hst6 hfr6 (.cons rfl (ob_move rfl) <| .cons rfl (ob_fieldAddrO (off := 5) rfl Try.underlying33 rfl rfl Try.sizeOf24 rfl) <| .cons rfl (ob_load1 rfl hc1 Try.isAgg24 rfl) <| .cons rfl (ob_move rfl) <| .cons rfl (ob_indexAddr (k := y) rfl rfl Try.underlying24 Try.sizeOf33 rfl (by omega)) <| .cons rfl (ob_loadS' rfl hcv15 Try.isAgg33 Try.sizeOf33 rfl rfl) <| .cons rfl (ob_call (φ := MP.strs (nameT x15)) rfl (.cons rfl <| .nil) Try.call33 (fun w m hK => by have hle_ := KC.le hK; have hA := KC.agree hK; have hv15 := hv15.mono hle_; exact FnG.mono (ihk _ hm_x15 hA hv15 (by omega)) fun _ _ _ _ h => h)) <| .cons rfl (ob_imgE 25 rfl rfl rfl fun y25 => ob_call (φ := MP.strs (joinM ga (nameT x15))) rfl (.cons rfl <| .cons rfl <| .nil) Try.call45 (fun w m hK => by have hle_ := KC.le hK; have hA := KC.agree hK; have hr0_ := hK.2; have hsl_ga := hsl_ga.mono hle_; exact FnG.mono (join_c (pl := ga) (ql := nameT x15) hA hsl_ga hr0_ (by omega)) fun _ _ _ _ h => h)) <| .consA 26 rfl rfl <| .nil) ?_
      intro a7 w7 m7 hst7 hle7 hk7
      have hfr7 := hk7.fr (T' := [(4, _), (1, _)]) (.old rfl rfl <| .old rfl rfl <| .nil)
      obtain ⟨⟨oN, cN⟩, e16, hN⟩ := hk7.ex 26 rfl
      replace hfr7 := hfr7.cons (hk7.same 3 rfl e16)
      have hlh7 := hlh6.trans hle7
      clear hst6 hfr6 hk7
      dsimp only [MP.strs, MP.mem] at hN
      refine hK14 _ _ ?_; clear hK14
      refine rp0 hst7 hfr7 (.cons rfl (ob_move rfl) <| .cons rfl (ob_add rfl rfl ⟨by omega, by omega⟩) <| .cons rfl (ob_assign rfl) <| .nil) ?_
      intro a8 w8 m8 hst8 hle8 hk8
      have hfr8 := hk8.fr (T' := [(1, _), (3, _), (4, _)]) (.old rfl rfl <| .old rfl rfl <| .new rfl <| .nil)
      replace hN := hN.mono hle8
      have hlh8 := hlh7.trans hle8
      clear hst7 hfr7 hk8
      exact ⟨(y + 1, oN, cN, (joinM ga (nameT x15))), m8, by show t.kids.length - (y + 1) < t.kids.length - y; omega, ⟨hst8, hlh8, hfr8.sub (.cons rfl <| .cons rfl <| .cons rfl <| .nil), ⟨by show y + 1 ≤ t.kids.length; omega, hN, ⟨hlen_ga.1, by have := hlen_ga.2; have := joinM_len (nameT x15) ga; have := nameT_len x15; show (joinM ga (nameT x15)).length + countKs (t.kids.drop (y + 1)) ≤ countKs t.kids; omega⟩⟩⟩⟩
    · try simp only [nq1, nq2, nq3, nq4, nq5, nq6, nq7, nq8, nq9, u8_eq] at hb16
      have hge : y = t.kids.length := by omega
      rw [List.drop_of_length_le (by omega), nameKs, countKs] at hlen_ga
      refine wp_exit ?_
      refine hK9 _ _ ?_; clear hK9
      refine seq_any fun _ hK17 => ?_
      refine seq_any fun _ hK18 => ?_
      refine rp0 hst6 hfr6 (.cons rfl (ob_assign rfl) <| .nil) ?_
      intro a7 w7 m7 hst7 hle7 hk7
      have hfr7 := hk7.fr (T' := [(3, _), (4, _), (1, _), (5, _)]) (.old rfl rfl <| .old rfl rfl <| .old rfl rfl <| .new rfl <| .nil)
      replace haa_t := haa_t.mono hle7
      replace hc1 := hc1.mono hle7
      replace hsl_ga := hsl_ga.mono hle7
      have hlh7 := hlh6.trans hle7
      clear hst6 hfr6 hk7
      refine hK18 _ _ ?_; clear hK18
      refine wp_block ?_
      have hlq19 := hlh7
      refine loop_any (T := [(4, _), (1, _)]) (fun (y : Nat × Option Addr × Nat × List Str) => ([(3, .slice y.2.1 y.2.2.2.length y.2.2.1), (5, .int .i64 (y.1 : Int))] : List (Nat × Value))) (fun _ => _) (fun (y : Nat × Option Addr × Nat × List Str) m => (fun (y : Nat) (gbo : Option Addr) (gbp : Nat) (gb : List Str) => (y ≤ t.arms.length) ∧ (Strs m gbo gb.length gbp gb) ∧ (nameT t = nameAs gb (t.arms.drop y) ∧ gb.length + countAs (t.arms.drop y) ≤ countKs t.kids + countAs t.arms)) y.1 y.2.1 y.2.2.1 y.2.2.2) (fun y => t.arms.length - y.1) ((0, gao, gap, ga)) ⟨hst7, MLe.refl _, hfr7.sub (.cons rfl <| .cons rfl <| .cons rfl <| .cons rfl <| .nil), ⟨Nat.zero_le _, hsl_ga, ⟨hlen_ga.1, by have := hlen_ga.2; show ga.length + countAs t.arms ≤ _; omega⟩⟩⟩ fun y a8 w8 m8 hh8 => ?_
      have hst8 := hh8.st; have hle8 := hh8.le; have hfr8 := hh8.fr; have hrel := hh8.rel; clear hh8
      replace haa_t := haa_t.mono hle8
      replace hc1 := hc1.mono hle8
      clear hst7 hfr7
      obtain ⟨y, gbo, gbp, gb⟩ := y
      dsimp only at hrel hfr8 hst8
      obtain ⟨hyn, hsl_gb, hlen_gb⟩ := hrel
      have hlh8 := hle8
      refine seq_any fun _ hK20 => ?_
      refine seq_any fun _ hK21 => ?_
      refine rp0 hst8 hfr8 (.cons rfl (ob_move rfl) <| .cons rfl (ob_fieldAddrO (off := 6) rfl Try.underlying33 rfl rfl Try.sizeOf25 rfl) <| .cons rfl (ob_load1 rfl hc1 Try.isAgg25 rfl) <| .cons rfl (ob_len rfl Try.underlying25) <| .cons rfl (ob_lss rfl rfl) <| .nil) ?_
      intro a9 w9 m9 hst9 hle9 hk9
      have hfr9 := hk9.fr (T' := [(3, _), (5, _), (4, _), (1, _), (31, _)]) (.old rfl rfl <| .old rfl rfl <| .old rfl rfl <| .old rfl rfl <| .new rfl <| .nil)
      replace haa_t := haa_t.mono hle9
      replace hc1 := hc1.mono hle9
      replace hsl_gb := hsl_gb.mono hle9
      have hlh9 := hlh8.trans hle9
      clear hst8 hfr8 hk9
      refine hK21 _ _ ?_; clear hK21
      refine cond_any hfr9 rfl rfl (fun hb31 => ?_) (fun hb31 => ?_)
      · try simp only [nq1, nq2, nq3, nq4, nq5, nq6, nq7, nq8, nq9, u8_eq] at hb31
        refine wp_skip ?_
        refine hK20 _ _ ?_; clear hK20
        refine seq_any fun _ hK22 => ?_
        refine wp_block ?_
        obtain ⟨p23, vs23, x23, ho23, hd23, hm_x23, ht23, hcv23, hl23, hv23⟩ := haa_t.nth (k := y) (by omega)
        cases ho23
        obtain ⟨oV23, cV23, bs23, rfl, hva23, hbd23⟩ := hv23.open_
        have hbv23 := hva23.big; have hcv23_ := hva23.cap
        obtain ⟨⟨oK23b, cK23b, oA23b, cA23b, oR23b, cR23b, t023b, t123b, t223b, t323b, t423b, t523b, u023b, u123b, u223b, u323b, u423b, u523b⟩, rfl, hon23b, hkk23b, haa23b, hrr23b⟩ := hbd23.open_
        dsimp only at hkk23b haa23b hrr23b
        have hbg23b := hkk23b.big; have hcp23b := hkk23b.cap; have hbh23b := haa23b.big; have hcq23b := haa23b.cap
        rw [hd23, nameAs_cons, countAs_cons] at hlen_gb
        have hln9 := hlen_gb.2
        have hnl9 := nameT_len x23.body
        refine ra0 (tch := []) hst9 hfr9 (.cons rfl (ob_move rfl) <| .cons rfl (ob_fieldAddrO (off := 6) rfl Try.underlying33 rfl rfl Try.sizeOf25 rfl) <| .cons rfl (ob_load1 rfl hc1 Try.isAgg25 rfl) <| .cons rfl (ob_move rfl) <| .cons rfl (ob_indexAddr (k := y) rfl rfl Try.underlying25 Try.sizeOf40 rfl (by omega)) <| .cons rfl (ob_fieldAddrO (off := 2) rfl Try.underlying40 rfl rfl Try.sizeOf33 rfl) <| .cons rfl (ob_loadS rfl hcv23 Try.isAgg33 Try.sizeOf33 rfl rfl) <| .cons rfl (ob_call (φ := MP.strs (nameT x23.body)) rfl (.cons rfl <| .nil) Try.call33 (fun w m hK => by have hle_ := KC.le hK; have hA := KC.agree hK; have hbd23 := hbd23.mono hle_; exact FnG.mono (iha _ hm_x23 hA hbd23 (by omega)) fun _ _ _ _ h => h)) <| .cons rfl (ob_imgE 41 rfl rfl rfl fun y41 => ob_call (φ := MP.strs (joinM gb (nameT x23.body))) rfl (.cons rfl <| .cons rfl <| .nil) Try.call45 (fun w m hK => by have hle_ := KC.le hK; have hA := KC.agree hK; have hr0_ := hK.2; have hsl_gb := hsl_gb.mono hle_; exact FnG.mono (join_c (pl := gb) (ql := nameT x23.body) hA hsl_gb hr0_ (by omega)) fun _ _ _ _ h => h)) <| .consA 42 rfl rfl <| .nil) ?_
        intro a10 w10 m10 hst10 hle10 hk10
        have hfr10 := hk10.fr (T' := [(5, _), (4, _), (1, _)]) (.old rfl rfl <| .old rfl rfl <| .old rfl rfl <| .nil)
        obtain ⟨⟨oN, cN⟩, e24, hN⟩ := hk10.ex 42 rfl
        replace hfr10 := hfr10.cons (hk10.same 3 rfl e24)
        have hlh10 := hlh9.trans hle10
        clear hst9 hfr9 hk10
        dsimp only [MP.strs, MP.mem] at hN
        refine hK22 _ _ ?_; clear hK22
        refine rp0 hst10 hfr10 (.cons rfl (ob_move rfl) <| .cons rfl (ob_add rfl rfl ⟨by omega, by omega⟩) <| .cons rfl (ob_assign rfl) <| .nil) ?_
        intro a11 w11 m11 hst11 hle11 hk11
        have hfr11 := hk11.fr (T' := [(4, _), (1, _), (3, _), (5, _)]) (.old rfl rfl <| .old rfl rfl <| .old rfl rfl <| .new rfl <| .nil)
        replace hN := hN.mono hle11
        have hlh11 := hlh10.trans hle11
        clear hst10 hfr10 hk11
        exact ⟨(y + 1, oN, cN, (joinM gb (nameT x23.body))), m11, by show t.arms.length - (y + 1) < t.arms.length - y; omega, ⟨hst11, hlh11, hfr11.sub (.cons rfl <| .cons rfl <| .cons rfl <| .cons rfl <| .nil), ⟨by show y + 1 ≤ t.arms.length; omega, hN, ⟨hlen_gb.1, by have := hlen_gb.2; have := joinM_len (nameT x23.body) gb; have := nameT_len x23.body; show (joinM gb (nameT x23.body)).length + countAs (t.arms.drop (y + 1)) ≤ _; omega⟩⟩⟩⟩
      · try simp only [nq1, nq2, nq3, nq4, nq5, nq6, nq7, nq8, nq9, u8_eq] at hb31
        have hge : y = t.arms.length := by omega
        rw [List.drop_of_length_le (by omega), nameAs, countAs] at hlen_gb
        have hfin : nameT t = gb := hlen_gb.1
        refine wp_exit ?_
        refine hK17 _ _ ?_; clear hK17
        refine seq_any fun _ hK25 => ?_
        refine rp0 hst9 hfr9 (.cons rfl (ob_move rfl) <| .cons rfl (ob_assign rfl) <| .nil) ?_
        intro a10 w10 m10 hst10 hle10 hk10
        have hfr10 := hk10.fr (T' := [(3, _), (5, _), (4, _), (2, _)]) (.old rfl rfl <| .old rfl rfl <| .old rfl rfl <| .new rfl <| .nil)
        replace hsl_gb := hsl_gb.mono hle10
        have hlh10 := hlh9.trans hle10
        clear hst9 hfr9 hk10
        refine hK25 _ _ ?_; clear hK25
        refine wp_ret ?_
        repeat (with_reducible first | refine then_ret ?_ | refine block_ret ?_)
        exact fn_ret hst10 hfr10 rfl (.tmp rfl <| .nil) (⟨(_, _), by rw [hfin]; rfl, by rw [hfin]; exact hsl_gb⟩)
theorem names_c (t : Tm) : names_G t := Tm.rec_ (p := names_G) (fun t ihk iha => names_s ihk iha) t

set_option maxHeartbeats 800000 in
theorem free_c {w : World} {m : Mem} {t : Tm} {vs_t : List Value} (hA : Agree w m) (h_t : TmR m t vs_t) (hb : countM t ≤ 1000000000) : FnV Try.prog 19 #[.agg vs_t.toArray] w m (fun _ m v => (MP.strs (freeT t)).p m v) := by
  obtain ⟨⟨oK_t, cK_t, oA_t, cA_t, oR_t, cR_t, t0_t, t1_t, t2_t, t3_t, t4_t, t5_t, u0_t, u1_t, u2_t, u3_t, u4_t, u5_t⟩, rfl, hon_t, hkk_t, haa_t, hrr_t⟩ := h_t.open_
  dsimp only at hkk_t haa_t hrr_t
  have hbg_t := hkk_t.big; have hcp_t := hkk_t.cap; have hbh_t := haa_t.big; have hcq_t := haa_t.cap
  refine fn_enter (vs := [_]) Try.func19 rfl rfl rfl fun a0 hfr0 => ?_
  have hst0 := st_enter hA (loc_nil [] _ w m)
  have hM : MLe m m := MLe.refl m
  have hnl := nameT_len t
  refine seq_any fun _ hK1 => ?_
  refine rp0 hst0 hfr0 (.cons rfl (ob_box rfl rfl) <| .cons rfl (ob_assign rfl) <| .nil) ?_
  intro a1 w1 m1 hst1 hle1 hk1
  have hfr1 := hk1.fr (T' := []) (.nil)
  obtain ⟨g2, e2, hc1⟩ := hk1.ex 1 rfl
  replace hfr1 := hfr1.cons e2
  replace h_t := h_t.mono hle1
  clear hst0 hfr0 hk1
  refine hK1 _ _ ?_; clear hK1
  refine seq_any fun _ hK3 => ?_
  refine rp0 hst1 hfr1 (.cons rfl (ob_assign rfl) <| .nil) ?_
  intro a2 w2 m2 hst2 hle2 hk2
  have hfr2 := hk2.fr (T' := [(1, _), (3, _)]) (.old rfl rfl <| .new rfl <| .nil)
  replace h_t := h_t.mono hle2
  replace hc1 := hc1.mono hle2
  clear hst1 hfr1 hk2
  have hst2 := hst2.more (r := .row (.slice none 0 0) 0 1 9 []) ⟨rfl, .inl ⟨rfl, rfl⟩⟩ List.nodup_nil (by simp [Res.blocks, rowBlock])
  have hrow_out : RowAt m2 none (([] : List Str).map (fun x => S x)) := .inl rfl; have hcap_out : ([] : List Str).length ≤ 0 := Nat.le_refl _
  refine hK3 _ _ ?_; clear hK3
  refine seq_any fun _ hK4 => ?_
  refine ra0 (tch := []) hst2 hfr2 (.cons rfl (ob_loadS' rfl hc1 Try.isAgg33 Try.sizeOf33 rfl rfl) <| .cons rfl (ob_call (φ := MP.strs (nameT t)) rfl (.cons rfl <| .nil) Try.call33 (fun w m hK => by have hle_ := KC.le hK; have hA := KC.agree hK; have h_t := h_t.mono hle_; exact FnG.mono (names_c t hA h_t hb) fun _ _ _ _ h => h)) <| .consA 7 rfl rfl <| .nil) ?_
  intro a3 w3 m3 hst3 hle3 hk3
  have hfr3 := hk3.fr (T' := [(1, _), (3, _)]) (.old rfl rfl <| .old rfl rfl <| .nil)
  obtain ⟨⟨oN, cN⟩, e5, hN⟩ := hk3.ex 7 rfl
  replace hfr3 := hfr3.cons (hk3.same 4 rfl e5)
  replace h_t := h_t.mono hle3
  replace hc1 := hc1.mono hle3
  replace hrow_out := hrow_out.mono hle3
  clear hst2 hfr2 hk3
  dsimp only [MP.strs, MP.mem] at hN
  refine hK4 _ _ ?_; clear hK4
  refine seq_any fun _ hK6 => ?_
  refine seq_any fun _ hK7 => ?_
  refine rp0 hst3 hfr3 (.cons rfl (ob_assign rfl) <| .nil) ?_
  intro a4 w4 m4 hst4 hle4 hk4
  have hfr4 := hk4.fr (T' := [(1, _), (3, _), (4, _), (5, _)]) (.old rfl rfl <| .old rfl rfl <| .old rfl rfl <| .new rfl <| .nil)
  replace h_t := h_t.mono hle4
  replace hc1 := hc1.mono hle4
  replace hrow_out := hrow_out.mono hle4
  replace hN := hN.mono hle4
  clear hst3 hfr3 hk4
  refine hK7 _ _ ?_; clear hK7
  refine wp_block ?_
  refine loop_any (T := [(1, _), (4, _)]) (fun (y : Nat × Option Addr × Nat × List Str) => ([(3, .slice y.2.1 y.2.2.2.length y.2.2.1), (5, .int .i64 (y.1 : Int))] : List (Nat × Value))) (fun y => [.row (.slice y.2.1 y.2.2.2.length y.2.2.1) y.2.2.2.length 1 9 (y.2.2.2.map (fun x => S x))]) (fun (y : Nat × Option Addr × Nat × List Str) m => (fun (y : Nat) (ouo : Option Addr) (oup : Nat) (ou : List Str) => (y ≤ (nameT t).length) ∧ (RowAt m ouo (ou.map (fun x => S x))) ∧ (ou.length ≤ oup) ∧ (ou = ((nameT t).take y).filter (fun s => decide (0 < usesM s t)) ∧ ou.length ≤ y)) y.1 y.2.1 y.2.2.1 y.2.2.2) (fun y => (nameT t).length - y.1) ((0, none, 0, ([] : List Str))) ⟨hst4, MLe.refl _, hfr4.sub (.cons rfl <| .cons rfl <| .cons rfl <| .cons rfl <| .nil), ⟨Nat.zero_le _, hrow_out, hcap_out, ⟨rfl, Nat.le_refl _⟩⟩⟩ fun y a5 w5 m5 hh5 => ?_
  have hst5 := hh5.st; have hle5 := hh5.le; have hfr5 := hh5.fr; have hrel := hh5.rel; clear hh5
  replace h_t := h_t.mono hle5
  replace hc1 := hc1.mono hle5
  replace hN := hN.mono hle5
  clear hst4 hfr4
  obtain ⟨y, ouo, oup, ou⟩ := y
  dsimp only at hrel hfr5 hst5
  obtain ⟨hyn, hrow_ou, hcap_ou, hlen_ou⟩ := hrel
  have hlh5 := hle5
  refine seq_any fun _ hK9 => ?_
  refine seq_any fun _ hK10 => ?_
  refine rp0 hst5 hfr5 (.cons rfl (ob_move rfl) <| .cons rfl (ob_move rfl) <| .cons rfl (ob_len rfl Try.underlying27) <| .cons rfl (ob_lss rfl rfl) <| .nil) ?_
  intro a6 w6 m6 hst6 hle6 hk6
  have hfr6 := hk6.fr (T' := [(3, _), (5, _), (1, _), (4, _), (11, _)]) (.old rfl rfl <| .old rfl rfl <| .old rfl rfl <| .old rfl rfl <| .new rfl <| .nil)
  replace h_t := h_t.mono hle6
  replace hc1 := hc1.mono hle6
  replace hN := hN.mono hle6
  replace hrow_ou := hrow_ou.mono hle6
  have hlh6 := hlh5.trans hle6
  clear hst5 hfr5 hk6
  refine hK10 _ _ ?_; clear hK10
  refine cond_any hfr6 rfl rfl (fun hb11 => ?_) (fun hb11 => ?_)
  · try simp only [nq1, nq2, nq3, nq4, nq5, nq6, nq7, nq8, nq9, u8_eq] at hb11
    refine wp_skip ?_
    refine hK9 _ _ ?_; clear hK9
    refine seq_any fun _ hK11 => ?_
    refine wp_block ?_
    refine seq_any fun _ hK12 => ?_
    obtain ⟨p13, vs13, x13, ho13, hd13, hm_x13, ht13, hcv13, hl13, hv13⟩ := hN.nth (k := y) (by omega)
    cases ho13
    subst hv13
    refine region_plain (fun _ => mixed) hst6 hfr6 (by kernel_rfl) (by kernel_rfl) (.cons rfl (ob_loadS' rfl hc1 Try.isAgg33 Try.sizeOf33 rfl rfl) <| .cons rfl (ob_move rfl) <| .cons rfl (ob_move rfl) <| .cons rfl (ob_indexAddr (k := y) rfl rfl Try.underlying27 Try.sizeOf9 rfl (by omega)) <| .cons rfl (ob_load1' rfl hcv13 Try.isAgg9 rfl) <| .cons rfl (ob_callE rfl (.cons rfl <| .cons rfl <| .nil) Try.call20 (fun w m hK => by have hle_ := KC.le hK; have hA := KC.agree hK; have h_t := h_t.mono hle_; exact uses_c t hA h_t (by omega))) <| .cons rfl (ob_gtr rfl rfl) <| .nil) ?_
    intro a7 w7 m7 hst7 hle7 hk7
    have hfr7 := hk7.fr (T' := [(3, _), (5, _), (1, _), (4, _), (20, _)]) (.old rfl rfl <| .old rfl rfl <| .old rfl rfl <| .old rfl rfl <| .new rfl <| .nil)
    replace hrow_ou := hrow_ou.mono hle7
    replace hcv13 := hcv13.mono hle7
    have hlh7 := hlh6.trans hle7
    clear hst6 hfr6 hk7
    refine hK12 _ _ ?_; clear hK12
    refine cond_any hfr7 rfl rfl (fun hb20 => ?_) (fun hb20 => ?_)
    · try simp only [nq1, nq2, nq3, nq4, nq5, nq6, nq7, nq8, nq9, u8_eq] at hb20
      have h09 : decide (0 < usesM x13 t) = true := by simp only [decide_eq_true_eq]; omega
      have hlo9 := hlen_ou.2
      refine ra0 (tch := [(6, 0, (fun v => .row v _ _ _ _))]) hst7 hfr7 (.cons rfl (ob_move rfl) <| .cons rfl (ob_move rfl) <| .cons rfl (ob_move rfl) <| .cons rfl (ob_indexAddr (k := y) rfl rfl Try.underlying27 Try.sizeOf9 rfl (by omega)) <| .cons rfl (ob_load1' rfl hcv13 Try.isAgg9 rfl) <| .cons rfl (ob_buildSlice (.cons rfl <| .nil) Try.underlying27 Try.sizeOf9 Try.zeroValue9 rfl rfl rfl rfl) <| .consT rfl rfl (fun _ => rfl) rfl (ob_imgT 26 rfl rfl rfl fun y26 => ob_append (size := 1) (bytes := 16) rfl rfl Try.underlying27 Try.type9 rfl rfl rfl rfl (fun w m hK => .inr ⟨_, rfl, hK.2⟩) rfl (by decide) rfl (by simp only [maxLen]; omega) (by omega)) <| .consA 27 rfl rfl <| .nil) ?_
      intro a8 w8 m8 hst8 hle8 hk8
      have hfr8 := hk8.fr (T' := [(5, _), (1, _), (4, _)]) (.old rfl rfl <| .old rfl rfl <| .old rfl rfl <| .nil)
      obtain ⟨⟨out_14o, out_14p⟩, e15, hrow_out_14, hcap_out_14⟩ := hk8.ex 27 rfl
      replace e15 : envOf a8 27 = .slice out_14o (ou ++ [x13]).length out_14p := by rw [e15]; refine congrArg (fun q => Value.slice _ q _) ?_; simp only [List.length_append, List.length_cons, List.length_nil]
      replace hfr8 := hfr8.cons (hk8.same 3 rfl e15)
      replace hst8 := hst8.fin (L' := [_]) (.cons e15 <| .nil)
      have en_out_14 : (ou).length + 1 = ((ou ++ [x13])).length := by simp only [List.length_append, List.length_cons, List.length_nil]
      have em_out_14 : (ou).map (fun x => S x) ++ [S x13] = ((ou ++ [x13])).map (fun x => S x) := by simp only [List.map_append, List.map_cons, List.map_nil]
      replace hst8 := hst8.row_eq (k := 0) rfl en_out_14 em_out_14
      simp only [List.set_cons_succ, List.set_cons_zero] at hst8
      change RowAt m8 out_14o ((ou).map (fun x => S x) ++ [S x13]) at hrow_out_14; rw [em_out_14] at hrow_out_14; change (ou).length + 1 ≤ out_14p at hcap_out_14; rw [en_out_14] at hcap_out_14
      have hlh8 := hlh7.trans hle8
      clear hst7 hfr7 hk8
      refine hK11 _ _ ?_; clear hK11
      refine rp0 hst8 hfr8 (.cons rfl (ob_move rfl) <| .cons rfl (ob_add rfl rfl ⟨by omega, by omega⟩) <| .cons rfl (ob_assign rfl) <| .nil) ?_
      intro a9 w9 m9 hst9 hle9 hk9
      have hfr9 := hk9.fr (T' := [(1, _), (4, _), (3, _), (5, _)]) (.old rfl rfl <| .old rfl rfl <| .old rfl rfl <| .new rfl <| .nil)
      replace hrow_out_14 := hrow_out_14.mono hle9
      have hlh9 := hlh8.trans hle9
      clear hst8 hfr8 hk9
      exact ⟨(y + 1, out_14o, out_14p, (ou ++ [x13])), m9, by show (nameT t).length - (y + 1) < (nameT t).length - y; omega, ⟨hst9, hlh9, hfr9.sub (.cons rfl <| .cons rfl <| .cons rfl <| .cons rfl <| .nil), ⟨by show y + 1 ≤ (nameT t).length; omega, hrow_out_14, hcap_out_14, ⟨by rw [ht13, List.filter_append, ← hlen_ou.1, List.filter_cons, h09]; rfl, by show (ou ++ [x13]).length ≤ y + 1; simp; omega⟩⟩⟩⟩
    · try simp only [nq1, nq2, nq3, nq4, nq5, nq6, nq7, nq8, nq9, u8_eq] at hb20
      have h09 : decide (0 < usesM x13 t) = false := by simp only [decide_eq_false_iff_not]; omega
      have hlo9 := hlen_ou.2
      refine wp_skip ?_
      refine hK11 _ _ ?_; clear hK11
      refine rp0 hst7 hfr7 (.cons rfl (ob_move rfl) <| .cons rfl (ob_add rfl rfl ⟨by omega, by omega⟩) <| .cons rfl (ob_assign rfl) <| .nil) ?_
      intro a8 w8 m8 hst8 hle8 hk8
      have hfr8 := hk8.fr (T' := [(3, _), (1, _), (4, _), (5, _)]) (.old rfl rfl <| .old rfl rfl <| .old rfl rfl <| .new rfl <| .nil)
      replace hrow_ou := hrow_ou.mono hle8
      have hlh8 := hlh7.trans hle8
      clear hst7 hfr7 hk8
      exact ⟨(y + 1, ouo, oup, ou), m8, by show (nameT t).length - (y + 1) < (nameT t).length - y; omega, ⟨hst8, hlh8, hfr8.sub (.cons rfl <| .cons rfl <| .cons rfl <| .cons rfl <| .nil), ⟨by show y + 1 ≤ (nameT t).length; omega, hrow_ou, hcap_ou, ⟨by rw [ht13, List.filter_append, ← hlen_ou.1, List.filter_cons, h09]; simp, by show ou.length ≤ y + 1; omega⟩⟩⟩⟩
  · try simp only [nq1, nq2, nq3, nq4, nq5, nq6, nq7, nq8, nq9, u8_eq] at hb11
    have hge : y = (nameT t).length := by omega
    rw [List.take_of_length_le (by omega)] at hlen_ou
    have hfin : freeT t = ou := hlen_ou.1.symm
    have hs_out : Strs m6 ouo (ou).length oup ou := Strs.of_row (by simpa using hrow_ou) rfl hcap_ou (by omega)
    refine wp_exit ?_
    refine hK6 _ _ ?_; clear hK6
    refine seq_any fun _ hK16 => ?_
    refine rp0 hst6 hfr6 (.cons rfl (ob_move rfl) <| .cons rfl (ob_assign rfl) <| .nil) ?_
    intro a7 w7 m7 hst7 hle7 hk7
    have hfr7 := hk7.fr (T' := [(3, _), (5, _), (2, _)]) (.old rfl rfl <| .old rfl rfl <| .new rfl <| .nil)
    replace hs_out := hs_out.mono hle7
    have hlh7 := hlh6.trans hle7
    clear hst6 hfr6 hk7
    refine hK16 _ _ ?_; clear hK16
    refine wp_ret ?_
    repeat (with_reducible first | refine then_ret ?_ | refine block_ret ?_)
    exact fn_ret hst7 hfr7 rfl (.tmp rfl <| .nil) (⟨(_, _), by rw [hfin]; rfl, by rw [hfin]; exact hs_out⟩)

set_option maxHeartbeats 400000 in
theorem sameNames_c {w : World} {m : Mem} {o_pl : Option Addr} {c_pl : Nat} {pl : List Str} {o_ql : Option Addr} {c_ql : Nat} {ql : List Str} (hA : Agree w m) (h_pl : Strs m o_pl pl.length c_pl pl) (h_ql : Strs m o_ql ql.length c_ql ql) : FnV Try.prog 18 #[.slice o_pl pl.length c_pl, .slice o_ql ql.length c_ql] w m (fun _ _ v => v = .bool (decide (pl = ql))) := by
  have hb_pl := h_pl.big; have hc_pl := h_pl.cap
  have hb_ql := h_ql.big; have hc_ql := h_ql.cap
  refine fn_enter (vs := [_, _]) Try.func18 rfl rfl rfl fun a0 hfr0 => ?_
  have hst0 := st_enter hA (loc_nil [] _ w m)
  have hM : MLe m m := MLe.refl m
  refine seq_any fun _ hK1 => ?_
  refine rp0 hst0 hfr0 (.cons rfl (ob_assign rfl) <| .nil) ?_
  intro a1 w1 m1 hst1 hle1 hk1
  have hfr1 := hk1.fr (T' := [(0, _), (1, _)]) (.old rfl rfl <| .old rfl rfl <| .nil)
  replace h_pl := h_pl.mono hle1
  replace h_ql := h_ql.mono hle1
  clear hst0 hfr0 hk1
  refine hK1 _ _ ?_; clear hK1
  refine seq_any fun _ hK2 => ?_
  refine seq_any fun _ hK3 => ?_
  refine rp0 hst1 hfr1 (.cons rfl (ob_move rfl) <| .cons rfl (ob_len rfl Try.underlying27) <| .cons rfl (ob_move rfl) <| .cons rfl (ob_len rfl Try.underlying27) <| .cons rfl (ob_neq rfl rfl) <| .nil) ?_
  intro a2 w2 m2 hst2 hle2 hk2
  have hfr2 := hk2.fr (T' := [(0, _), (1, _), (10, _)]) (.old rfl rfl <| .old rfl rfl <| .new rfl <| .nil)
  replace h_pl := h_pl.mono hle2
  replace h_ql := h_ql.mono hle2
  clear hst1 hfr1 hk2
  refine hK3 _ _ ?_; clear hK3
  refine cond_any hfr2 rfl rfl (fun hb10 => ?_) (fun hb10 => ?_)
  · try simp only [nq1, nq2, nq3, nq4, nq5, nq6, nq7, nq8, nq9, u8_eq] at hb10
    have hne : ¬ pl = ql := fun h => by subst h; omega
    refine seq_any fun _ hK4 => ?_
    refine rp0 hst2 hfr2 (.cons rfl (ob_assign rfl) <| .nil) ?_
    intro a3 w3 m3 hst3 hle3 hk3
    have hfr3 := hk3.fr (T' := [(4, _)]) (.new rfl <| .nil)
    clear hst2 hfr2 hk3
    refine hK4 _ _ ?_; clear hK4
    refine wp_ret ?_
    repeat (with_reducible first | refine then_ret ?_ | refine block_ret ?_)
    exact fn_ret hst3 hfr3 rfl (.tmp rfl <| .nil) (by refine congrArg Value.bool ?_; simp [hne])
  · try simp only [nq1, nq2, nq3, nq4, nq5, nq6, nq7, nq8, nq9, u8_eq] at hb10
    have hln : pl.length = ql.length := by omega
    refine wp_skip ?_
    refine hK2 _ _ ?_; clear hK2
    refine seq_any fun _ hK6 => ?_
    refine seq_any fun _ hK7 => ?_
    refine rp0 hst2 hfr2 (.cons rfl (ob_assign rfl) <| .nil) ?_
    intro a3 w3 m3 hst3 hle3 hk3
    have hfr3 := hk3.fr (T' := [(0, _), (1, _), (5, _)]) (.old rfl rfl <| .old rfl rfl <| .new rfl <| .nil)
    replace h_pl := h_pl.mono hle3
    replace h_ql := h_ql.mono hle3
    clear hst2 hfr2 hk3
    refine hK7 _ _ ?_; clear hK7
    refine wp_block ?_
    refine loop_any (T := [(0, _), (1, _)]) (fun (y : Nat) => ([(5, .int .i64 (y : Int))] : List (Nat × Value))) (fun _ => _) (fun (y : Nat) m => (y ≤ pl.length) ∧ ((pl = ql) = (pl.drop y = ql.drop y))) (fun y => pl.length - y) (0) ⟨hst3, MLe.refl _, hfr3.sub (.cons rfl <| .cons rfl <| .cons rfl <| .nil), ⟨Nat.zero_le _, rfl⟩⟩ fun y a4 w4 m4 hh4 => ?_
    have hst4 := hh4.st; have hle4 := hh4.le; have hfr4 := hh4.fr; have hrel := hh4.rel; clear hh4
    replace h_pl := h_pl.mono hle4
    replace h_ql := h_ql.mono hle4
    clear hst3 hfr3
    obtain ⟨hyn, hrem⟩ := hrel
    have hlh4 := hle4
    refine seq_any fun _ hK9 => ?_
    refine seq_any fun _ hK10 => ?_
    refine rp0 hst4 hfr4 (.cons rfl (ob_move rfl) <| .cons rfl (ob_move rfl) <| .cons rfl (ob_len rfl Try.underlying27) <| .cons rfl (ob_lss rfl rfl) <| .nil) ?_
    intro a5 w5 m5 hst5 hle5 hk5
    have hfr5 := hk5.fr (T' := [(5, _), (0, _), (1, _), (14, _)]) (.old rfl rfl <| .old rfl rfl <| .old rfl rfl <| .new rfl <| .nil)
    replace h_pl := h_pl.mono hle5
    replace h_ql := h_ql.mono hle5
    have hlh5 := hlh4.trans hle5
    clear hst4 hfr4 hk5
    refine hK10 _ _ ?_; clear hK10
    refine cond_any hfr5 rfl rfl (fun hb14 => ?_) (fun hb14 => ?_)
    · try simp only [nq1, nq2, nq3, nq4, nq5, nq6, nq7, nq8, nq9, u8_eq] at hb14
      refine wp_skip ?_
      refine hK9 _ _ ?_; clear hK9
      refine seq_any fun _ hK11 => ?_
      refine wp_block ?_
      refine seq_any fun _ hK12 => ?_
      obtain ⟨p13, vs13, x13, ho13, hd13, hm_x13, ht13, hcv13, hl13, hv13⟩ := h_pl.nth (k := y) (by omega)
      cases ho13
      subst hv13
      try rw [hd13] at hrem
      obtain ⟨p14, vs14, x14, ho14, hd14, hm_x14, ht14, hcv14, hl14, hv14⟩ := h_ql.nth (k := y) (by omega)
      cases ho14
      subst hv14
      try rw [hd14] at hrem
      refine region_plain (fun _ => mixed) hst5 hfr5 (by kernel_rfl) (by kernel_rfl) (.cons rfl (ob_move rfl) <| .cons rfl (ob_move rfl) <| .cons rfl (ob_indexAddr (k := y) rfl rfl Try.underlying27 Try.sizeOf9 rfl (by omega)) <| .cons rfl (ob_load1' rfl hcv13 Try.isAgg9 rfl) <| .cons rfl (ob_move rfl) <| .cons rfl (ob_move rfl) <| .cons rfl (ob_indexAddr (k := y) rfl rfl Try.underlying27 Try.sizeOf9 rfl (by omega)) <| .cons rfl (ob_load1' rfl hcv14 Try.isAgg9 rfl) <| .cons rfl (ob_sneq rfl rfl) <| .nil) ?_
      intro a6 w6 m6 hst6 hle6 hk6
      have hfr6 := hk6.fr (T' := [(5, _), (0, _), (1, _), (25, _)]) (.old rfl rfl <| .old rfl rfl <| .old rfl rfl <| .new rfl <| .nil)
      have hlh6 := hlh5.trans hle6
      clear hst5 hfr5 hk6
      refine hK12 _ _ ?_; clear hK12
      refine cond_any hfr6 rfl rfl (fun hb25 => ?_) (fun hb25 => ?_)
      · try simp only [nq1, nq2, nq3, nq4, nq5, nq6, nq7, nq8, nq9, u8_eq] at hb25
        refine seq_any fun _ hK15 => ?_
        refine rp0 hst6 hfr6 (.cons rfl (ob_assign rfl) <| .nil) ?_
        intro a7 w7 m7 hst7 hle7 hk7
        have hfr7 := hk7.fr (T' := [(5, _), (4, _)]) (.old rfl rfl <| .new rfl <| .nil)
        have hlh7 := hlh6.trans hle7
        clear hst6 hfr6 hk7
        refine hK15 _ _ ?_; clear hK15
        refine wp_ret ?_
        repeat (with_reducible first | refine then_ret ?_ | refine block_ret ?_)
        exact fn_ret hst7 hfr7 rfl (.tmp rfl <| .nil) (by refine congrArg Value.bool ?_; rw [decide_eq_false (by rw [hrem]; simp [hb25])])
      · try simp only [nq1, nq2, nq3, nq4, nq5, nq6, nq7, nq8, nq9, u8_eq] at hb25
        refine wp_skip ?_
        refine hK11 _ _ ?_; clear hK11
        refine rp0 hst6 hfr6 (.cons rfl (ob_move rfl) <| .cons rfl (ob_add rfl rfl ⟨by omega, by omega⟩) <| .cons rfl (ob_assign rfl) <| .nil) ?_
        intro a7 w7 m7 hst7 hle7 hk7
        have hfr7 := hk7.fr (T' := [(0, _), (1, _), (5, _)]) (.old rfl rfl <| .old rfl rfl <| .new rfl <| .nil)
        have hlh7 := hlh6.trans hle7
        clear hst6 hfr6 hk7
        exact ⟨y + 1, m7, by show pl.length - (y + 1) < pl.length - y; omega, ⟨hst7, hlh7, hfr7.sub (.cons rfl <| .cons rfl <| .cons rfl <| .nil), ⟨by show y + 1 ≤ pl.length; omega, by rw [hrem, hb25]; simp⟩⟩⟩
    · try simp only [nq1, nq2, nq3, nq4, nq5, nq6, nq7, nq8, nq9, u8_eq] at hb14
      have hge : y = pl.length := by omega
      rw [List.drop_of_length_le (by omega), List.drop_of_length_le (by omega)] at hrem
      refine wp_exit ?_
      refine hK6 _ _ ?_; clear hK6
      refine seq_any fun _ hK17 => ?_
      refine rp0 hst5 hfr5 (.cons rfl (ob_assign rfl) <| .nil) ?_
      intro a6 w6 m6 hst6 hle6 hk6
      have hfr6 := hk6.fr (T' := [(5, _), (4, _)]) (.old rfl rfl <| .new rfl <| .nil)
      have hlh6 := hlh5.trans hle6
      clear hst5 hfr5 hk6
      refine hK17 _ _ ?_; clear hK17
      refine wp_ret ?_
      repeat (with_reducible first | refine then_ret ?_ | refine block_ret ?_)
      exact fn_ret hst6 hfr6 rfl (.tmp rfl <| .nil) (by refine congrArg Value.bool ?_; rw [decide_eq_true (by rw [hrem])])

end Go.Proofs.Ytppmbhjacjmfkaa
