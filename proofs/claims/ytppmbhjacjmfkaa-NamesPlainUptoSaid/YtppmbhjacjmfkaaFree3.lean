/-
  Names: how often each stands free. Conditions: those of each theorem.
-/
import Derived.Test.YtppmbhjacjmfkaaParts3
import Derived.Test.YtppmbhjacjmfkaaMapw
namespace Go.Proofs.Ytppmbhjacjmfkaa
set_option linter.all false
set_option maxRecDepth 4000
open Go.RowKit
/-- How often a name is used in parts. -/
def partU (s : Str) (p : Tm × List Str) : Nat := if s = uS ∨ ¬ s ∈ p.2 then usesM s p.1 else 0
def preU (ps : List (Tm × List Str)) (s : Str) : Nat := (ps.map (partU s)).sum
theorem preU_snoc (ps : List (Tm × List Str)) (p : Tm × List Str) (s : Str) : preU (ps ++ [p]) s = preU ps s + partU s p := by simp [preU]
theorem preU_take {ps : List (Tm × List Str)} {i : Nat} {p : Tm × List Str} (h : ps[i]? = some p) (s : Str) : preU (ps.take (i + 1)) s = preU (ps.take i) s + partU s p := by
  rw [List.take_succ, h]; exact preU_snoc _ _ _
theorem parts_uses {t : Tm} (hs : ShT t) (hk : t.kind ≠ 1) (s : Str) : preU (partsT t) s = usesM s t := by
  rw [usesM_eq, if_neg hk]
  unfold partsT preU
  rw [List.map_append, List.sum_append]
  congr 1
  · have key : ∀ (l : List Tm) (i : Nat), (∀ j, j < l.length → i + j < t.kids.length) → (((l.zipIdx i).map fun x => (x.1, boundP t.kind t.name t.param x.2)).map (partU s)).sum = usesKs s (boundR t.kind t.name t.param) i l := by
      intro l
      induction l with
      | nil => intro i _; rfl
      | cons u l ih =>
        intro i h
        rw [List.zipIdx_cons, List.map_cons, List.map_cons, List.sum_cons, usesKs, ih (i + 1) (fun j hj => by have := h (j + 1) (by simp; omega); omega)]
        unfold partU
        simp only
        rw [boundP_R hs (by have := h 0 (by simp); omega)]
    exact key t.kids 0 (fun j hj => by omega)
  · generalize t.arms = l
    induction l with
    | nil => rfl
    | cons a l ih => rw [List.map_cons, List.map_cons, List.sum_cons, usesAs_cons, ih]; rfl
theorem parts_sub {t : Tm} {p : Tm × List Str} (h : p ∈ partsT t) : p.1 ∈ t.kids ∨ ∃ a ∈ t.arms, a.body = p.1 := by
  unfold partsT at h
  rcases List.mem_append.1 h with h | h
  · obtain ⟨x, hx, rfl⟩ := List.mem_map.1 h
    left
    obtain ⟨k, hk⟩ := List.mem_iff_getElem?.1 hx
    rw [List.getElem?_zipIdx] at hk
    cases e : t.kids[k]? with
    | none => rw [e] at hk; cases hk
    | some u => rw [e] at hk; simp only [Option.map_some, Option.some.injEq] at hk; subst hk; exact List.mem_of_getElem? e
  · obtain ⟨a, ha, rfl⟩ := List.mem_map.1 h
    exact .inr ⟨a, ha, rfl⟩
theorem countKs_in : ∀ {l : List Tm} {u : Tm}, u ∈ l → countM u ≤ countKs l
  | t :: ts, u, h => by
    rw [countKs]
    rcases List.mem_cons.1 h with rfl | h
    · omega
    · have := countKs_in h; omega
theorem countAs_in : ∀ {l : List Ar} {a : Ar}, a ∈ l → countM a.body ≤ countAs l
  | a' :: ts, a, h => by
    rw [countAs_cons]
    rcases List.mem_cons.1 h with rfl | h
    · omega
    · have := countAs_in h; omega
theorem count_part {t : Tm} {p : Tm × List Str} (h : p ∈ partsT t) : countM p.1 + 1 ≤ countM t := by
  rcases parts_sub h with h | ⟨a, ha, e⟩
  · rw [countM_eq t]; have := countKs_in h; omega
  · rw [countM_eq t, ← e]; have := countAs_in ha; omega
theorem sh_part {t : Tm} {p : Tm × List Str} (hs : ShT t) (h : p ∈ partsT t) : ShT p.1 := by
  rcases parts_sub h with h | ⟨a, ha, e⟩
  · exact hs.kid h
  · exact e ▸ hs.arm ha
theorem preU_le {t : Tm} (i : Nat) (s : Str) : preU ((partsT t).take i) s ≤ countM t := by
  have key : ∀ l : List (Tm × List Str), preU l s ≤ (l.map fun p => countM p.1).sum := by
    intro l
    unfold preU
    induction l with
    | nil => simp
    | cons p l ih => simp only [List.map_cons, List.sum_cons]; have := usesM_le s p.1; unfold partU at ih ⊢; split <;> omega
  have h2 : ((partsT t).map fun p => countM p.1).sum ≤ countM t := by
    rw [countM_eq t]; unfold partsT
    rw [List.map_append, List.sum_append]
    have e1 : ((t.kids.zipIdx.map (fun x => (x.1, boundP t.kind t.name t.param x.2))).map fun p => countM p.1).sum = countKs t.kids := by
      have key : ∀ (l : List Tm) (i : Nat), (((l.zipIdx i).map fun x => (x.1, boundP t.kind t.name t.param x.2)).map fun p => countM p.1).sum = countKs l := by
        intro l
        induction l with
        | nil => intro i; rfl
        | cons u l ih => intro i; rw [List.zipIdx_cons, List.map_cons, List.map_cons, List.sum_cons, countKs, ih]
      exact key t.kids 0
    have e2 : ((t.arms.map fun a => (a.body, a.vars)).map fun p => countM p.1).sum = countAs t.arms := by
      generalize t.arms = l
      induction l with
      | nil => rfl
      | cons a l ih => rw [List.map_cons, List.map_cons, List.sum_cons, countAs_cons, ih]
    rw [e1, e2]; omega
  refine Nat.le_trans (key _) (Nat.le_trans ?_ h2)
  have : ∀ (l : List (Tm × List Str)) (i : Nat), ((l.take i).map fun p => countM p.1).sum ≤ (l.map fun p => countM p.1).sum := by
    intro l
    induction l with
    | nil => intro i; simp
    | cons p l ih => intro i; cases i with
      | zero => simp
      | succ i => simp only [List.take_succ_cons, List.map_cons, List.sum_cons]; have := ih i; omega
  exact this _ _
abbrev intW (x : Int) : Value := .int .i64 x
/-- The list tells how often each name stands. -/
structure UsesL (f : Str → Nat) (l : List (Str × Int)) : Prop where
  nodup : (l.map Prod.fst).Nodup
  look : ∀ s, alook s l = if f s = 0 then none else some (f s : Int)
theorem UsesL.nil {f : Str → Nat} (h : ∀ s, f s = 0) : UsesL f [] := ⟨by simp, fun s => by rw [if_pos (h s)]; rfl⟩
theorem UsesL.congr {f g : Str → Nat} {l : List (Str × Int)} (h : UsesL f l) (e : ∀ s, f s = g s) : UsesL g l := ⟨h.nodup, fun s => by rw [← e s]; exact h.look s⟩
theorem UsesL.got {f : Str → Nat} {l : List (Str × Int)} (h : UsesL f l) (s : Str) : (alook s l).getD 0 = (f s : Int) := by rw [h.look s]; split <;> simp_all
theorem UsesL.at_ {f : Str → Nat} {l : List (Str × Int)} (h : UsesL f l) {k : Str} {x : Int} (hk : (k, x) ∈ l) : x = (f k : Int) ∧ f k ≠ 0 := by
  have h1 := alook_of_memN h.nodup hk
  rw [h.look k] at h1
  split at h1
  · cases h1
  · rename_i h0; injection h1 with h1; exact ⟨h1.symm, h0⟩
theorem UsesL.mem {f : Str → Nat} {l : List (Str × Int)} (h : UsesL f l) (s : Str) : s ∈ l.map Prod.fst ↔ f s ≠ 0 := by
  have h1 := h.look s
  by_cases h0 : f s = 0
  · rw [if_pos h0, alook_none_iff] at h1; simp [h1, h0]
  · rw [if_neg h0] at h1
    have : ¬ ¬ s ∈ l.map Prod.fst := fun hn => by rw [alook_none_iff.2 hn] at h1; cases h1
    have h2 : s ∈ l.map Prod.fst := Classical.not_not.1 this
    exact ⟨fun _ => h0, fun _ => h2⟩
/-- One name more is counted. -/
theorem UsesL.add {f g : Str → Nat} {l : List (Str × Int)} (h : UsesL f l) {k : Str} {n : Nat} (hn : n ≠ 0) (hg : ∀ s, g s = if s = k then f s + n else f s) : UsesL g (aset k ((f k : Int) + (n : Int)) l) := by
  refine ⟨nodup_aset h.nodup, fun s => ?_⟩
  rw [alook_asetN, hg s]
  by_cases e : s = k
  · subst e; rw [if_pos rfl, if_pos rfl, if_neg (by omega)]; simp
  · rw [if_neg e, if_neg e]; exact h.look s
/-- What has come of a part. -/
def cameU (u : Tm) (lb : List Str) (dn : List (Str × Int)) (s : Str) : Nat := if s ∈ dn.map Prod.fst ∧ (s = uS ∨ ¬ s ∈ lb) then usesM s u else 0
theorem cameU_nil (u : Tm) (lb : List Str) (s : Str) : cameU u lb [] s = 0 := by simp [cameU]
theorem cameU_snoc {u : Tm} {lb : List Str} {dn : List (Str × Int)} {k : Str} {x : Int} (hk : ¬ k ∈ dn.map Prod.fst) (s : Str) : cameU u lb (dn ++ [(k, x)]) s = if s = k then (if k = uS ∨ ¬ k ∈ lb then usesM k u else 0) else cameU u lb dn s := by
  unfold cameU
  by_cases e : s = k
  · subst e; simp
  · rw [if_neg e]
    have hm : s ∈ (dn ++ [(k, x)]).map Prod.fst ↔ s ∈ dn.map Prod.fst := by
      rw [List.map_append, List.mem_append]
      exact ⟨fun h => h.resolve_right (fun h => e (List.mem_singleton.1 h)), .inl⟩
    by_cases hc : s ∈ dn.map Prod.fst ∧ (s = uS ∨ ¬ s ∈ lb)
    · rw [if_pos ⟨hm.2 hc.1, hc.2⟩, if_pos hc]
    · rw [if_neg (fun h => hc ⟨hm.1 h.1, h.2⟩), if_neg hc]
theorem came_add {f : Str → Nat} {u : Tm} {lb : List Str} {dn : List (Str × Int)} {k : Str} {x : Int} (hk : ¬ k ∈ dn.map Prod.fst) (hc : k = uS ∨ ¬ k ∈ lb) (s : Str) : f s + cameU u lb (dn ++ [(k, x)]) s = if s = k then f s + cameU u lb dn s + usesM k u else f s + cameU u lb dn s := by
  rw [cameU_snoc hk, if_pos hc]
  by_cases e : s = k
  · subst e
    have h0 : cameU u lb dn s = 0 := by unfold cameU; rw [if_neg (fun h => hk h.1)]
    rw [if_pos rfl, if_pos rfl, h0]; omega
  · rw [if_neg e, if_neg e]
theorem came_skip {f : Str → Nat} {u : Tm} {lb : List Str} {dn : List (Str × Int)} {k : Str} {x : Int} (hk : ¬ k ∈ dn.map Prod.fst) (hc : ¬ (k = uS ∨ ¬ k ∈ lb)) (s : Str) : f s + cameU u lb dn s = f s + cameU u lb (dn ++ [(k, x)]) s := by
  rw [cameU_snoc hk, if_neg hc]
  by_cases e : s = k
  · subst e
    have h0 : cameU u lb dn s = 0 := by unfold cameU; rw [if_neg (fun h => hk h.1)]
    rw [if_pos rfl, h0]
  · rw [if_neg e]
theorem cameU_all {u : Tm} {lb : List Str} {dn lu : List (Str × Int)} (h : UsesL (fun s => usesM s u) lu) (hp : dn.Perm lu) (s : Str) : cameU u lb dn s = partU s (u, lb) := by
  unfold cameU partU
  have hm : s ∈ dn.map Prod.fst ↔ usesM s u ≠ 0 := by rw [(hp.map Prod.fst).mem_iff]; exact h.mem s
  by_cases h0 : usesM s u = 0
  · simp [h0]
  · have h2 := hm.2 h0
    by_cases hc : s = uS ∨ ¬ s ∈ lb
    · rw [if_pos ⟨h2, hc⟩, if_pos hc]
    · rw [if_neg (fun h => hc h.2), if_neg hc]
theorem nodup_came {k : Str} {x : Int} {dn l lu : List (Str × Int)} (hp : (dn ++ (k, x) :: l).Perm lu) (hn : (lu.map Prod.fst).Nodup) : ¬ k ∈ dn.map Prod.fst := by
  have h := (hp.map Prod.fst).nodup_iff.2 hn
  rw [List.map_append, List.map_cons] at h
  exact fun hk => (List.nodup_append.1 h).2.2 k hk k (.head _) rfl
def MP.usesV (t : Tm) : MP := MP.mem (fun y : Nat × List (Str × Int) => .map (some y.1)) (fun y m => MapAt S m y.1 (encW intW y.2) ∧ UsesL (fun s => usesM s t) y.2) fun hm h => ⟨h.1.mono hm, h.2⟩
theorem parts_iter {m : Mem} {q : Addr} {vs : List Value} {t : Tm} (hq : CellsAt m q vs) (h_t : TmR m t vs) : IterC Try.prog 53 [.pointer (some q)] (partsT t).length (PartY t) m :=
  fun l bs Ψ Ψx w m' hA hm hbs hp hy => parts1_c hA (hq.mono hm) (h_t.mono hm) hm hbs hp hy
/-- Where an element stands first; -1: nowhere. -/
def idxA {α : Type} [DecidableEq α] : Nat → List α → α → Int
  | _, [], _ => -1
  | i, x :: l, s => if s = x then (i : Int) else idxA (i + 1) l s
theorem idxA_pos {α : Type} [DecidableEq α] (s : α) : ∀ (l : List α) (i : Nat), decide (0 ≤ idxA i l s) = decide (s ∈ l)
  | [], i => by simp [idxA]
  | x :: l, i => by
    simp only [idxA, List.mem_cons]
    by_cases h : s = x
    · simp [h]
    · simp only [h, if_false, false_or]; exact idxA_pos s l (i + 1)
theorem idxA_mem {α : Type} [DecidableEq α] (s : α) (l : List α) (i : Nat) : 0 ≤ idxA i l s ↔ s ∈ l := by
  have h := idxA_pos s l i
  rwa [decide_eq_decide] at h
/-- Both are the same, one by one. -/
def all2 {α : Type} (ψ : α → α → Bool) : List α → List α → Bool
  | [], [] => true
  | x :: xs, y :: ys => ψ x y && all2 ψ xs ys
  | [], _ :: _ => false
  | _ :: _, [] => false
theorem all2_len {α : Type} {ψ : α → α → Bool} : ∀ {xs ys : List α}, xs.length ≠ ys.length → all2 ψ xs ys = false
  | [], [], h => absurd rfl h
  | [], _ :: _, _ => rfl
  | _ :: _, [], _ => rfl
  | x :: xs, y :: ys, h => by simp only [all2]; rw [all2_len (by simpa using h)]; simp
theorem all2_eq {α : Type} [DecidableEq α] : ∀ (xs ys : List α), all2 (fun a b => decide (a = b)) xs ys = decide (xs = ys)
  | [], [] => rfl
  | [], _ :: _ => by simp [all2]
  | _ :: _, [] => by simp [all2]
  | x :: xs, y :: ys => by simp [all2, all2_eq xs ys]

set_option maxHeartbeats 400000 in
theorem indexS_c {w : World} {m : Mem} {o_l : Option Addr} {c_l : Nat} {l : List Str} {s : Str} (hA : Agree w m) (h_l : Strs m o_l l.length c_l l) : FnV Try.prog 55 #[.slice o_l l.length c_l, S s] w m (fun _ _ v => v = .int .i64 (idxA 0 l s)) := by
  have hb_l := h_l.big; have hc_l := h_l.cap
  refine fn_enter (vs := [_, _]) Try.func55 rfl rfl rfl fun a0 hfr0 => ?_
  have hst0 := st_enter hA (loc_nil [] _ w m)
  have hM : MLe m m := MLe.refl m
  refine seq_any fun _ hK1 => ?_
  refine rp0 hst0 hfr0 (.cons rfl (ob_assign rfl) <| .nil) ?_
  intro a1 w1 m1 hst1 hle1 hk1
  have hfr1 := hk1.fr (T' := [(0, _), (1, _)]) (.old rfl rfl <| .old rfl rfl <| .nil)
  replace h_l := h_l.mono hle1
  clear hst0 hfr0 hk1
  refine hK1 _ _ ?_; clear hK1
  refine seq_any fun _ hK2 => ?_
  refine seq_any fun _ hK3 => ?_
  refine rp0 hst1 hfr1 (.cons rfl (ob_move rfl) <| .cons rfl (ob_len rfl Try.underlying27) <| .cons rfl (ob_move rfl) <| .nil) ?_
  intro a2 w2 m2 hst2 hle2 hk2
  have hfr2 := hk2.fr (T' := [(0, _), (1, _), (7, _), (8, _)]) (.old rfl rfl <| .old rfl rfl <| .new rfl <| .new rfl <| .nil)
  replace h_l := h_l.mono hle2
  clear hst1 hfr1 hk2
  refine hK3 _ _ ?_; clear hK3
  refine wp_block ?_
  refine loop_any (T := [(0, _), (1, _), (7, _)]) (fun (y : Nat) => ([(8, .int .i64 (y : Int))] : List (Nat × Value))) (fun _ => _) (fun (y : Nat) m => (y ≤ l.length) ∧ (idxA 0 l s = idxA y (l.drop y) s)) (fun y => l.length - y) (0) ⟨hst2, MLe.refl _, hfr2.sub (.cons rfl <| .cons rfl <| .cons rfl <| .cons rfl <| .nil), ⟨Nat.zero_le _, rfl⟩⟩ fun y a3 w3 m3 hh3 => ?_
  have hst3 := hh3.st; have hle3 := hh3.le; have hfr3 := hh3.fr; have hrel := hh3.rel; clear hh3
  replace h_l := h_l.mono hle3
  clear hst2 hfr2
  obtain ⟨hyn, hrem⟩ := hrel
  have hlh3 := hle3
  refine seq_any fun _ hK5 => ?_
  refine rp0 hst3 hfr3 (.cons rfl (ob_lss rfl rfl) <| .nil) ?_
  intro a4 w4 m4 hst4 hle4 hk4
  have hfr4 := hk4.fr (T' := [(8, _), (0, _), (1, _), (7, _), (9, _)]) (.old rfl rfl <| .old rfl rfl <| .old rfl rfl <| .old rfl rfl <| .new rfl <| .nil)
  replace h_l := h_l.mono hle4
  have hlh4 := hlh3.trans hle4
  clear hst3 hfr3 hk4
  refine hK5 _ _ ?_; clear hK5
  refine seq_any fun _ hK6 => ?_
  refine cond_any hfr4 rfl rfl (fun hb9 => ?_) (fun hb9 => ?_)
  · try simp only [nq1, nq2, nq3, nq4, nq5, nq6, nq7, nq8, nq9, u8_eq] at hb9
    refine wp_skip ?_
    refine hK6 _ _ ?_; clear hK6
    refine seq_any fun _ hK7 => ?_
    refine wp_block ?_
    refine seq_any fun _ hK8 => ?_
    refine rp0 hst4 hfr4 (.cons rfl (ob_move rfl) <| .cons rfl (ob_assign rfl) <| .nil) ?_
    intro a5 w5 m5 hst5 hle5 hk5
    have hfr5 := hk5.fr (T' := [(8, _), (0, _), (1, _), (7, _), (5, _)]) (.old rfl rfl <| .old rfl rfl <| .old rfl rfl <| .old rfl rfl <| .new rfl <| .nil)
    replace h_l := h_l.mono hle5
    have hlh5 := hlh4.trans hle5
    clear hst4 hfr4 hk5
    refine hK8 _ _ ?_; clear hK8
    refine seq_any fun _ hK9 => ?_
    obtain ⟨p10, vs10, x10, ho10, hd10, hm_x10, ht10, hcv10, hl10, hv10⟩ := h_l.nth (k := y) (by omega)
    cases ho10
    subst hv10
    try rw [hd10] at hrem
    try simp only [idxA] at hrem
    refine rp0 hst5 hfr5 (.cons rfl (ob_move rfl) <| .cons rfl (ob_move rfl) <| .cons rfl (ob_move rfl) <| .cons rfl (ob_indexAddr (k := y) rfl rfl Try.underlying27 Try.sizeOf9 rfl (by omega)) <| .cons rfl (ob_load1' rfl hcv10 Try.isAgg9 rfl) <| .cons rfl (ob_seql rfl rfl) <| .nil) ?_
    intro a6 w6 m6 hst6 hle6 hk6
    have hfr6 := hk6.fr (T' := [(8, _), (0, _), (1, _), (7, _), (5, _), (16, _)]) (.old rfl rfl <| .old rfl rfl <| .old rfl rfl <| .old rfl rfl <| .old rfl rfl <| .new rfl <| .nil)
    have hlh6 := hlh5.trans hle6
    clear hst5 hfr5 hk6
    refine hK9 _ _ ?_; clear hK9
    refine cond_any hfr6 rfl rfl (fun hb16 => ?_) (fun hb16 => ?_)
    · try simp only [nq1, nq2, nq3, nq4, nq5, nq6, nq7, nq8, nq9, u8_eq] at hb16
      refine seq_any fun _ hK11 => ?_
      refine rp0 hst6 hfr6 (.cons rfl (ob_move rfl) <| .cons rfl (ob_assign rfl) <| .nil) ?_
      intro a7 w7 m7 hst7 hle7 hk7
      have hfr7 := hk7.fr (T' := [(8, _), (4, _)]) (.old rfl rfl <| .new rfl <| .nil)
      have hlh7 := hlh6.trans hle7
      clear hst6 hfr6 hk7
      refine hK11 _ _ ?_; clear hK11
      refine wp_ret ?_
      repeat (with_reducible first | refine then_ret ?_ | refine block_ret ?_)
      exact fn_ret hst7 hfr7 rfl (.tmp rfl <| .nil) (by refine congrArg (Value.int _) ?_; simp_all)
    · try simp only [nq1, nq2, nq3, nq4, nq5, nq6, nq7, nq8, nq9, u8_eq] at hb16
      refine wp_skip ?_
      refine hK7 _ _ ?_; clear hK7
      refine rp0 hst6 hfr6 (.cons rfl (ob_add rfl rfl ⟨by omega, by omega⟩) <| .cons rfl (ob_move rfl) <| .nil) ?_
      intro a7 w7 m7 hst7 hle7 hk7
      have hfr7 := hk7.fr (T' := [(0, _), (1, _), (7, _), (8, _)]) (.old rfl rfl <| .old rfl rfl <| .old rfl rfl <| .new rfl <| .nil)
      have hlh7 := hlh6.trans hle7
      clear hst6 hfr6 hk7
      exact ⟨y + 1, m7, by show l.length - (y + 1) < l.length - y; omega, ⟨hst7, hlh7, hfr7.sub (.cons rfl <| .cons rfl <| .cons rfl <| .cons rfl <| .nil), ⟨by show y + 1 ≤ l.length; omega, by simp_all⟩⟩⟩
  · try simp only [nq1, nq2, nq3, nq4, nq5, nq6, nq7, nq8, nq9, u8_eq] at hb9
    have hge : y = l.length := by omega
    rw [List.drop_of_length_le (by omega)] at hrem
    simp only [idxA] at hrem
    refine wp_exit ?_
    refine hK2 _ _ ?_; clear hK2
    refine seq_any fun _ hK13 => ?_
    refine rp0 hst4 hfr4 (.cons rfl (ob_assign rfl) <| .nil) ?_
    intro a5 w5 m5 hst5 hle5 hk5
    have hfr5 := hk5.fr (T' := [(8, _), (4, _)]) (.old rfl rfl <| .new rfl <| .nil)
    have hlh5 := hlh4.trans hle5
    clear hst4 hfr4 hk5
    refine hK13 _ _ ?_; clear hK13
    refine wp_ret ?_
    repeat (with_reducible first | refine then_ret ?_ | refine block_ret ?_)
    exact fn_ret hst5 hfr5 rfl (.tmp rfl <| .nil) (by refine congrArg (Value.int _) ?_; simp_all)

set_option maxHeartbeats 400000 in
theorem containsS_c {w : World} {m : Mem} {o_l : Option Addr} {c_l : Nat} {l : List Str} {s : Str} (hA : Agree w m) (h_l : Strs m o_l l.length c_l l) : FnV Try.prog 42 #[.slice o_l l.length c_l, S s] w m (fun _ _ v => v = .bool (decide (s ∈ l))) := by
  have hb_l := h_l.big; have hc_l := h_l.cap
  refine fn_enter (vs := [_, _]) Try.func42 rfl rfl rfl fun a0 hfr0 => ?_
  have hst0 := st_enter hA (loc_nil [] _ w m)
  have hM : MLe m m := MLe.refl m
  refine seq_any fun _ hK1 => ?_
  refine rp0 hst0 hfr0 (.cons rfl (ob_assign rfl) <| .nil) ?_
  intro a1 w1 m1 hst1 hle1 hk1
  have hfr1 := hk1.fr (T' := [(0, _), (1, _)]) (.old rfl rfl <| .old rfl rfl <| .nil)
  replace h_l := h_l.mono hle1
  clear hst0 hfr0 hk1
  refine hK1 _ _ ?_; clear hK1
  refine seq_any fun _ hK2 => ?_
  refine rp0 hst1 hfr1 (.cons rfl (ob_move rfl) <| .cons rfl (ob_move rfl) <| .cons rfl (ob_callE rfl (.cons rfl <| .cons rfl <| .nil) Try.call55 (fun w m hK => by have hle_ := KC.le hK; have hA := KC.agree hK; have h_l := h_l.mono hle_; exact indexS_c hA (by first | assumption | omega | simp_all))) <| .cons rfl (ob_geq rfl rfl) <| .cons rfl (ob_assign rfl) <| .nil) ?_
  intro a2 w2 m2 hst2 hle2 hk2
  have hfr2 := hk2.fr (T' := [(4, _)]) (.new rfl <| .nil)
  clear hst1 hfr1 hk2
  refine hK2 _ _ ?_; clear hK2
  refine wp_ret ?_
  repeat (with_reducible first | refine then_ret ?_ | refine block_ret ?_)
  exact fn_ret hst2 hfr2 rfl (.tmp rfl <| .nil) (by refine congrArg Value.bool ?_; exact decide_eq_decide.2 (idxA_mem s l 0))

abbrev free3_G (t : Tm) : Prop := ∀ {w : World} {m : Mem} {vs_t : List Value} (hA : Agree w m) (h_t : TmR m t vs_t) (hsh : ShT t) (hb : countM t ≤ 1000000000), FnV Try.prog 31 #[.agg vs_t.toArray] w m (fun _ m v => (MP.usesV t).p m v)
set_option maxHeartbeats 1600000 in
theorem free3_s {t : Tm} (ihk : ∀ u ∈ t.kids, free3_G u) (iha : ∀ a ∈ t.arms, free3_G a.body) {w : World} {m : Mem} {vs_t : List Value} (hA : Agree w m) (h_t : TmR m t vs_t) (hsh : ShT t) (hb : countM t ≤ 1000000000) : FnV Try.prog 31 #[.agg vs_t.toArray] w m (fun _ m v => (MP.usesV t).p m v) := by
  obtain ⟨⟨oK_t, cK_t, oA_t, cA_t, oR_t, cR_t, t0_t, t1_t, t2_t, t3_t, t4_t, t5_t, u0_t, u1_t, u2_t, u3_t, u4_t, u5_t⟩, rfl, hon_t, hkk_t, haa_t, hrr_t⟩ := h_t.open_
  dsimp only at hkk_t haa_t hrr_t
  have hbg_t := hkk_t.big; have hcp_t := hkk_t.cap; have hbh_t := haa_t.big; have hcq_t := haa_t.cap
  refine fn_enterM (vs := [_]) Try.func31 rfl rfl fun a0 hfr0 => ?_
  have hst0 := st_enter hA (loc_nil [] _ w m)
  have hM : MLe m m := MLe.refl m
  refine seq_any fun _ hK1 => ?_
  refine rp0 hst0 hfr0 (.cons rfl (ob_box rfl rfl) <| .cons rfl (ob_assign rfl) <| .nil) ?_
  intro a1 w1 m1 hst1 hle1 hk1
  have hfr1 := hk1.fr (T' := [(0, _), (2, _)]) (.old rfl rfl <| .new rfl <| .nil)
  obtain ⟨g2, e2, hc1⟩ := hk1.ex 1 rfl
  replace hfr1 := hfr1.cons e2
  replace h_t := h_t.mono hle1
  clear hst0 hfr0 hk1
  refine hK1 _ _ ?_; clear hK1
  refine seq_any fun _ hK3 => ?_
  refine seq_any fun _ hK4 => ?_
  refine rp0 hst1 hfr1 (.cons rfl (ob_fieldAddrO (off := 0) rfl Try.underlying33 rfl rfl Try.sizeOf3 rfl) <| .cons rfl (ob_load1 rfl hc1 Try.isAgg3 rfl) <| .cons rfl (ob_eql rfl rfl) <| .nil) ?_
  intro a2 w2 m2 hst2 hle2 hk2
  have hfr2 := hk2.fr (T' := [(0, _), (2, _), (1, _), (10, _)]) (.old rfl rfl <| .old rfl rfl <| .old rfl rfl <| .new rfl <| .nil)
  replace h_t := h_t.mono hle2
  replace hc1 := hc1.mono hle2
  clear hst1 hfr1 hk2
  refine hK4 _ _ ?_; clear hK4
  refine cond_any hfr2 rfl rfl (fun hb10 => ?_) (fun hb10 => ?_)
  · try simp only [nq1, nq2, nq3, nq4, nq5, nq6, nq7, nq8, nq9, u8_eq] at hb10
    refine seq_any fun _ hK5 => ?_
    replace hst2 := hst2.more (r := .free) trivial List.nodup_nil (by simp [Res.blocks])
    refine region_seq (tch := [(0, 0, (fun v => .map v _)), (3, 0, (fun v => .map v _))]) hst2 hfr2 (by kernel_rfl) (by kernel_rfl) (by kernel_rfl) (.consT rfl rfl (fun _ => rfl) rfl (ob_makeMapK S) <| .cons rfl (ob_fieldAddrO (off := 2) rfl Try.underlying33 rfl rfl Try.sizeOf9 rfl) <| .cons rfl (ob_load1 rfl hc1 Try.isAgg9 rfl) <| .consT rfl rfl (fun _ => rfl) rfl (ob_insertF keys_S rfl rfl rfl Try.underlying62 Try.underlying9) <| .consA 11 rfl rfl <| .consA 14 rfl rfl <| .nil) ?_
    intro a3 w3 m3 hst3 hle3 hk3
    have hfr3 := hk3.fr (T' := [(0, _), (1, _)]) (.old rfl rfl <| .old rfl rfl <| .nil)
    obtain ⟨gn9, e6, _⟩ := hk3.ex 11 rfl
    replace hfr3 := hfr3.cons e6
    have es7 := hk3.same 14 rfl e6
    replace hfr3 := hfr3.cons (hk3.same 2 rfl es7)
    replace hst3 := hst3.fin (L' := [_]) (.cons e6 <| .cons e6 <| .nil)
    clear hst2 hfr2 hk3
    obtain ⟨m4, hle4, hst4, gF_a9, eF_a9, hm_a9⟩ := hst3.freezeMap (k := 0) rfl
    simp only [List.set_cons_succ, List.set_cons_zero] at hst4
    injection eF_a9 with eF_a9; injection eF_a9 with eF_a9; subst eF_a9
    have hfr4 := hfr3; obtain ⟨a4, rfl⟩ : ∃ a, a = a3 := ⟨_, rfl⟩; obtain ⟨w4, rfl⟩ : ∃ w, w = w3 := ⟨_, rfl⟩
    clear hst3 hfr3
    refine hK5 _ _ ?_; clear hK5
    refine wp_ret ?_
    repeat (with_reducible first | refine then_ret ?_ | refine block_ret ?_)
    exact fn_retM0 hst4 hfr4 rfl (.tmp rfl <| .nil) (⟨(_, [(t.name, 1)]), rfl, hm_a9, ⟨by simp, fun s => by rw [usesM_eq, if_pos hb10]; simp only [alook]; by_cases e : s = t.name; (subst e; simp); have e9 : ¬ t.name = s := (fun h => e h.symm); simp [e, e9]⟩⟩)
  · try simp only [nq1, nq2, nq3, nq4, nq5, nq6, nq7, nq8, nq9, u8_eq] at hb10
    refine wp_skip ?_
    refine hK3 _ _ ?_; clear hK3
    refine seq_any fun _ hK9 => ?_
    refine region_cut 1 (by kernel_rfl) ?_
    replace hst2 := hst2.more (r := .free) trivial List.nodup_nil (by simp [Res.blocks])
    refine ops_seq (tch := [(0, 0, (fun v => .map v _))]) hst2 hfr2 (by kernel_rfl) (by kernel_rfl) (by kernel_rfl) (.consT rfl rfl (fun _ => rfl) rfl (ob_makeMapK S) <| .nil) ?_
    intro a3 w3 m3 hst3 hle3 hk3
    have hfr3 := hk3.fr (T' := [(0, _), (2, _), (1, _)]) (.old rfl rfl <| .old rfl rfl <| .old rfl rfl <| .nil)
    obtain ⟨gm9, e10, _⟩ := hk3.ex 15 rfl
    replace hfr3 := hfr3.cons e10
    replace hst3 := hst3.fin (L' := [_]) (.cons e10 <| .nil)
    replace h_t := h_t.mono hle3
    replace hc1 := hc1.mono hle3
    clear hst2 hfr2 hk3
    replace hst3 := hst3.more (r := .free) trivial List.nodup_nil (by simp [Res.blocks])
    refine ops_seq (tch := [(0, 1, (fun v => .blk v _)), (1, 1, (fun v => .blk v _))]) hst3 hfr3 (by kernel_rfl) (by kernel_rfl) (by kernel_rfl) (.consT rfl rfl (fun _ => rfl) rfl (ob_allocL Try.zeroValue62 rfl) <| .consT rfl rfl (fun _ => rfl) rfl (ob_imgT 3 rfl rfl rfl fun y3 => ob_storeF rfl rfl rfl rfl rfl Try.sizeOf62 rfl rfl rfl) <| .nil) ?_
    intro a4 w4 m4 hst4 hle4 hk4
    have hfr4 := hk4.fr (T' := [(0, _), (2, _), (1, _), (15, _)]) (.old rfl rfl <| .old rfl rfl <| .old rfl rfl <| .old rfl rfl <| .nil)
    obtain ⟨gt9, e11, _⟩ := hk4.ex 3 rfl
    replace hfr4 := hfr4.cons e11
    replace hst4 := hst4.fin (L' := [_, _]) (.cons e11 <| .cons e11 <| .nil)
    try simp only [List.take_succ_cons, List.take_zero, List.drop_succ_cons, List.drop_zero, List.cons_append, List.nil_append, List.append_nil, List.length_cons, List.length_nil, Nat.zero_add, Nat.reduceAdd] at hst4
    replace h_t := h_t.mono hle4
    replace hc1 := hc1.mono hle4
    clear hst3 hfr3 hk4
    refine hK9 _ _ ?_; clear hK9
    refine seq_any fun _ hK12 => ?_
    refine seq_any fun _ hK13 => ?_
    refine rp0 hst4 hfr4 (.cons rfl (ob_loadS' rfl hc1 Try.isAgg33 Try.sizeOf33 rfl rfl) <| .cons rfl (ob_call (φ := MP.partsV t) rfl (.cons rfl <| .nil) Try.call41 (fun w m hK => by have hle_ := KC.le hK; have hA := KC.agree hK; have h_t := h_t.mono hle_; exact FnG.mono (parts_c (t := t) hA h_t) fun _ _ _ _ h => h)) <| .nil) ?_
    intro a5 w5 m5 hst5 hle5 hk5
    have hfr5 := hk5.fr (T' := [(0, _), (2, _), (1, _), (15, _), (3, _)]) (.old rfl rfl <| .old rfl rfl <| .old rfl rfl <| .old rfl rfl <| .old rfl rfl <| .nil)
    obtain ⟨⟨gq9, vq9⟩, e14, hq9, htq9⟩ := hk5.ex 17 rfl
    replace hfr5 := hfr5.cons e14
    clear hst4 hfr4 hk5
    refine hK13 _ _ ?_; clear hK13
    refine wp_block ?_
    refine rangeFunc_any (T := [(0, _), (2, _), (1, _), (15, _), (3, _), (17, _)]) (fun (y : (List (Str × Int))) => ([.map (.map (some gm9)) (encs S (encW intW y)), _] : List Res)) ((partsT t).length) (PartY t) (fun i (y : (List (Str × Int))) m => (fun (ml : List (Str × Int)) => (UsesL (preU ((partsT t).take i)) ml)) y) (fun (y : (List (Str × Int))) m => (fun (ml : List (Str × Int)) => (False)) y) ([]) hst5 (hfr5.sub (.cons rfl <| .cons rfl <| .cons rfl <| .cons rfl <| .cons rfl <| .cons rfl <| .nil)) rfl Try.call53 ⟨by decide, by decide⟩ (fun _ _ _ _ _ h => h) (fun _ _ _ _ h => h) (UsesL.nil (fun s => by simp [preU])) (parts_iter hq9 htq9) (fun i hi y w6 m6 args l rc hle6 hY hrel _ => ?_) (fun y D l rc a6 w6 m6 hst6 hle6 hrel hfr6 => ?_) (fun y D l rc a6 w6 m6 hst6 hle6 hrel hfr6 => ?_)
    · obtain ⟨ml, rfl⟩ : ∃ z, z = y := ⟨_, rfl⟩
      have hU9 := hrel
      clear hst5 hfr5
      obtain ⟨u, lb, vsu, ob, cb, rfl, hu, hlb, hat⟩ := hY
      have hpu : (u, lb) ∈ partsT t := List.mem_of_getElem? hat
      have hcu := count_part hpu; have hsu := sh_part hsh hpu
      dsimp only at hcu hsu
      have ihu : free3_G u := by rcases parts_sub hpu with h | ⟨a, ha, e⟩; exact ihk _ h; (have h9 : free3_G a.body := iha _ ha; rw [e] at h9; exact @h9)
      have hpl9 := preU_le (t := t) i
      obtain ⟨⟨oK_u, cK_u, oA_u, cA_u, oR_u, cR_u, t0_u, t1_u, t2_u, t3_u, t4_u, t5_u, u0_u, u1_u, u2_u, u3_u, u4_u, u5_u⟩, rfl, hon_u, hkk_u, haa_u, hrr_u⟩ := hu.open_
      dsimp only at hkk_u haa_u hrr_u
      have hbg_u := hkk_u.big; have hcp_u := hkk_u.cap; have hbh_u := haa_u.big; have hcq_u := haa_u.cap
      have hbl_u := hlb.big; have hcl_u := hlb.cap
      refine ⟨rfl, fun G1 a6 hfr6 hst6 _ hKrf => ?_⟩
      replace hfr6 : Fr _ [(18, _), (19, _), (0, _), (2, _), (1, _), (15, _), (3, _), (17, _)] a6 := hfr6
      replace hst6 : St G1 w6 m6 [_, _, _] w6 m6 := hst6
      refine seq_any fun _ hK15 => ?_
      replace hst6 := hst6.more (r := .free) trivial List.nodup_nil (by simp [Res.blocks])
      refine ra0 (tch := [(0, 3, (fun v => .blk v _)), (1, 3, (fun v => .blk v _))]) hst6 hfr6 (.consT rfl rfl (fun _ => rfl) rfl (ob_allocL Try.zeroValue33 rfl) <| .consT rfl rfl (fun _ => rfl) rfl (ob_imgT 4 rfl rfl rfl fun y4 => ob_storeF rfl rfl rfl rfl rfl Try.sizeOf33 rfl rfl hu.one) <| .nil) ?_
      intro a7 w7 m7 hst7 hle7 hk7
      have hfr7 := hk7.fr (T' := [(18, _), (19, _), (0, _), (2, _), (1, _), (15, _), (3, _), (17, _)]) (.old rfl rfl <| .old rfl rfl <| .old rfl rfl <| .old rfl rfl <| .old rfl rfl <| .old rfl rfl <| .old rfl rfl <| .old rfl rfl <| .nil)
      obtain ⟨g16, e16, _⟩ := hk7.ex 4 rfl
      replace hfr7 := hfr7.cons e16
      replace hst7 := hst7.fin (L' := [_, _, _, _]) (.cons e16 <| .cons e16 <| .nil)
      try simp only [List.take_succ_cons, List.take_zero, List.drop_succ_cons, List.drop_zero, List.cons_append, List.nil_append, List.append_nil, List.length_cons, List.length_nil, Nat.zero_add, Nat.reduceAdd] at hst7
      replace hu := hu.mono hle7
      replace hlb := hlb.mono hle7
      clear hst6 hfr6 hk7
      refine hK15 _ _ ?_; clear hK15
      refine rp0 hst7 hfr7 (.cons rfl (ob_assign rfl) <| .nil) ?_
      intro a8 w8 m8 hst8 hle8 hk8
      have hfr8 := hk8.fr (T' := [(18, _), (19, _), (0, _), (2, _), (1, _), (15, _), (3, _), (17, _), (4, _), (5, _)]) (.old rfl rfl <| .old rfl rfl <| .old rfl rfl <| .old rfl rfl <| .old rfl rfl <| .old rfl rfl <| .old rfl rfl <| .old rfl rfl <| .old rfl rfl <| .new rfl <| .nil)
      replace hu := hu.mono hle8
      replace hlb := hlb.mono hle8
      clear hst7 hfr7 hk8
      refine hKrf _ _ _ [_, _, _, _] 2 hst8 rfl fun w9 hst9 => ?_; clear hKrf
      simp only [List.set_cons_succ, List.set_cons_zero] at hst9
      have hfr9 := hfr8; obtain ⟨a9, rfl⟩ : ∃ a, a = a8 := ⟨_, rfl⟩; obtain ⟨m9, rfl⟩ : ∃ m, m = m8 := ⟨_, rfl⟩; clear hst8 hfr8
      refine wp_block ?_
      refine seq_any fun _ hK17 => ?_
      refine region_cut 2 (by kernel_rfl) ?_
      refine ops_seq (tch := []) hst9 hfr9 (by kernel_rfl) (by kernel_rfl) (by kernel_rfl) (.cons rfl (ob_loadLA (j := 3) rfl rfl Try.isAgg33 Try.sizeOf33 rfl) <| .cons rfl (ob_call (φ := MP.usesV u) rfl (.cons rfl <| .nil) Try.call31 (fun w m hK => by have hle_ := KC.le hK; have hA := KC.agree hK; have hu := hu.mono hle_; exact FnG.mono (ihu hA hu hsu (by omega)) fun _ _ _ _ h => h)) <| .nil) ?_
      intro a10 w10 m10 hst10 hle10 hk10
      have hfr10 := hk10.fr (T' := [(18, _), (19, _), (0, _), (2, _), (1, _), (15, _), (3, _), (17, _), (4, _), (5, _)]) (.old rfl rfl <| .old rfl rfl <| .old rfl rfl <| .old rfl rfl <| .old rfl rfl <| .old rfl rfl <| .old rfl rfl <| .old rfl rfl <| .old rfl rfl <| .old rfl rfl <| .nil)
      obtain ⟨⟨gu9, lu⟩, e18, hmu9, hlu9⟩ := hk10.ex 21 rfl
      replace hfr10 := hfr10.cons e18
      replace hlb := hlb.mono hle10
      clear hst9 hfr9 hk10
      have hrv19 := hmu9.rangeV
      replace hst10 := hst10.more (r := .free) trivial List.nodup_nil (by simp [Res.blocks])
      refine ops_seq (tch := [(0, 4, (fun v => .iter v _ none))]) hst10 hfr10 (by kernel_rfl) (by kernel_rfl) (by kernel_rfl) (.consT rfl rfl (fun _ => rfl) rfl (ob_range rfl Try.underlying62 (fun w m hK => hrv19.mono (KC.le hK))) <| .nil) ?_
      intro a11 w11 m11 hst11 hle11 hk11
      have hfr11 := hk11.fr (T' := [(18, _), (19, _), (0, _), (2, _), (1, _), (15, _), (3, _), (17, _), (4, _), (5, _), (21, _)]) (.old rfl rfl <| .old rfl rfl <| .old rfl rfl <| .old rfl rfl <| .old rfl rfl <| .old rfl rfl <| .old rfl rfl <| .old rfl rfl <| .old rfl rfl <| .old rfl rfl <| .old rfl rfl <| .nil)
      obtain ⟨gr19, e20, _⟩ := hk11.ex 22 rfl
      replace hfr11 := hfr11.cons e20
      replace hst11 := hst11.fin (L' := [_, _, _, _, _]) (.cons e20 <| .nil)
      replace hlb := hlb.mono hle11
      clear hst10 hfr10 hk11
      refine hK17 _ _ ?_; clear hK17
      refine wp_block ?_
      refine loop_any (T := [(18, _), (19, _), (0, _), (2, _), (1, _), (15, _), (3, _), (17, _), (4, _), (5, _), (21, _), (22, _)]) (fun (y : (List (Str × Int)) × (List (Str × Int)) × (Option (Value × Value)) × (List (Str × Int))) => ([] : List (Nat × Value))) (fun y => [.map (.map (some gm9)) (encs S (encW intW y.2.2.2)), _, _, _, .iter (.pointer (some ⟨gr19, 0, none⟩)) (encs S (encW intW y.1)) y.2.2.1]) (fun (y : (List (Str × Int)) × (List (Str × Int)) × (Option (Value × Value)) × (List (Str × Int))) m => (fun (l : List (Str × Int)) (dn : List (Str × Int)) (la : Option (Value × Value)) (mk : List (Str × Int)) => ((dn ++ l).Perm lu) ∧ (UsesL (fun s => preU ((partsT t).take i) s + cameU u lb dn s) mk)) y.1 y.2.1 y.2.2.1 y.2.2.2) (fun y => y.1.length) ((lu, [], none, ml)) ⟨hst11, MLe.refl _, hfr11.sub (.cons rfl <| .cons rfl <| .cons rfl <| .cons rfl <| .cons rfl <| .cons rfl <| .cons rfl <| .cons rfl <| .cons rfl <| .cons rfl <| .cons rfl <| .cons rfl <| .nil), ⟨by simp, hU9.congr (fun s => by rw [cameU_nil]; rfl)⟩⟩ fun y a12 w12 m12 hh12 => ?_
      have hst12 := hh12.st; have hle12 := hh12.le; have hfr12 := hh12.fr; have hrel := hh12.rel; clear hh12
      replace hlb := hlb.mono hle12
      clear hst11 hfr11
      obtain ⟨l, dn, la, mk⟩ := y
      dsimp only at hrel hfr12 hst12
      obtain ⟨hpm, hUm⟩ := hrel
      have hlh12 := hle12
      refine seq_any fun _ hK22 => ?_
      refine region_cut 1 (by kernel_rfl) ?_
      refine ops_seq (tch := [(0, 4, (nextRes _ _))]) hst12 hfr12 (by kernel_rfl) (by kernel_rfl) (by kernel_rfl) (.consT rfl rfl (fun _ => rfl) rfl (ob_next rfl) <| .nil) ?_
      intro a13 w13 m13 hst13 hle13 hk13
      have hfr13 := hk13.fr (T' := [(18, _), (19, _), (0, _), (2, _), (1, _), (15, _), (3, _), (17, _), (4, _), (5, _), (21, _), (22, _)]) (.old rfl rfl <| .old rfl rfl <| .old rfl rfl <| .old rfl rfl <| .old rfl rfl <| .old rfl rfl <| .old rfl rfl <| .old rfl rfl <| .old rfl rfl <| .old rfl rfl <| .old rfl rfl <| .old rfl rfl <| .nil)
      obtain ⟨yn19, e24, hyn19⟩ := hk13.ex 23 rfl
      replace hfr13 := hfr13.cons e24
      replace hst13 := hst13.fin (L' := [_, _, _, _, _]) (.cons e24 <| .nil)
      replace hlb := hlb.mono hle13
      have hlh13 := hlh12.trans hle13
      clear hst12 hfr12 hk13
      rcases yn19 with _ | e9
      · skip
        have hl0 := encW_nil hyn19
        subst hl0
        dsimp only [MP.next, MP.mem, nextV, nextRes] at hst13 hfr13
        refine ops_seq (tch := []) hst13 hfr13 (by kernel_rfl) (by kernel_rfl) (by kernel_rfl) (.cons rfl (ob_extract rfl rfl) <| .nil) ?_
        intro a14 w14 m14 hst14 hle14 hk14
        have hfr14 := hk14.fr (T' := [(18, _), (19, _), (0, _), (2, _), (1, _), (15, _), (3, _), (17, _), (4, _), (5, _), (21, _), (22, _), (23, _), (24, _)]) (.old rfl rfl <| .old rfl rfl <| .old rfl rfl <| .old rfl rfl <| .old rfl rfl <| .old rfl rfl <| .old rfl rfl <| .old rfl rfl <| .old rfl rfl <| .old rfl rfl <| .old rfl rfl <| .old rfl rfl <| .old rfl rfl <| .new rfl <| .nil)
        have hlh14 := hlh13.trans hle14
        clear hst13 hfr13 hk14
        refine hK22 _ _ ?_; clear hK22
        refine seq_any fun _ hK25 => ?_
        refine cond_any hfr14 rfl rfl (fun hb24 => ?_) (fun hb24 => ?_)
        · exact absurd hb24 (by simp)
        · try simp only [nq1, nq2, nq3, nq4, nq5, nq6, nq7, nq8, nq9, u8_eq] at hb24
          have hUk9 : UsesL (preU ((partsT t).take (i + 1))) mk := hUm.congr (fun s => by rw [preU_take hat, cameU_all hlu9 (by simpa using hpm)])
          refine wp_exit ?_
          repeat (with_reducible first | refine then_exit ?_ | refine block_exit ?_ | refine block_normal ?_)
          exact RoundQ.next (mk) (n0 := 2) (k := 2) hst14 rfl rfl rfl (hUk9)
      · skip
        obtain ⟨k9, x9, l8, rfl, hp9, he9, hl8⟩ := encW_next hyn19
        dsimp only [MP.next, MP.mem, nextV, nextRes] at hst13 hfr13
        rw [he9] at hst13
        refine ops_seq (tch := []) hst13 hfr13 (by kernel_rfl) (by kernel_rfl) (by kernel_rfl) (.cons rfl (ob_extract rfl rfl) <| .nil) ?_
        intro a14 w14 m14 hst14 hle14 hk14
        have hfr14 := hk14.fr (T' := [(18, _), (19, _), (0, _), (2, _), (1, _), (15, _), (3, _), (17, _), (4, _), (5, _), (21, _), (22, _), (23, _), (24, _)]) (.old rfl rfl <| .old rfl rfl <| .old rfl rfl <| .old rfl rfl <| .old rfl rfl <| .old rfl rfl <| .old rfl rfl <| .old rfl rfl <| .old rfl rfl <| .old rfl rfl <| .old rfl rfl <| .old rfl rfl <| .old rfl rfl <| .new rfl <| .nil)
        replace hlb := hlb.mono hle14
        have hlh14 := hlh13.trans hle14
        clear hst13 hfr13 hk14
        refine hK22 _ _ ?_; clear hK22
        refine seq_any fun _ hK26 => ?_
        refine cond_any hfr14 rfl rfl (fun hb24 => ?_) (fun hb24 => ?_)
        · try simp only [nq1, nq2, nq3, nq4, nq5, nq6, nq7, nq8, nq9, u8_eq] at hb24
          refine wp_skip ?_
          refine hK26 _ _ ?_; clear hK26
          refine wp_block ?_
          refine seq_any fun _ hK27 => ?_
          refine rp0 hst14 hfr14 (.cons rfl (ob_entry (j := 4) rfl rfl) <| .cons rfl (ob_extract rfl rfl) <| .cons rfl (ob_extract rfl rfl) <| .cons rfl (ob_assign rfl) <| .cons rfl (ob_assign rfl) <| .nil) ?_
          intro a15 w15 m15 hst15 hle15 hk15
          have hfr15 := hk15.fr (T' := [(18, _), (19, _), (0, _), (2, _), (1, _), (15, _), (3, _), (17, _), (4, _), (5, _), (21, _), (22, _), (23, _), (6, _), (7, _)]) (.old rfl rfl <| .old rfl rfl <| .old rfl rfl <| .old rfl rfl <| .old rfl rfl <| .old rfl rfl <| .old rfl rfl <| .old rfl rfl <| .old rfl rfl <| .old rfl rfl <| .old rfl rfl <| .old rfl rfl <| .old rfl rfl <| .new rfl <| .new rfl <| .nil)
          replace hlb := hlb.mono hle15
          have hlh15 := hlh14.trans hle15
          clear hst14 hfr14 hk15
          have hn9 := nodup_came ((hp9.symm.append_left dn).trans hpm) hlu9.nodup
          obtain ⟨hx9, hx0⟩ := hlu9.at_ (hpm.mem_iff.1 (List.mem_append_right _ (hp9.mem_iff.2 (.head _))))
          have hle9 := usesM_le k9 u; have hpk9 := hpl9 k9
          have hck9 : cameU u lb dn k9 = 0 := by simp [cameU, hn9]
          refine hK27 _ _ ?_; clear hK27
          refine seq_any fun _ hK28 => ?_
          refine rp0 hst15 hfr15 (.cons rfl (ob_move rfl) <| .cons rfl (ob_seql rfl rfl) <| .cons rfl (ob_move rfl) <| .cons rfl (ob_move rfl) <| .cons rfl (ob_move rfl) <| .cons rfl (ob_callE rfl (.cons rfl <| .cons rfl <| .nil) Try.call42 (fun w m hK => by have hle_ := KC.le hK; have hA := KC.agree hK; have hlb := hlb.mono hle_; exact containsS_c (l := lb) (s := k9) hA hlb)) <| .cons rfl (ob_not rfl) <| .cons rfl (ob_or rfl rfl rfl) <| .nil) ?_
          intro a16 w16 m16 hst16 hle16 hk16
          have hfr16 := hk16.fr (T' := [(18, _), (19, _), (0, _), (2, _), (1, _), (15, _), (3, _), (17, _), (4, _), (5, _), (21, _), (22, _), (23, _), (6, _), (7, _), (35, _)]) (.old rfl rfl <| .old rfl rfl <| .old rfl rfl <| .old rfl rfl <| .old rfl rfl <| .old rfl rfl <| .old rfl rfl <| .old rfl rfl <| .old rfl rfl <| .old rfl rfl <| .old rfl rfl <| .old rfl rfl <| .old rfl rfl <| .old rfl rfl <| .old rfl rfl <| .new rfl <| .nil)
          have hlh16 := hlh15.trans hle16
          clear hst15 hfr15 hk16
          refine hK28 _ _ ?_; clear hK28
          refine cond_any hfr16 rfl rfl (fun hb35 => ?_) (fun hb35 => ?_)
          · try simp only [nq1, nq2, nq3, nq4, nq5, nq6, nq7, nq8, nq9, u8_eq] at hb35
            have hc9 : k9 = uS ∨ ¬ k9 ∈ lb := by simpa [uS] using hb35
            refine region_seq (tch := [(5, 0, (fun _ => .map _ _))]) hst16 hfr16 (by kernel_rfl) (by kernel_rfl) (by kernel_rfl) (.cons rfl (ob_loadL' (j := 1) rfl rfl Try.isAgg62 rfl) <| .cons rfl (ob_move rfl) <| .cons rfl (ob_lookup1 (j := 0) keys_S rfl rfl rfl Try.underlying62 Try.underlying9 Try.zeroValue3 ((by rw [encW_look, show (alook k9 mk).map intW = _ from rfl]; exact (by have h := hUm.got k9; cases he : alook k9 mk <;> simp [he] at h ⊢ <;> (first | omega | exact h)) : (alook k9 (encW intW mk)).getD (.int .i64 0) = .int .i64 ((preU ((partsT t).take i) k9 + cameU u lb dn k9 : Nat) : Int)))) <| .cons rfl (ob_move rfl) <| .cons rfl (ob_add rfl rfl ⟨by omega, by omega⟩) <| .consT rfl rfl (fun _ => rfl) rfl (ob_mapUpdate keys_S rfl rfl rfl Try.underlying62 Try.underlying9) <| .nil) ?_
            intro a17 w17 m17 hst17 hle17 hk17
            have hfr17 := hk17.fr (T' := [(18, _), (19, _), (0, _), (2, _), (1, _), (15, _), (3, _), (17, _), (4, _), (5, _), (21, _), (22, _), (23, _), (6, _), (7, _)]) (.old rfl rfl <| .old rfl rfl <| .old rfl rfl <| .old rfl rfl <| .old rfl rfl <| .old rfl rfl <| .old rfl rfl <| .old rfl rfl <| .old rfl rfl <| .old rfl rfl <| .old rfl rfl <| .old rfl rfl <| .old rfl rfl <| .old rfl rfl <| .old rfl rfl <| .nil)
            replace hst17 := hst17.fin (L' := [_, _, _, _, _]) (.cons rfl <| .nil)
            have hlh17 := hlh16.trans hle17
            clear hst16 hfr16 hk17
            rw [hx9, encW_set] at hst17
            exact ⟨(l8, (dn ++ [(k9, x9)]), _, (aset k9 (((preU ((partsT t).take i) k9 + cameU u lb dn k9 : Nat) : Int) + (usesM k9 u : Int)) mk)), m17, by show l8.length < l.length; omega, ⟨hst17, hlh17, hfr17.sub (.cons rfl <| .cons rfl <| .cons rfl <| .cons rfl <| .cons rfl <| .cons rfl <| .cons rfl <| .cons rfl <| .cons rfl <| .cons rfl <| .cons rfl <| .cons rfl <| .nil), ⟨by rw [List.append_assoc]; exact (hp9.symm.append_left dn).trans hpm, hUm.add hx0 (came_add hn9 hc9)⟩⟩⟩
          · try simp only [nq1, nq2, nq3, nq4, nq5, nq6, nq7, nq8, nq9, u8_eq] at hb35
            have hc9 : ¬ (k9 = uS ∨ ¬ k9 ∈ lb) := by simpa [uS] using hb35
            refine wp_skip ?_
            exact ⟨(l8, (dn ++ [(k9, x9)]), _, mk), m16, by show l8.length < l.length; omega, ⟨hst16, hlh16, hfr16.sub (.cons rfl <| .cons rfl <| .cons rfl <| .cons rfl <| .cons rfl <| .cons rfl <| .cons rfl <| .cons rfl <| .cons rfl <| .cons rfl <| .cons rfl <| .cons rfl <| .nil), ⟨by rw [List.append_assoc]; exact (hp9.symm.append_left dn).trans hpm, hUm.congr (came_skip hn9 hc9)⟩⟩⟩
        · exact absurd hb24 (by simp)
    · obtain ⟨ml, rfl⟩ : ∃ z, z = y := ⟨_, rfl⟩
      have hU9 := hrel
      clear hst5 hfr5
      replace hst6 : St _ _ _ [_, _, recR l rc, dblk D] w6 m6 := hst6
      refine hK12 _ _ ?_; clear hK12
      refine seq_any fun _ hK29 => ?_
      refine rp0 hst6 hfr6 (.cons rfl (ob_loadL' (j := 1) rfl rfl Try.isAgg62 rfl) <| .cons rfl (ob_assign rfl) <| .nil) ?_
      intro a7 w7 m7 hst7 hle7 hk7
      have hfr7 := hk7.fr (T' := [(0, _), (1, _), (15, _), (3, _), (17, _), (2, _)]) (.old rfl rfl <| .old rfl rfl <| .old rfl rfl <| .old rfl rfl <| .old rfl rfl <| .new rfl <| .nil)
      clear hst6 hfr6 hk7
      obtain ⟨m8, hle8, hst8, gF_b9, eF_b9, hm_b9⟩ := hst7.freezeMap (k := 0) rfl
      simp only [List.set_cons_succ, List.set_cons_zero] at hst8
      injection eF_b9 with eF_b9; injection eF_b9 with eF_b9; subst eF_b9
      have hfr8 := hfr7; obtain ⟨a8, rfl⟩ : ∃ a, a = a7 := ⟨_, rfl⟩; obtain ⟨w8, rfl⟩ : ∃ w, w = w7 := ⟨_, rfl⟩
      clear hst7 hfr7
      refine hK29 _ _ ?_; clear hK29
      refine wp_ret ?_
      repeat (with_reducible first | refine then_ret ?_ | refine block_ret ?_)
      exact fn_retM hst8 (k := 3) rfl hfr8 rfl (fun w hstE => .tmp rfl <| .nil) (fun w => ⟨(gm9, ml), rfl, hm_b9, hU9.congr (fun s => by rw [List.take_of_length_le (Nat.le_refl _)]; exact parts_uses hsh hb10 s)⟩)
    · exact hrel.elim
theorem free3_c (t : Tm) : free3_G t := Tm.rec_ (p := free3_G) (fun t ihk iha => free3_s ihk iha) t

end Go.Proofs.Ytppmbhjacjmfkaa
