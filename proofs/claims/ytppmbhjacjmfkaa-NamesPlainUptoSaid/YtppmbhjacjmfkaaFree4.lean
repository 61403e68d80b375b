/-
  Names: those that stand free, in order; how often one stands. Conditions: those of each theorem.
-/
import Derived.Test.YtppmbhjacjmfkaaFree3
import Derived.Test.YtppmbhjacjmfkaaShelf
namespace Go.Proofs.Ytppmbhjacjmfkaa
set_option linter.all false
set_option maxRecDepth 4000
open Go.RowKit
/-- A row's labels in order. -/
def isSortedS : List Str → Bool
  | a :: b :: r => !Op.bytesLess b a && isSortedS (b :: r)
  | _ => true
theorem insM_sorted : ∀ {l : List Str} {s : Str}, (l.Pairwise (· < ·)) → (insM l s).Pairwise (· < ·) ∧ ∀ x, x ∈ insM l s ↔ x ∈ l ∨ x = s
  | [], s, _ => by simp [insM]
  | y :: l, s, h => by
    rw [List.pairwise_cons] at h
    obtain ⟨h1, h2⟩ := insM_sorted (s := s) h.2
    rw [insM]
    by_cases hl : Op.bytesLess y s = true
    · rw [if_pos hl]
      rw [bytesLess_eq, decide_eq_true_eq] at hl
      refine ⟨List.pairwise_cons.2 ⟨fun x hx => ?_, h1⟩, fun x => by rw [List.mem_cons, h2, List.mem_cons]; exact ⟨fun h => h.elim (fun e => .inl (.inl e)) (fun h => h.elim (fun e => .inl (.inr e)) .inr), fun h => h.elim (fun h => h.elim .inl (fun h => .inr (.inl h))) (fun h => .inr (.inr h))⟩⟩
      rcases (h2 x).1 hx with hx | rfl
      · exact h.1 x hx
      · exact hl
    · rw [if_neg hl]
      by_cases he : y = s
      · rw [if_pos he]; subst he
        exact ⟨List.pairwise_cons.2 h, fun x => ⟨.inl, fun h => h.elim id (fun e => by subst e; exact .head _)⟩⟩
      · rw [if_neg he]
        have hlt : s < y := by
          have hn : ¬ y < s := fun hh => hl (by rw [bytesLess_eq]; exact decide_eq_true hh)
          have := List.not_lt.1 hn
          rcases List.le_iff_lt_or_eq.1 this with h | h
          · exact h
          · exact absurd h.symm he
        refine ⟨List.pairwise_cons.2 ⟨fun x hx => ?_, List.pairwise_cons.2 h⟩, fun x => by simp only [List.mem_cons]; exact ⟨fun h => h.elim .inr .inl, fun h => h.elim .inr .inl⟩⟩
        rcases List.mem_cons.1 hx with rfl | hx
        · exact hlt
        · exact List.lt_trans hlt (h.1 x hx)
theorem joinM_sorted : ∀ {b a : List Str}, a.Pairwise (· < ·) → (joinM a b).Pairwise (· < ·) ∧ ∀ x, x ∈ joinM a b ↔ x ∈ a ∨ x ∈ b
  | [], a, h => ⟨h, fun x => by simp [joinM]⟩
  | s :: b, a, h => by
    obtain ⟨h1, h2⟩ := insM_sorted (s := s) h
    obtain ⟨h3, h4⟩ := joinM_sorted (b := b) h1
    refine ⟨h3, fun x => ?_⟩
    show x ∈ joinM (insM a s) b ↔ _
    rw [h4, h2, List.mem_cons, or_assoc]
theorem nameT_law (t : Tm) : (nameT t).Pairwise (· < ·) ∧ ∀ s, 0 < usesM s t → s ∈ nameT t := by
  induction t using Tm.rec_ with
  | h t ihk iha =>
    have hk : ∀ (l : List Tm), (∀ u ∈ l, u ∈ t.kids) → ∀ (a : List Str) (f : Nat → List Str) (i : Nat), a.Pairwise (· < ·) → (nameKs a l).Pairwise (· < ·) ∧ ∀ s, (s ∈ a ∨ 0 < usesKs s f i l) → s ∈ nameKs a l := by
      intro l
      induction l with
      | nil => intro _ a f i ha; exact ⟨by rw [nameKs]; exact ha, fun s h => by rw [nameKs]; exact h.elim id (fun h => by rw [usesKs] at h; omega)⟩
      | cons u l ih =>
        intro hl a f i ha
        obtain ⟨h1, h2⟩ := joinM_sorted (b := nameT u) ha
        obtain ⟨h3, h4⟩ := ih (fun v hv => hl v (.tail _ hv)) (joinM a (nameT u)) f (i + 1) h1
        refine ⟨by rw [nameKs]; exact h3, fun s h => ?_⟩
        rw [nameKs]
        refine h4 s ?_
        rw [usesKs] at h
        rcases h with h | h
        · exact .inl ((h2 s).2 (.inl h))
        · by_cases h0 : 0 < usesM s u
          · exact .inl ((h2 s).2 (.inr ((ihk u (hl u (.head _))).2 s h0)))
          · right; split at h <;> omega
    have hr : ∀ (l : List Ar), (∀ u ∈ l, u ∈ t.arms) → ∀ (a : List Str), a.Pairwise (· < ·) → (nameAs a l).Pairwise (· < ·) ∧ ∀ s, (s ∈ a ∨ 0 < usesAs s l) → s ∈ nameAs a l := by
      intro l
      induction l with
      | nil => intro _ a ha; exact ⟨by rw [nameAs]; exact ha, fun s h => by rw [nameAs]; exact h.elim id (fun h => by rw [usesAs] at h; omega)⟩
      | cons u l ih =>
        intro hl a ha
        obtain ⟨h1, h2⟩ := joinM_sorted (b := nameT u.body) ha
        obtain ⟨h3, h4⟩ := ih (fun v hv => hl v (.tail _ hv)) (joinM a (nameT u.body)) h1
        refine ⟨by rw [nameAs_cons]; exact h3, fun s h => ?_⟩
        rw [nameAs_cons]
        refine h4 s ?_
        rw [usesAs_cons] at h
        rcases h with h | h
        · exact .inl ((h2 s).2 (.inl h))
        · by_cases h0 : 0 < usesM s u.body
          · exact .inl ((h2 s).2 (.inr ((iha u (hl u (.head _))).2 s h0)))
          · right; split at h <;> omega
    obtain ⟨h1, h2⟩ := hk t.kids (fun _ h => h) [] (boundR t.kind t.name t.param) 0 .nil
    obtain ⟨h3, h4⟩ := hr t.arms (fun _ h => h) _ h1
    refine ⟨?_, fun s h => ?_⟩
    · rw [nameT_eq]; split
      · simp
      · exact h3
    · rw [usesM_eq] at h; rw [nameT_eq]
      split at h
      · rename_i hk1; rw [if_pos hk1]; split at h
        · rename_i e; simp [e]
        · omega
      · rename_i hk1; rw [if_neg hk1]
        rcases Nat.lt_or_ge 0 (usesKs s (boundR t.kind t.name t.param) 0 t.kids) with h5 | h5
        · exact h4 s (.inl (h2 s (.inr h5)))
        · exact h4 s (.inr (by omega))
theorem mem_free (t : Tm) (s : Str) : s ∈ freeT t ↔ 0 < usesM s t := by
  unfold freeT
  rw [List.mem_filter, decide_eq_true_eq]
  exact ⟨fun h => h.2, fun h => ⟨(nameT_law t).2 s h, h⟩⟩
theorem alook_perm {κ α : Type} [DecidableEq κ] {l k : List (κ × α)} (h : l.Perm k) (hn : (k.map Prod.fst).Nodup) (s : κ) : alook s l = alook s k := by
  have hl : (l.map Prod.fst).Nodup := (h.map Prod.fst).nodup_iff.2 hn
  cases e : alook s k with
  | none => rw [alook_none_iff] at e ⊢; rwa [(h.map Prod.fst).mem_iff]
  | some x =>
    have hm : (s, x) ∈ k := by
      have key : ∀ {k : List (κ × α)}, alook s k = some x → (s, x) ∈ k := by
        intro k
        induction k with
        | nil => intro h; cases h
        | cons p k ih =>
          obtain ⟨k', y⟩ := p
          intro h
          simp only [alook] at h
          split at h
          · rename_i e; subst e; injection h with h; subst h; exact .head _
          · exact .tail _ (ih h)
      exact key e
    exact alook_of_memN hl (h.mem_iff.2 hm)
theorem nodup_len {α : Type} [DecidableEq α] : ∀ {l k : List α}, l.Nodup → (∀ x ∈ l, x ∈ k) → l.length ≤ k.length
  | [], _, _, _ => Nat.zero_le _
  | x :: l, k, hn, h => by
    rw [List.nodup_cons] at hn
    have hx := h x (.head _)
    have := nodup_len (l := l) (k := k.erase x) hn.2 fun y hy => (List.mem_erase_of_ne (fun e : y = x => hn.1 (by rw [← e]; exact hy))).2 (h y (.tail _ hy))
    rw [List.length_erase_of_mem hx] at this
    have := List.length_pos_of_mem hx
    simp only [List.length_cons]; omega
theorem uses_len {t : Tm} {l : List (Str × Int)} (h : UsesL (fun s => usesM s t) l) : l.length ≤ countM t := by
  have h1 : (l.map Prod.fst).length ≤ (nameT t).length := nodup_len h.nodup fun s hs => (nameT_law t).2 s (by have := (h.mem s).1 hs; omega)
  have := nameT_len t
  simp only [List.length_map] at h1; omega
theorem freeT_lt (t : Tm) : (freeT t).Pairwise (· < ·) := (nameT_law t).1.sublist List.filter_sublist
theorem mrow_of_owns {w w' : World} {m : Mem} {e : TypeId} {size n : Nat} {v : Value} {xs : List Value} (ha : Agree w m) (h : w'.ownsRow w.heap.size e size v n xs) (hb : Below w.heap.size w w') : Touch .free (.mrow v n size e xs) w m w' m := by
  obtain ⟨hl, h⟩ := h
  rcases h with ⟨rfl, rfl⟩ | ⟨g, cap, cur, rfl, hg, hh, h1, h2, h3, h4⟩
  · exact ⟨(ExtG.of_below ha hb).mono (by simp), ⟨hl, none, 0, rfl, Nat.le_refl _, Nat.zero_le _, .inl rfl⟩, List.nodup_nil, fun g hg => by cases hg⟩
  · exact mrow_new ha hl h1 h2 h3 h4 hb hg hh
theorem put_heap {w w' : World} {g k : Nat} {f : Array Value → Array Value} {os : Array Obj} {cur : Array Value} {e : TypeId} (hh : w.heap[g]? = some (.cells cur e (0, 0))) (hw : w' = Go.Sort.grow (Go.Sort.mapBlock (Go.Sort.ahead w k) g f) os) :
    w'.heap[g]? = some (.cells (f cur) e (0, 0)) ∧ w'.os = w.os ∧ w'.tape = w.tape ∧ w'.output = w.output ∧ w.heap.size ≤ w'.heap.size ∧ ∀ b, b < w.heap.size → b ≠ g → w'.heap[b]? = w.heap[b]? := by
  have hg : g < w.heap.size := lt_of_heap hh
  subst hw
  refine ⟨?_, rfl, rfl, rfl, by simp [Go.Sort.grow, Go.Sort.mapBlock, Go.Sort.ahead], fun b hb hne => ?_⟩
  · simp only [Go.Sort.grow, Go.Sort.mapBlock, Go.Sort.ahead]
    rw [Array.getElem?_append_left (by simpa using hg), Array.getElem?_modify, if_pos rfl, hh]; rfl
  · simp only [Go.Sort.grow, Go.Sort.mapBlock, Go.Sort.ahead]
    rw [Array.getElem?_append_left (by simpa using hb), Array.getElem?_modify, if_neg (Ne.symm hne)]
theorem putCells_take {α : Type} [Inhabited α] (enc : α → Value) (d : List α) (c : Array Value) (h : d.length ≤ c.size) : (Go.Sort.putCells enc 0 d.toArray c).toList.take d.length = d.map enc := by
  apply List.ext_getElem?
  intro i
  rw [List.getElem?_take, List.getElem?_map]
  split
  · rename_i hi
    have h1 : i < c.size := by omega
    simp only [Go.Sort.putCells, Array.getElem?_toList, Array.getElem?_mapIdx, List.size_toArray, Nat.zero_le, Nat.zero_add, true_and, if_pos hi, Nat.sub_zero, Array.getElem?_eq_getElem h1, Option.map_some]
    rw [getElem!_pos d.toArray i (by simpa using hi), List.getElem?_eq_getElem hi]; simp
  · rename_i hi
    rw [List.getElem?_eq_none (by omega)]; rfl
theorem putCells_size {α : Type} [Inhabited α] (enc : α → Value) (o : Nat) (d : Array α) (c : Array Value) : (Go.Sort.putCells enc o d c).size = c.size := by simp [Go.Sort.putCells]
theorem holds_row {w : World} {g : Nat} {cur : Array Value} {e : TypeId} {l : List Str} (hh : w.heap[g]? = some (.cells cur e (0, 0))) (ht : cur.toList.take (l.length * 1) = l.map S) (hl : l.length ≤ cur.size) : Go.Sort.Holds S w g 0 l.toArray := by
  intro j hj
  have hj' : j < l.length := by simpa using hj
  have h1 : cur[j]? = some (S l[j]) := by
    have h2 := congrArg (fun q => q[j]?) ht
    simp only [List.getElem?_take, Nat.mul_one, if_pos hj', List.getElem?_map, List.getElem?_eq_getElem hj', Option.map_some, Array.getElem?_toList] at h2
    exact h2
  refine ⟨?_, ?_⟩
  · unfold World.cell?; simp only [hh, Nat.zero_add, h1]
    rw [getElem!_pos l.toArray j hj]; simp
  · unfold World.frozen?; simp [hh]
def sortS (l : List Str) : List Str := l.mergeSort fun x y => decide (x ≤ y)

theorem sortS_t {w : World} {m : Mem} {o : Option Addr} {cap : Nat} {l : List Str} (hA : Agree w m) (hr : (Res.mrow (.slice o l.length cap) l.length 1 9 (l.map S)).holds w m) (hsz : l.length < 4611686018427387904) :
    Calls Try.prog 32 #[.slice o l.length cap] w fun e w' => ∃ v m', e = .returned v ∧ Touch (.mrow (.slice o l.length cap) l.length 1 9 (l.map S)) (.mrow (.slice o l.length cap) l.length 1 9 ((sortS l).map S)) w m w' m' ∧ (Kn.ex MP.any).holds m' v := by
  by_cases h0 : l.length = 0
  · obtain rfl : l = [] := List.eq_nil_of_length_eq_zero h0
    refine Calls.mono (Try.slices_Sort_string_none o cap w) fun e w' ⟨e1, e2⟩ => ⟨_, m, e1, ?_, _, rfl, trivial⟩
    subst e2
    exact ⟨ExtG.refl _ hA, by simpa [sortS] using hr, mrow_nodup _ _ _ _ _, fun g hg => .inl hg⟩
  · obtain ⟨hlen, o', cap', e1, hnc, hcm, h⟩ := hr
    injection e1 with e1 e2 e3; subst e1; subst e3
    rcases h with h | ⟨g, cur, rfl, hh, h3, h4, h5⟩
    · omega
    · refine Calls.mono (Try.slices_Sort_string g 0 cap l w (holds_row hh h4 (by omega)) (lt_of_heap hh) hsz) fun e w' ⟨e1, k, os, e2⟩ => ⟨_, m, e1, ?_, _, rfl, trivial⟩
      obtain ⟨p1, p2, p3, p4, p5, p6⟩ := put_heap hh e2
      have hsl : (sortS l).length = l.length := by simp [sortS]
      refine mrow_write hA (by omega) hcm hh h5 hnc (by simp [hsl]) p1 (by rw [putCells_size]; exact h3) ?_ p2 p3 p4 p5 p6
      have := putCells_take S (sortS l) cur (by omega)
      rw [hsl] at this
      rw [Nat.mul_one]; exact this
theorem less_le (a b : Str) : (!Op.bytesLess b a) = decide (a ≤ b) := by
  rw [bytesLess_eq, ← decide_not, decide_eq_decide]; exact List.not_lt
theorem sorted_iff : ∀ l : List Str, isSortedS l = true ↔ l.Pairwise (· ≤ ·)
  | [] => by simp [isSortedS]
  | [a] => by simp [isSortedS]
  | a :: b :: r => by
    have ih := sorted_iff (b :: r)
    rw [isSortedS, Bool.and_eq_true, less_le, decide_eq_true_eq, ih, List.pairwise_cons (l := b :: r)]
    constructor
    · rintro ⟨h1, h2⟩
      refine ⟨fun x hx => ?_, h2⟩
      rcases List.mem_cons.1 hx with rfl | hx
      · exact h1
      · exact List.le_trans h1 ((List.pairwise_cons.1 h2).1 x hx)
    · rintro ⟨h1, h2⟩
      exact ⟨h1 b (.head _), h2⟩
theorem sortS_perm (l : List Str) : (sortS l).Perm l := List.mergeSort_perm l _
theorem sortS_pw (l : List Str) : (sortS l).Pairwise (· ≤ ·) := by
  have h := List.pairwise_mergeSort (le := fun x y : Str => decide (x ≤ y)) (fun a b c h1 h2 => by simp only [decide_eq_true_eq] at *; exact List.le_trans h1 h2) (fun a b => by
    rcases List.le_total a b with h | h <;> simp [h]) l
  exact h.imp fun h => by simpa using h
theorem sortS_sorted (l : List Str) : isSortedS (sortS l) = true := (sorted_iff _).2 (sortS_pw l)
theorem perm_sorted {l k : List Str} (h : l.Perm k) (h1 : isSortedS l = true) (h2 : isSortedS k = true) : l = k :=
  List.Perm.eq_of_pairwise (le := (· ≤ ·)) (fun _ _ _ _ a b => List.le_antisymm a b) ((sorted_iff l).1 h1) ((sorted_iff k).1 h2) h
theorem sortS_of_perm {l k : List Str} (h : l.Perm k) : sortS l = sortS k :=
  perm_sorted (((sortS_perm l).trans h).trans (sortS_perm k).symm) (sortS_sorted l) (sortS_sorted k)
theorem sortS_id {l : List Str} (h : isSortedS l = true) : sortS l = l := perm_sorted (sortS_perm l) (sortS_sorted l) h
theorem sortS_len (l : List Str) : (sortS l).length = l.length := (sortS_perm l).length_eq
theorem sortS_mem {l : List Str} {s : Str} : s ∈ sortS l ↔ s ∈ l := (sortS_perm l).mem_iff

theorem lt_sorted {l : List Str} (h : l.Pairwise (· < ·)) : isSortedS l = true := (sorted_iff l).2 (h.imp fun h => List.le_of_lt h)
/-- The names of a map that tells how often each stands, in order. -/
theorem keys_free {t : Tm} {l : List (Str × Int)} (h : UsesL (fun s => usesM s t) l) : sortS (l.map Prod.fst) = freeT t := by
  refine perm_sorted ((sortS_perm _).trans ?_) (sortS_sorted _) (lt_sorted (freeT_lt t))
  refine (List.perm_ext_iff_of_nodup h.nodup ((freeT_lt t).imp fun {a b} h (e : a = b) => by subst e; exact List.lt_irrefl _ h)).2 fun s => ?_
  rw [h.mem s, mem_free]; omega

set_option maxHeartbeats 800000 in
theorem freeF_c {w : World} {m : Mem} {t : Tm} {vs_t : List Value} (hA : Agree w m) (h_t : TmR m t vs_t) (hsh : ShT t) (hb : countM t ≤ 1000000000) : FnV Try.prog 16 #[.agg vs_t.toArray] w m (fun _ m v => (MP.strs (freeT t)).p m v) := by
  obtain ⟨⟨oK_t, cK_t, oA_t, cA_t, oR_t, cR_t, t0_t, t1_t, t2_t, t3_t, t4_t, t5_t, u0_t, u1_t, u2_t, u3_t, u4_t, u5_t⟩, rfl, hon_t, hkk_t, haa_t, hrr_t⟩ := h_t.open_
  dsimp only at hkk_t haa_t hrr_t
  have hbg_t := hkk_t.big; have hcp_t := hkk_t.cap; have hbh_t := haa_t.big; have hcq_t := haa_t.cap
  refine fn_enter (vs := [_]) Try.func16 rfl rfl rfl fun a0 hfr0 => ?_
  have hst0 := st_enter hA (loc_nil [] _ w m)
  have hM : MLe m m := MLe.refl m
  refine seq_any fun _ hK1 => ?_
  refine rp0 hst0 hfr0 (.cons rfl (ob_box rfl rfl) <| .cons rfl (ob_assign rfl) <| .nil) ?_
  intro a1 w1 m1 hst1 hle1 hk1
  have hfr1 := hk1.fr (T' := []) (.nil)
  obtain ⟨g2, e2, hc1⟩ := hk1.ex 1 rfl
  replace hfr1 := hfr1.cons e2
  replace h_t := h_t.mono hle1
  replace hkk_t := hkk_t.mono hle1
  replace haa_t := haa_t.mono hle1
  replace hrr_t := hrr_t.mono hle1
  replace hM := hM.trans hle1
  clear hst0 hfr0 hk1
  refine hK1 _ _ ?_; clear hK1
  refine seq_any fun _ hK3 => ?_
  refine rp0 hst1 hfr1 (.cons rfl (ob_assign rfl) <| .nil) ?_
  intro a2 w2 m2 hst2 hle2 hk2
  have hfr2 := hk2.fr (T' := [(1, _), (3, _)]) (.old rfl rfl <| .new rfl <| .nil)
  replace h_t := h_t.mono hle2
  replace hkk_t := hkk_t.mono hle2
  replace haa_t := haa_t.mono hle2
  replace hrr_t := hrr_t.mono hle2
  replace hc1 := hc1.mono hle2
  replace hM := hM.trans hle2
  clear hst1 hfr1 hk2
  replace hst2 := hst2.more (r := .mrow (.slice none 0 0) 0 1 9 []) mrow_nil List.nodup_nil (by simp [Res.blocks, mBlock])
  refine hK3 _ _ ?_; clear hK3
  refine seq_any fun _ hK4 => ?_
  refine seq_any fun _ hK5 => ?_
  refine region_cut 2 (by kernel_rfl) ?_
  refine ops_seq (tch := []) hst2 hfr2 (by kernel_rfl) (by kernel_rfl) (by kernel_rfl) (.cons rfl (ob_loadS' rfl hc1 Try.isAgg33 Try.sizeOf33 rfl rfl) <| .cons rfl (ob_call (φ := MP.usesV t) rfl (.cons rfl <| .nil) Try.call31 (fun w m hK => by have hle_ := KC.le hK; have hA := KC.agree hK; have h_t := h_t.mono hle_; exact FnG.mono (free3_c t hA h_t hsh hb) fun _ _ _ _ h => h)) <| .nil) ?_
  intro a3 w3 m3 hst3 hle3 hk3
  have hfr3 := hk3.fr (T' := [(1, _), (3, _)]) (.old rfl rfl <| .old rfl rfl <| .nil)
  obtain ⟨⟨gu9, lu⟩, e6, hmu9, hlu9⟩ := hk3.ex 6 rfl
  replace hfr3 := hfr3.cons e6
  replace h_t := h_t.mono hle3
  replace hkk_t := hkk_t.mono hle3
  replace haa_t := haa_t.mono hle3
  replace hrr_t := hrr_t.mono hle3
  replace hc1 := hc1.mono hle3
  replace hM := hM.trans hle3
  clear hst2 hfr2 hk3
  dsimp only at hmu9 hlu9
  have hlen9 := uses_len hlu9
  have hrv7 := hmu9.rangeV
  replace hst3 := hst3.more (r := .free) trivial List.nodup_nil (by simp [Res.blocks])
  refine ops_seq (tch := [(0, 1, (fun v => .iter v _ none))]) hst3 hfr3 (by kernel_rfl) (by kernel_rfl) (by kernel_rfl) (.consT rfl rfl (fun _ => rfl) rfl (ob_range rfl Try.underlying62 (fun w m hK => hrv7.mono (KC.le hK))) <| .nil) ?_
  intro a4 w4 m4 hst4 hle4 hk4
  have hfr4 := hk4.fr (T' := [(1, _), (3, _), (6, _)]) (.old rfl rfl <| .old rfl rfl <| .old rfl rfl <| .nil)
  obtain ⟨gr7, e8, _⟩ := hk4.ex 7 rfl
  replace hfr4 := hfr4.cons e8
  replace hst4 := hst4.fin (L' := [_, _]) (.cons e8 <| .nil)
  replace h_t := h_t.mono hle4
  replace hkk_t := hkk_t.mono hle4
  replace haa_t := haa_t.mono hle4
  replace hrr_t := hrr_t.mono hle4
  replace hc1 := hc1.mono hle4
  replace hmu9 := hmu9.mono hle4
  replace hrv7 := hrv7.mono hle4
  replace hM := hM.trans hle4
  clear hst3 hfr3 hk4
  refine hK5 _ _ ?_; clear hK5
  refine wp_block ?_
  refine loop_any (T := [(7, _)]) (fun (y : (List (Str × Int)) × (List (Str × Int)) × (Option (Value × Value)) × (List Str) × (Option Addr) × (Nat)) => ([(3, .slice y.2.2.2.2.1 y.2.2.2.1.length y.2.2.2.2.2)] : List (Nat × Value))) (fun y => [.mrow (.slice y.2.2.2.2.1 y.2.2.2.1.length y.2.2.2.2.2) y.2.2.2.1.length 1 9 (y.2.2.2.1.map S), .iter (.pointer (some ⟨gr7, 0, none⟩)) (encs S (encW intW y.1)) y.2.2.1]) (fun (y : (List (Str × Int)) × (List (Str × Int)) × (Option (Value × Value)) × (List Str) × (Option Addr) × (Nat)) m => (fun (l : List (Str × Int)) (dn : List (Str × Int)) (la : Option (Value × Value)) (ks : List Str) (og : Option Addr) (cg : Nat) => ((dn ++ l).Perm lu) ∧ (ks = dn.map Prod.fst)) y.1 y.2.1 y.2.2.1 y.2.2.2.1 y.2.2.2.2.1 y.2.2.2.2.2) (fun y => y.1.length) ((lu, [], none, [], none, 0)) ⟨hst4, MLe.refl _, hfr4.sub (.cons rfl <| .cons rfl <| .nil), ⟨by simp, rfl⟩⟩ fun y a5 w5 m5 hh5 => ?_
  have hst5 := hh5.st; have hle5 := hh5.le; have hfr5 := hh5.fr; have hrel := hh5.rel; clear hh5
  replace h_t := h_t.mono hle5
  replace hkk_t := hkk_t.mono hle5
  replace haa_t := haa_t.mono hle5
  replace hrr_t := hrr_t.mono hle5
  replace hc1 := hc1.mono hle5
  replace hmu9 := hmu9.mono hle5
  replace hrv7 := hrv7.mono hle5
  clear hst4 hfr4
  replace hM := hM.trans hle5
  obtain ⟨l, dn, la, ks, og, cg⟩ := y
  dsimp only at hrel hfr5 hst5
  obtain ⟨hpm, hks9⟩ := hrel
  have hlh5 := hle5
  refine seq_any fun _ hK10 => ?_
  refine region_cut 1 (by kernel_rfl) ?_
  refine ops_seq (tch := [(0, 1, (nextRes _ _))]) hst5 hfr5 (by kernel_rfl) (by kernel_rfl) (by kernel_rfl) (.consT rfl rfl (fun _ => rfl) rfl (ob_next rfl) <| .nil) ?_
  intro a6 w6 m6 hst6 hle6 hk6
  have hfr6 := hk6.fr (T' := [(3, _), (7, _)]) (.old rfl rfl <| .old rfl rfl <| .nil)
  obtain ⟨yn7, e12, hyn7⟩ := hk6.ex 8 rfl
  replace hfr6 := hfr6.cons e12
  replace hst6 := hst6.fin (L' := [_, _]) (.cons e12 <| .nil)
  replace h_t := h_t.mono hle6
  replace hkk_t := hkk_t.mono hle6
  replace haa_t := haa_t.mono hle6
  replace hrr_t := hrr_t.mono hle6
  replace hc1 := hc1.mono hle6
  replace hmu9 := hmu9.mono hle6
  replace hrv7 := hrv7.mono hle6
  have hlh6 := hlh5.trans hle6
  replace hM := hM.trans hle6
  clear hst5 hfr5 hk6
  rcases yn7 with _ | e9
  · skip
    have hl0 := encW_nil hyn7
    subst hl0
    dsimp only [MP.next, MP.mem, nextV, nextRes] at hst6 hfr6
    refine ops_seq (tch := []) hst6 hfr6 (by kernel_rfl) (by kernel_rfl) (by kernel_rfl) (.cons rfl (ob_extract rfl rfl) <| .nil) ?_
    intro a7 w7 m7 hst7 hle7 hk7
    have hfr7 := hk7.fr (T' := [(3, _), (7, _), (8, _), (9, _)]) (.old rfl rfl <| .old rfl rfl <| .old rfl rfl <| .new rfl <| .nil)
    replace h_t := h_t.mono hle7
    replace hkk_t := hkk_t.mono hle7
    replace haa_t := haa_t.mono hle7
    replace hrr_t := hrr_t.mono hle7
    replace hc1 := hc1.mono hle7
    replace hmu9 := hmu9.mono hle7
    replace hrv7 := hrv7.mono hle7
    have hlh7 := hlh6.trans hle7
    replace hM := hM.trans hle7
    clear hst6 hfr6 hk7
    refine hK10 _ _ ?_; clear hK10
    refine seq_any fun _ hK13 => ?_
    refine cond_any hfr7 rfl rfl (fun hb9 => ?_) (fun hb9 => ?_)
    · exact absurd hb9 (by simp)
    · try simp only [nq1, nq2, nq3, nq4, nq5, nq6, nq7, nq8, nq9, u8_eq] at hb9
      have hpm9 : dn.Perm lu := by simpa using hpm
      refine wp_exit ?_
      refine hK4 _ _ ?_; clear hK4
      refine seq_any fun _ hK14 => ?_
      have hfin9 : sortS ks = freeT t := by rw [hks9]; exact keys_free ⟨(hpm9.map Prod.fst).nodup_iff.2 hlu9.nodup, fun s => by rw [alook_perm hpm9 hlu9.nodup]; exact hlu9.look s⟩
      have hkl9 : ks.length = dn.length := by rw [hks9, List.length_map]
      have hdl9 := hpm9.length_eq
      refine ra0 (tch := [(1, 0, (fun _ => .mrow (.slice og ks.length cg) ks.length 1 9 ((sortS ks).map S)))]) hst7 hfr7 (.cons rfl (ob_move rfl) <| .consT rfl rfl (fun _ => rfl) rfl (ob_callT rfl (.cons rfl <| .nil) Try.call32 (κ := .ex (MP.any)) (fun σ w m hK hr hkn => by have hle_ := KC.le hK; have hA := KC.agree hK; have hM := hM.trans hle_; have h_t := h_t.mono hle_; have hkk_t := hkk_t.mono hle_; have haa_t := haa_t.mono hle_; have hrr_t := hrr_t.mono hle_; have hc1 := hc1.mono hle_; have hmu9 := hmu9.mono hle_; have hrv7 := hrv7.mono hle_; exact sortS_t hA hr (by omega))) <| .nil) ?_
      intro a8 w8 m8 hst8 hle8 hk8
      have hfr8 := hk8.fr (T' := [(3, _)]) (.old rfl rfl <| .nil)
      obtain ⟨_, e15, _⟩ := hk8.ex 17 rfl
      replace hst8 := hst8.fin (L' := [_, _]) (.cons e15 <| .nil)
      have hlh8 := hlh7.trans hle8
      clear hst7 hfr7 hk8
      obtain ⟨m9, hle9, hst9, oF_q, cF_q, eF_q, hcF_q, hmF_q, hrow_q⟩ := hst8.freeze (k := 0) rfl
      simp only [List.set_cons_succ, List.set_cons_zero] at hst9
      have hfr9 := hfr8; obtain ⟨a9, rfl⟩ : ∃ a, a = a8 := ⟨_, rfl⟩; obtain ⟨w9, rfl⟩ : ∃ w, w = w8 := ⟨_, rfl⟩
      have hlh9 := hlh8.trans hle9
      clear hst8 hfr8
      obtain ⟨rfl, rfl⟩ : og = oF_q ∧ cg = cF_q := by injection eF_q with q1 q2 q3; exact ⟨q1, q3⟩
      have hsq : Strs m9 og (freeT t).length cg (freeT t) := by rw [← hfin9]; exact Sl.of_row (f := fun x => [S x]) (by rw [List.map_eq_flatMap] at hrow_q; exact hrow_q) rfl (by rw [sortS_len]; exact hcF_q) (by rw [sortS_len]; omega) (by omega) fun _ _ => ⟨rfl, rfl⟩
      have hfl9 : ks.length = (freeT t).length := by rw [← hfin9, sortS_len]
      rw [hfl9] at hfr9
      refine hK14 _ _ ?_; clear hK14
      refine seq_any fun _ hK16 => ?_
      refine rp0 hst9 hfr9 (.cons rfl (ob_move rfl) <| .cons rfl (ob_assign rfl) <| .nil) ?_
      intro a10 w10 m10 hst10 hle10 hk10
      have hfr10 := hk10.fr (T' := [(3, _), (2, _)]) (.old rfl rfl <| .new rfl <| .nil)
      replace hsq := hsq.mono hle10
      have hlh10 := hlh9.trans hle10
      clear hst9 hfr9 hk10
      refine hK16 _ _ ?_; clear hK16
      refine wp_ret ?_
      repeat (with_reducible first | refine then_ret ?_ | refine block_ret ?_)
      exact fn_ret hst10 hfr10 rfl (.tmp rfl <| .nil) (⟨(og, cg), rfl, hsq⟩)
  · skip
    obtain ⟨k9, x9, l8, rfl, hp9, he9, hl8⟩ := encW_next hyn7
    dsimp only [MP.next, MP.mem, nextV, nextRes] at hst6 hfr6
    rw [he9] at hst6
    refine ops_seq (tch := []) hst6 hfr6 (by kernel_rfl) (by kernel_rfl) (by kernel_rfl) (.cons rfl (ob_extract rfl rfl) <| .nil) ?_
    intro a7 w7 m7 hst7 hle7 hk7
    have hfr7 := hk7.fr (T' := [(3, _), (7, _), (8, _), (9, _)]) (.old rfl rfl <| .old rfl rfl <| .old rfl rfl <| .new rfl <| .nil)
    have hlh7 := hlh6.trans hle7
    clear hst6 hfr6 hk7
    refine hK10 _ _ ?_; clear hK10
    refine seq_any fun _ hK18 => ?_
    refine cond_any hfr7 rfl rfl (fun hb9 => ?_) (fun hb9 => ?_)
    · try simp only [nq1, nq2, nq3, nq4, nq5, nq6, nq7, nq8, nq9, u8_eq] at hb9
      refine wp_skip ?_
      refine hK18 _ _ ?_; clear hK18
      refine wp_block ?_
      refine seq_any fun _ hK19 => ?_
      refine rp0 hst7 hfr7 (.cons rfl (ob_entry (j := 1) rfl rfl) <| .cons rfl (ob_extract rfl rfl) <| .cons rfl (ob_assign rfl) <| .nil) ?_
      intro a8 w8 m8 hst8 hle8 hk8
      have hfr8 := hk8.fr (T' := [(3, _), (7, _), (4, _)]) (.old rfl rfl <| .old rfl rfl <| .new rfl <| .nil)
      have hlh8 := hlh7.trans hle8
      clear hst7 hfr7 hk8
      have hkl9 : ks.length = dn.length := by rw [hks9, List.length_map]
      have hdl9 := hpm.length_eq
      rw [List.length_append] at hdl9
      have hp9l := hp9.length_eq
      simp only [List.length_cons] at hp9l
      refine hK19 _ _ ?_; clear hK19
      refine ra0 (tch := [(3, 0, (fun v => .mrow v _ _ _ _))]) hst8 hfr8 (.cons rfl (ob_move rfl) <| .cons rfl (ob_move rfl) <| .cons rfl (ob_buildSlice (.cons rfl <| .nil) Try.underlying27 Try.sizeOf9 Try.zeroValue9 rfl rfl rfl rfl) <| .consT rfl rfl (fun _ => rfl) rfl (ob_imgT 14 rfl rfl rfl fun y14 => ob_appendW (news := [S k9]) (size := 1) (bytes := 16) rfl rfl Try.underlying27 Try.type9 rfl rfl rfl rfl (fun w m hK => .inr ⟨_, rfl, hK.2⟩) rfl (by decide) (by decide) rfl (by simp only [maxLen]; omega) (by omega)) <| .consA 15 rfl rfl <| .nil) ?_
      intro a9 w9 m9 hst9 hle9 hk9
      have hfr9 := hk9.fr (T' := [(7, _)]) (.old rfl rfl <| .nil)
      obtain ⟨⟨oz9, cz9⟩, e20, _⟩ := hk9.ex 15 rfl
      replace hfr9 := hfr9.cons (hk9.same 3 rfl e20)
      replace hst9 := hst9.fin (L' := [_, _]) (.cons e20 <| .nil)
      have hlh9 := hlh8.trans hle9
      clear hst8 hfr8 hk9
      have he9l : ks.length + 1 = (ks ++ [k9]).length := by simp
      have he9m : ks.map S ++ [S k9] = (ks ++ [k9]).map S := by simp
      dsimp only [MP.mem] at hst9 hfr9
      rw [he9m, he9l] at hst9
      rw [he9l] at hfr9
      exact ⟨(l8, (dn ++ [(k9, x9)]), _, (ks ++ [k9]), oz9, cz9), m9, by show l8.length < l.length; omega, ⟨hst9, hlh9, hfr9.sub (.cons rfl <| .cons rfl <| .nil), ⟨by rw [List.append_assoc]; exact (hp9.symm.append_left dn).trans hpm, by rw [hks9]; simp⟩⟩⟩
    · exact absurd hb9 (by simp)

set_option maxHeartbeats 400000 in
theorem usesP_c {w : World} {m : Mem} {t : Tm} {vs_t : List Value} {s : Str} (hA : Agree w m) (h_t : TmR m t vs_t) (hsh : ShT t) (hb : countM t ≤ 1000000000) : FnV Try.prog 17 #[.agg vs_t.toArray, S s] w m (fun _ _ v => v = .int .i64 (usesM s t : Int)) := by
  obtain ⟨⟨oK_t, cK_t, oA_t, cA_t, oR_t, cR_t, t0_t, t1_t, t2_t, t3_t, t4_t, t5_t, u0_t, u1_t, u2_t, u3_t, u4_t, u5_t⟩, rfl, hon_t, hkk_t, haa_t, hrr_t⟩ := h_t.open_
  dsimp only at hkk_t haa_t hrr_t
  have hbg_t := hkk_t.big; have hcp_t := hkk_t.cap; have hbh_t := haa_t.big; have hcq_t := haa_t.cap
  refine fn_enter (vs := [_, _]) Try.func17 rfl rfl rfl fun a0 hfr0 => ?_
  have hst0 := st_enter hA (loc_nil [] _ w m)
  have hM : MLe m m := MLe.refl m
  refine seq_any fun _ hK1 => ?_
  refine rp0 hst0 hfr0 (.cons rfl (ob_box rfl rfl) <| .cons rfl (ob_assign rfl) <| .nil) ?_
  intro a1 w1 m1 hst1 hle1 hk1
  have hfr1 := hk1.fr (T' := [(1, _)]) (.old rfl rfl <| .nil)
  obtain ⟨g2, e2, hc2⟩ := hk1.ex 2 rfl
  replace hfr1 := hfr1.cons e2
  replace h_t := h_t.mono hle1
  clear hst0 hfr0 hk1
  refine hK1 _ _ ?_; clear hK1
  refine seq_any fun _ hK3 => ?_
  refine region_cut 2 (by kernel_rfl) ?_
  refine ops_seq (tch := []) hst1 hfr1 (by kernel_rfl) (by kernel_rfl) (by kernel_rfl) (.cons rfl (ob_loadS' rfl hc2 Try.isAgg33 Try.sizeOf33 rfl rfl) <| .cons rfl (ob_call (φ := MP.usesV t) rfl (.cons rfl <| .nil) Try.call31 (fun w m hK => by have hle_ := KC.le hK; have hA := KC.agree hK; have h_t := h_t.mono hle_; exact FnG.mono (free3_c t hA h_t hsh hb) fun _ _ _ _ h => h)) <| .nil) ?_
  intro a2 w2 m2 hst2 hle2 hk2
  have hfr2 := hk2.fr (T' := [(1, _), (2, _)]) (.old rfl rfl <| .old rfl rfl <| .nil)
  obtain ⟨⟨gu9, lu⟩, e4, hmu9, hlu9⟩ := hk2.ex 6 rfl
  replace hfr2 := hfr2.cons e4
  clear hst1 hfr1 hk2
  dsimp only at hmu9 hlu9
  refine ops_seq (tch := []) hst2 hfr2 (by kernel_rfl) (by kernel_rfl) (by kernel_rfl) (.cons rfl (ob_move rfl) <| .cons rfl (ob_lookupM1 keys_S rfl rfl (fun w m hK => hmu9.mono (KC.le hK)) Try.underlying62 Try.underlying9 Try.zeroValue3 ((by rw [encW_look]; exact (by have h := hlu9.got s; cases he : alook s lu <;> simp [he] at h ⊢ <;> (first | omega | exact h)) : (alook s (encW intW lu)).getD (.int .i64 0) = .int .i64 (usesM s t : Int)))) <| .cons rfl (ob_assign rfl) <| .nil) ?_
  intro a3 w3 m3 hst3 hle3 hk3
  have hfr3 := hk3.fr (T' := [(1, _), (2, _), (6, _), (4, _)]) (.old rfl rfl <| .old rfl rfl <| .old rfl rfl <| .new rfl <| .nil)
  clear hst2 hfr2 hk3
  refine hK3 _ _ ?_; clear hK3
  refine wp_ret ?_
  repeat (with_reducible first | refine then_ret ?_ | refine block_ret ?_)
  exact fn_ret hst3 hfr3 rfl (.tmp rfl <| .nil) (rfl)

end Go.Proofs.Ytppmbhjacjmfkaa
