/-
  Maps whose values are plain (ints, truths): lookups of one result, loops over them. Conditions: those of each lemma; no program occurs here.
-/
import Derived.Test.YtlihpgjabohebaaDoorMapt
namespace Go.Proofs.YtlihpgjabohebaaDoor
set_option linter.all false
open Go.RowKit Go.MapKept
def encW {κ α : Type} (f : α → Value) (l : List (κ × α)) : List (κ × Value) := l.map fun p => (p.1, f p.2)
theorem encW_look {κ α : Type} [DecidableEq κ] (f : α → Value) (k : κ) : ∀ l : List (κ × α), alook k (encW f l) = (alook k l).map f
  | [] => rfl
  | (k', x) :: l => by
    have ih := encW_look f k l
    simp only [encW, List.map_cons, alook] at ih ⊢
    split
    · rfl
    · exact ih
theorem encW_set {κ α : Type} [DecidableEq κ] (f : α → Value) (k : κ) (x : α) : ∀ l : List (κ × α), aset k (f x) (encW f l) = encW f (aset k x l)
  | [] => rfl
  | (k', y) :: l => by
    have ih := encW_set f k x l
    simp only [encW, List.map_cons, aset] at ih ⊢
    split
    · rfl
    · rw [List.map_cons, ih]
/-- What comes next is one of the things that are left. -/
theorem encW_next {κ α : Type} {ek : κ → Value} {f : α → Value} {e : Value × Value} : ∀ {l : List (κ × α)}, e ∈ encs ek (encW f l) →
    ∃ k x l', e = (ek k, f x) ∧ l.Perm ((k, x) :: l') ∧ eraseV e (encs ek (encW f l)) = encs ek (encW f l') ∧ l'.length + 1 = l.length
  | [], h => by cases h
  | (k, x) :: l, h => by
    by_cases hc : (ek k, f x) = e
    · exact ⟨k, x, l, hc.symm, .refl _, by simp only [encs, encW, List.map_cons]; unfold eraseV; rw [if_pos hc], rfl⟩
    · have h' : e ∈ encs ek (encW f l) := by
        simp only [encs, encW, List.map_cons] at h
        rcases List.mem_cons.1 h with h | h
        · exact absurd h.symm hc
        · exact h
      obtain ⟨k', x', l', e1, h2, h3, h5⟩ := encW_next h'
      refine ⟨k', x', (k, x) :: l', e1, (h2.cons _).trans (.swap _ _ _), ?_, by simp [← h5]⟩
      simp only [encs, encW, List.map_cons] at h3 ⊢
      unfold eraseV; rw [if_neg hc, h3]
theorem encW_nil {κ α : Type} {ek : κ → Value} {f : α → Value} {l : List (κ × α)} (he : encs ek (encW f l) = []) : l = [] := by
  cases l with
  | nil => rfl
  | cons _ _ => cases he
theorem MapAt.rangeV {κ : Type} {ek : κ → Value} {m : Mem} {g : Nat} {es : List (κ × Value)} (h : MapAt ek m g es) : RangeV m (some g) (encs ek es) := by obtain ⟨e, c, h1, h2, h3⟩ := h; exact ⟨e, c, h1, h3, h2⟩
section
variable {P : Program} {K : World → Mem → Prop} {m0 : Mem} {L : List Res} {us : List Nat} {ch : List (Nat × Bool)} {pre : List Ent} {T : List (Nat × Value)}
variable {dst : Option Nat} {ty : TypeId} {pos : String} {af : Array Edge} {gd : Option (Nat × Bool)}
theorem ob_lookup1 [hK : KC K m0 L] {κ : Type} [DecidableEq κ] {enc : κ → Value} {d : TypeDesc} {t kt et : TypeId} {x y : Operand} {k : κ} {g j : Nat} {z v : Value} {es : List (κ × Value)} (hKe : Keys d enc) (hx : ev us ch pre T x = some (.map (some g))) (hy : ev us ch pre T y = some (enc k))
    (hL : L[j]? = some (.map (.map (some g)) (encs enc es))) (hm : P.underlying t = some (.map kt et)) (hd : P.underlying kt = some d) (hz : ∀ w, (zeroValue et).run P w = .ok z w)
    (hv : (alook k es).getD z = v) :
    Ob P K us ch pre T ⟨dst, .lookup t x y false, ty, pos, af, gd⟩ (.eq v) :=
  ob_val fun σ w m hk hn => by
    obtain ⟨g', ents, clock, e1, hh, he, _⟩ := hK.at_ hk hL
    injection e1 with e1; injection e1 with e1; subst e1
    have hf := findNow_enc hKe k ents.toList es 0 he
    have hget : (getObj g).run P w = .ok (.map ents clock) w := by simp [getObj, Sem.run, hh]
    rw [alook_aidx k es 0] at hv
    cases ha : aidx k es 0 with
    | none =>
      rw [ha] at hf hv
      simp only [Option.map_none, Option.getD_none] at hv
      subst hv
      simp [execOp, hn.ev hx, hn.ev hy, Instr.lookup, run_underlying hm, Result.andThen, hget, run_checkKey hd (hKe.key k), run_findKey hd hf, hz]
    | some q =>
      rw [ha] at hf hv
      simp only [Option.map_some, Option.getD_some] at hv
      subst hv
      simp [execOp, hn.ev hx, hn.ev hy, Instr.lookup, run_underlying hm, Result.andThen, hget, run_checkKey hd (hKe.key k), run_findKey hd hf]
theorem ob_lookupM1 [hK : KC K m0 L] {κ : Type} [DecidableEq κ] {enc : κ → Value} {d : TypeDesc} {t kt et : TypeId} {x y : Operand} {k : κ} {g : Nat} {z v : Value} {es : List (κ × Value)} (hKe : Keys d enc) (hx : ev us ch pre T x = some (.map (some g))) (hy : ev us ch pre T y = some (enc k))
    (hM : ∀ w m, K w m → MapAt enc m g es) (hm : P.underlying t = some (.map kt et)) (hd : P.underlying kt = some d) (hz : ∀ w, (zeroValue et).run P w = .ok z w)
    (hv : (alook k es).getD z = v) :
    Ob P K us ch pre T ⟨dst, .lookup t x y false, ty, pos, af, gd⟩ (.eq v) :=
  ob_val fun σ w m hk hn => by
    obtain ⟨ents, clock, hh0, he, -⟩ := hM w m hk
    have hh := (hK.agree hk).map g _ hh0
    have hf := findNow_enc hKe k ents.toList es 0 he
    have hget : (getObj g).run P w = .ok (.map ents clock) w := by simp [getObj, Sem.run, hh]
    rw [alook_aidx k es 0] at hv
    cases ha : aidx k es 0 with
    | none =>
      rw [ha] at hf hv
      simp only [Option.map_none, Option.getD_none] at hv
      subst hv
      simp [execOp, hn.ev hx, hn.ev hy, Instr.lookup, run_underlying hm, Result.andThen, hget, run_checkKey hd (hKe.key k), run_findKey hd hf, hz]
    | some q =>
      rw [ha] at hf hv
      simp only [Option.map_some, Option.getD_some] at hv
      subst hv
      simp [execOp, hn.ev hx, hn.ev hy, Instr.lookup, run_underlying hm, Result.andThen, hget, run_checkKey hd (hKe.key k), run_findKey hd hf]
end
theorem alook_none_iff {κ α : Type} [DecidableEq κ] {k : κ} : ∀ {l : List (κ × α)}, alook k l = none ↔ ¬ k ∈ l.map Prod.fst
  | [] => by simp [alook]
  | (k', x) :: l => by
    have ih := alook_none_iff (k := k) (l := l)
    simp only [alook, List.map_cons, List.mem_cons, not_or]
    by_cases e : k = k'
    · simp [e]
    · simp [e, ih]
theorem alook_of_memN {κ α : Type} [DecidableEq κ] {k : κ} {x : α} : ∀ {l : List (κ × α)}, (l.map Prod.fst).Nodup → (k, x) ∈ l → alook k l = some x
  | (k', y) :: l, hn, h => by
    rw [List.map_cons, List.nodup_cons] at hn
    rcases List.mem_cons.1 h with h | h
    · injection h with h1 h2; subst h1; subst h2; simp [alook]
    · have hne : k ≠ k' := fun e => hn.1 (e ▸ List.mem_map.2 ⟨(k, x), h, rfl⟩)
      simp only [alook, hne, if_false]
      exact alook_of_memN hn.2 h
theorem alook_asetN {κ α : Type} [DecidableEq κ] {k s : κ} {x : α} : ∀ {l : List (κ × α)}, alook s (aset k x l) = if s = k then some x else alook s l
  | [] => by simp only [aset, alook]
  | (k', y) :: l => by
    have ih := alook_asetN (k := k) (s := s) (x := x) (l := l)
    simp only [aset]
    by_cases e : k = k'
    · subst e; simp only [if_true, alook]
      by_cases h : s = k
      · simp [h]
      · simp [h]
    · simp only [e, if_false, alook, ih]
      by_cases h : s = k
      · subst h; simp [e]
      · simp [h]
theorem keys_aset {κ α : Type} [DecidableEq κ] {k : κ} {x : α} : ∀ {l : List (κ × α)}, (aset k x l).map Prod.fst = if k ∈ l.map Prod.fst then l.map Prod.fst else l.map Prod.fst ++ [k]
  | [] => by simp [aset]
  | (k', y) :: l => by
    have ih := keys_aset (k := k) (x := x) (l := l)
    simp only [aset]
    by_cases e : k = k'
    · subst e; simp
    · simp only [e, if_false, List.map_cons, ih, List.mem_cons, false_or]
      split <;> simp
theorem nodup_aset {κ α : Type} [DecidableEq κ] {k : κ} {x : α} {l : List (κ × α)} (h : (l.map Prod.fst).Nodup) : ((aset k x l).map Prod.fst).Nodup := by
  rw [keys_aset]
  split
  · exact h
  · rename_i hk
    rw [List.nodup_append]
    exact ⟨h, by simp, fun a ha b hb e => by simp at hb; subst hb; subst e; exact hk ha⟩
section
variable {P : Program} {K : World → Mem → Prop} {m0 : Mem} {L : List Res} {us : List Nat} {ch : List (Nat × Bool)} {pre : List Ent} {T : List (Nat × Value)}
variable {dst : Option Nat} {ty : TypeId} {pos : String} {af : Array Edge} {gd : Option (Nat × Bool)}
/-- 'append(v, x...)' onto a row of one's own that may be written over. -/
theorem append_touchW {w : World} {m : Mem} {t ty e : TypeId} {i : TypeInfo} {z : Value} {size bytes n k c : Nat} {v : Value} {A : Option Addr} {olds news : List Value} (ht : P.underlying t = some (.slice e)) (hi : P.info? e = some i) (hz : i.zero = some z)
    (hsize : i.size = size) (hby : i.bytes = bytes) (hzs : z.cells.size = size) (ha : Agree w m) (hr : (Res.mrow v n size e olds).holds w m)
    (hx : RowAt m A news) (hl : news.length = k * size) (hsz : 0 < size) (hk : 0 < k) (h1 : ∀ u ∈ news, u.oneCell' = true) (h63 : n + k ≤ maxLen) (hbytes : (n + k) * bytes ≤ 140737488355328) :
    ∃ o cap w', (Builtin.append_ #[t, t] ty #[v, .slice A k c]).run P w = .ok (.slice o (n + k) cap) w' ∧ Touch (.mrow v n size e olds) (.mrow (.slice o (n + k) cap) (n + k) size e (olds ++ news)) w m w' m ∧ n + k ≤ cap := by
  subst hsize; subst hby
  obtain ⟨hlo, o, cap, rfl, hnc, hcm, hr⟩ := hr
  have hlen : (olds ++ news).length = (n + k) * i.size := by rw [List.length_append, hlo, hl, Nat.add_mul]
  have hne : news ≠ [] := fun hh => by
    rw [hh, List.length_nil] at hl
    have := Nat.mul_pos hk hsz; omega
  obtain ⟨ad, rfl, hcell⟩ : ∃ p, A = some p ∧ CellsAt m p news := by
    rcases hx with h | h
    · exact absurd h hne
    · exact h
  have hnews : ∀ j u, news[j]? = some u → w.cell? (ad.add j) = some u := fun j u e => cell_of_cells ha hcell e
  have fresh : ∀ old, old < n + k → Touch .free (.mrow (.slice (some ⟨w.heap.size, 0, none⟩) (n + k) (grownCap w (n + k) old e)) (n + k) i.size e (olds ++ news)) w m
      (w.drew.alloc (.cells (olds.toArray ++ news.toArray ++ Builtin.zeroCells z.cells (grownCap w (n + k) old e - (n + k))) e)) m := fun old ho => by
    have hge := grownCap_ge w (n + k) old e
    refine mrow_new ha hlen hge (grownCap_le_maxLen w (n + k) old e h63) ?_ ?_ (below_da w _) (Nat.le_refl _) (heap_alloc_new w.drew _)
    · simp only [Array.size_append, List.size_toArray, size_zeroCells, hzs, hlo, hl, ← Nat.add_mul]
      congr 1; omega
    · simp only [Array.toList_append, List.append_assoc]
      rw [← List.append_assoc, ← hlen]
      exact List.take_left
  by_cases hroom : n + k ≤ cap
  · rcases hr with rfl | ⟨g, cur, rfl, hh, hcs, htk, hout⟩
    · omega
    · have hfit : n * i.size + news.length ≤ cur.size := by rw [hl, hcs, ← Nat.add_mul]; exact Nat.mul_le_mul_right _ hroom
      have hrun := run_append_room (P := P) w t ty e i ht hi g n cap cur hh ad k c news hl hnews h1 hroom hfit
      have hh' := setRow_heap w g cur (cur.toList.take (n * i.size) ++ news ++ cur.toList.drop (n * i.size + news.length)).toArray e (0, 0) hh
      have htk' : (cur.toList.take (n * i.size) ++ news ++ cur.toList.drop (n * i.size + news.length)).toArray.toList.take ((n + k) * i.size) = olds ++ news := by
        rw [htk, ← hlen]; exact List.take_left
      have hag : Agree (w.setRow g (cur.toList.take (n * i.size) ++ news ++ cur.toList.drop (n * i.size + news.length)).toArray) m := ⟨fun b o u hu => by
        have hb : b ≠ g := fun e => by subst e; rw [hout o] at hu; cases hu
        rw [World.cell?_of_block (setRow_other w g b _ hb)]
        exact ha.cell b o u hu, fun b es e => by
        have h1 := ha.map b es e
        have hb : b ≠ g := fun e => by subst e; rw [hh] at h1; cases h1
        exact (setRow_other w g b _ hb).trans h1⟩
      obtain ⟨c', rfl⟩ : ∃ c', cap = c' + 1 := ⟨cap - 1, by omega⟩
      refine ⟨_, _, _, hrun, ⟨⟨rfl, rfl, rfl, by simp [World.setRow], fun b _ hb => setRow_other w g b _ (fun e => hb (by simp [Res.blocks, mBlock, e])), hag, MLe.refl _, fun b _ hb => ⟨rfl, rfl⟩⟩,
        ⟨hlen, _, c' + 1, rfl, hroom, hcm, .inr ⟨g, _, rfl, hh', ?_, htk', hout⟩⟩, by simp [Res.blocks, mBlock], fun g' hg => .inl hg⟩, hroom⟩
      simp only [List.size_toArray, List.length_append, List.length_take, List.length_drop, Array.length_toList]; omega
  · have hge := grownCap_ge w (n + k) cap e
    have hgrow : ∀ b : Addr, (∀ j u, olds[j]? = some u → w.cell? (b.add j) = some u) → (Builtin.append_ #[t, t] ty #[.slice (some b) n cap, .slice (some ad) k c]).run P w = .ok (.slice (some ⟨w.heap.size, 0, none⟩) (n + k) (grownCap w (n + k) cap e)) (w.drew.alloc (.cells (olds.toArray ++ news.toArray ++ Builtin.zeroCells z.cells (grownCap w (n + k) cap e - (n + k))) e)) := fun b hb =>
      run_append_grow (P := P) w t ty e i z ht hi hz b n cap olds hlo hb ad k c news hl hnews (by omega) (by simp only [maxLen] at h63; omega) (growslice_fits (by omega) hbytes)
    rcases hr with rfl | ⟨g, cur, rfl, hh, hcs, htk, hout⟩
    · obtain rfl : n = 0 := by omega
      have ho : olds = [] := List.eq_nil_of_length_eq_zero (by simpa using hlo)
      subst ho
      cases o with
      | none =>
        have hrun := run_append_nil (P := P) w t ty e i z ht hi hz ad k c news hl hnews (by omega) (by simp only [maxLen] at h63; omega) (by simp only [Nat.zero_add] at hbytes; omega)
        have hf := fresh 0 (by omega)
        simp only [Nat.zero_add, List.nil_append, Array.empty_append] at hf hge ⊢
        exact ⟨_, _, _, hrun, touch_from hf (by simp [Res.blocks]), hge⟩
      | some b => exact ⟨_, _, _, hgrow b (by simp), touch_from (fresh 0 (by omega)) (by simp [Res.blocks]), hge⟩
    · refine ⟨_, _, _, hgrow ⟨g, 0, none⟩ (fun j u e => ?_), touch_from (fresh cap (by omega)) (by simp [Res.blocks]), hge⟩
      rw [← htk] at e
      rw [List.getElem?_take] at e
      split at e
      · exact cell_blk (cs := cur.toList) (fz := (0, 0)) (by simpa using hh) e
      · cases e
/-- .. as an operation. -/
theorem ob_appendW [hK : KC K m0 L] {d : Nat} {t e : TypeId} {i : TypeInfo} {z v : Value} {size bytes n k c : Nat} {A : Option Addr} {olds news : List Value} {x y : Operand} (hv : ev us ch pre T x = some v) (hy : ev us ch pre T y = some (.slice A k c))
    (ht : P.underlying t = some (.slice e)) (hi : P.info? e = some i) (hz : i.zero = some z) (hsize : i.size = size) (hby : i.bytes = bytes) (hzs : z.cells.size = size)
    (hx : ∀ w m, K w m → RowAt m A news) (hl : news.length = k * size) (hsz : 0 < size) (hk : 0 < k) (h1 : news.all (·.oneCell') = true) (h63 : n + k ≤ maxLen) (hbytes : (n + k) * bytes ≤ 140737488355328) :
    ObT P K us ch pre T (fun _ => .mrow v n size e olds) (fun v' => .mrow v' (n + k) size e (olds ++ news)) ⟨some d, .call { callee := .builtin .append, args := #[x, y], argTypes := #[t, t] }, ty, pos, af, gd⟩ (.ex (MP.mem (fun y : Option Addr × Nat => .slice y.1 (n + k) y.2) (fun y _ => n + k ≤ y.2) fun _ h => h)) := fun σ w m hk' hr hn => by
  obtain ⟨o, cap, w', hrun, ht', hle⟩ := append_touchW (P := P) (ty := ty) (c := c) ht hi hz hsize hby hzs (hK.agree hk') hr (hx w m hk') hl hsz hk (fun u hu => List.all_eq_true.1 h1 u hu) h63 hbytes
  have hr2 : (execOp (evalO σ) ⟨some d, .call { callee := .builtin .append, args := #[x, y], argTypes := #[t, t] }, ty, pos, af, gd⟩).run P w = .ok (.value (.slice o (n + k) cap)) w' := by
    simp only [execOp, resolve, List.map_toArray, List.map_cons, List.map_nil, hn.ev hv, hn.ev hy, Sem.run_bind, Sem.run_pure, Result.andThen_ok, invoke, builtin]
    rw [hrun]; rfl
  unfold Does; rw [hr2]
  exact ⟨m, ht', (o, cap), rfl, hle⟩
theorem mrow_nil {size : Nat} {e : TypeId} {w : World} {m : Mem} : (Res.mrow (.slice none 0 0) 0 size e []).holds w m := ⟨by simp, none, 0, rfl, Nat.le_refl _, Nat.zero_le _, .inl rfl⟩
/-- A literal of two things of their own cells. -/
theorem ob_buildSlice2 [hK : KC K m0 L] {t e : TypeId} {sz : Nat} {x y : Operand} {vs us' : List Value} {z : Value} (hx : ev us ch pre T x = some (.agg vs.toArray)) (hy : ev us ch pre T y = some (.agg us'.toArray)) (ht : P.underlying t = some (.slice e))
    (hsz : ∀ w, (sizeOf e).run P w = .ok sz w) (hz : ∀ w, (zeroValue e).run P w = .ok z w) (hl : Nat.beq vs.length sz = true) (hl2 : Nat.beq us'.length sz = true) (hzs : Nat.beq z.cells.size sz = true) (hn : Nat.ble (2 * sz) 16777216 = true) (h0 : Nat.beq (2 * sz) 0 = false) :
    Ob P K us ch pre T ⟨dst, .buildSlice t 2 #[(0, x), (1, y)], ty, pos, af, gd⟩ (.ex (MP.row 2 (vs ++ us'))) := by
  rw [Nat.beq_eq] at hl hl2
  refine ob_buildSlice (xs := [(0, x), (1, y)]) (vs := [(0, .agg vs.toArray), (1, .agg us'.toArray)]) (zero := z.cells.toList) (EvPs.cons hx (EvPs.cons hy .nil)) ht hsz hz rfl hn h0 ?_
  generalize hZ : ((List.range (2 * sz)).map fun i => z.cells.toList.toArray[i % z.cells.toList.toArray.size]!) = Z
  have hlen : Z.length = 2 * sz := by rw [← hZ]; simp
  have hc : (Value.agg vs.toArray).cells.toList = vs := rfl
  have hc2 : (Value.agg us'.toArray).cells.toList = us' := rfl
  simp only [fillL, hc, hc2]
  have e1 : Nat.beq vs.length sz = true := by rw [Nat.beq_eq]; exact hl
  have e1' : Nat.beq us'.length sz = true := by rw [Nat.beq_eq]; exact hl2
  have e2 : Nat.ble (0 * sz + vs.length) Z.length = true := by rw [hlen]; exact Nat.ble_eq_true_of_le (by omega)
  have e3 : Nat.ble (1 * sz + us'.length) (putL Z (0 * sz) vs).length = true := by rw [putL_len, hlen]; exact Nat.ble_eq_true_of_le (by omega)
  rw [e1, e1', e2]
  simp only [Bool.not_true, Bool.or_self, cond_false]
  rw [e3]
  simp only [Bool.not_true, Bool.or_self, cond_false]
  congr 1
  apply List.ext_getElem?
  intro i
  rw [putL_get _ _ _ _ (by rw [putL_len, hlen]; omega), putL_get _ _ _ _ (by rw [hlen]; omega)]
  by_cases h2 : 1 * sz ≤ i ∧ i < 1 * sz + us'.length
  · rw [if_pos h2, List.getElem?_append_right (by omega)]; congr 1; omega
  · rw [if_neg h2]
    by_cases h1 : 0 * sz ≤ i ∧ i < 0 * sz + vs.length
    · rw [if_pos h1, List.getElem?_append_left (by omega)]; congr 1; omega
    · rw [if_neg h1, List.getElem?_eq_none (by rw [hlen]; omega), List.getElem?_eq_none (by simp only [List.length_append]; omega)]
end
end Go.Proofs.YtlihpgjabohebaaDoor
