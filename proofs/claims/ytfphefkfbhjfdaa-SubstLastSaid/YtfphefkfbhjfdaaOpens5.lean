/-
  Types, rows and what is said, opened out of what is read. Conditions: those of each theorem.
-/
import Derived.Test.YtfphefkfbhjfdaaPlain5
import Derived.Test.YtfphefkfbhjfdaaBulk
import Derived.SizedLaws
namespace Go.Proofs.Ytfphefkfbhjfdaa
set_option linter.all false
set_option maxRecDepth 4000
open Go.RowKit Go.WideShapes Go.ChangeShapes Go.Deep Go.WideElems Go.ChangeAt Go.ChangeMaps
theorem bulkTs_sum : ∀ (l : List Ty), bulkTs l = (l.map bulkT).sum
  | [] => rfl
  | t :: ts => by rw [bulkTs, bulkTs_sum ts]; simp
theorem strs_open {H : Type} {enc : TypeId × Value → H} {W : World} {base : Nat} {spare : Nat → Bool} {held : Bool} {n : Nat} {cs : List Value} {x : DataW H × List MemPlace} (h : DataW.trod enc Try.prog W base spare held n 24 cs = some x) :
    ∃ o c l, cs = [.slice o l.length c] ∧ Strs (snap W) o l.length c l ∧ c ≤ maxLen ∧ lensS l ≤ 2 * Rows.uptoBulk x.1 := by
  obtain ⟨o, q, c, l, el, hsl, hc, bl⟩ := sl_open (R := fun _ vs (x : Str) => vs = [S x]) (β := fun s => s.length + 1) (sz := 1) (Rows.uptoBulk x.1) Try.underlying24 (by kernel_rfl) (by omega)
    (fun n cs x _ ht _ => by obtain ⟨s, es, _, bs⟩ := str_open Try.underlying9 ht; exact ⟨s, es, by omega⟩) h (Nat.le_refl _)
  obtain rfl := hsl.len
  refine ⟨o, c, l, el, hsl, hc, ?_⟩
  have key : ∀ l : List Str, lensS l ≤ 2 * (l.map fun s => s.length + 1).sum := by
    intro l; unfold lensS
    induction l with
    | nil => simp
    | cons x xs ih => simp only [List.map_cons, List.sum_cons]; omega
  have := key l; omega
theorem ty_open {H : Type} {enc : TypeId × Value → H} {W : World} {base : Nat} {spare : Nat → Bool} {held : Bool} : ∀ (B n : Nat) (cs : List Value) (x : DataW H × List MemPlace), Rows.uptoBulk x.1 ≤ B →
    DataW.trod enc Try.prog W base spare held n 28 cs = some x → ∃ t : Ty, TyR (snap W) t cs ∧ bulkT t ≤ 2 * Rows.uptoBulk x.1 := by
  intro B
  induction B with
  | zero => intro n cs x hB h; exact absurd (one_bulk x.1) (by omega)
  | succ B ih =>
    intro n cs x hB h
    obtain ⟨n', ys, hl, hx, hcl, hf⟩ := struct_open Try.underlying28 h
    obtain ⟨y0, e0, h0⟩ := hf 0 _ rfl
    obtain ⟨y1, e1, h1⟩ := hf 1 _ rfl
    obtain ⟨y2, e2, h2⟩ := hf 2 _ rfl
    obtain ⟨y3, e3, h3⟩ := hf 3 _ rfl
    obtain ⟨y4, e4, h4⟩ := hf 4 _ rfl
    have hcl' : cs.length = 6 := hcl.trans (by kernel_rfl)
    match cs, hcl' with
    | [c0, c1, c2, c3, c4, c5], _ =>
    change DataW.trod enc Try.prog W base spare held n' 3 (([c0, c1, c2, c3, c4, c5].drop 0).take (Try.prog.cellsOf 3)) = some y0 at h0
    change DataW.trod enc Try.prog W base spare held n' 9 (([c0, c1, c2, c3, c4, c5].drop 1).take (Try.prog.cellsOf 9)) = some y1 at h1
    change DataW.trod enc Try.prog W base spare held n' 3 (([c0, c1, c2, c3, c4, c5].drop 2).take (Try.prog.cellsOf 3)) = some y2 at h2
    change DataW.trod enc Try.prog W base spare held n' 23 (([c0, c1, c2, c3, c4, c5].drop 3).take (Try.prog.cellsOf 23)) = some y3 at h3
    change DataW.trod enc Try.prog W base spare held n' 26 (([c0, c1, c2, c3, c4, c5].drop 4).take (Try.prog.cellsOf 26)) = some y4 at h4
    rw [show Try.prog.cellsOf 3 = 1 by kernel_rfl] at h0 h2
    rw [show Try.prog.cellsOf 9 = 1 by kernel_rfl] at h1
    rw [show Try.prog.cellsOf 23 = 1 by kernel_rfl] at h3
    rw [show Try.prog.cellsOf 26 = 2 by kernel_rfl] at h4
    obtain ⟨k, ek, hk, bk⟩ := int_open Try.underlying3 h0
    obtain ⟨s, es, hs, bs⟩ := str_open Try.underlying9 h1
    obtain ⟨v, ev, hv, bv⟩ := int_open Try.underlying3 h2
    obtain ⟨n4, zs, zl, zx, _, zf⟩ := struct_open Try.underlying26 h4
    obtain ⟨z0, f0, g0⟩ := zf 0 _ rfl
    obtain ⟨z1, f1, g1⟩ := zf 1 _ rfl
    change DataW.trod enc Try.prog W base spare held n4 24 (([c4, c5].drop 0).take (Try.prog.cellsOf 24)) = some z0 at g0
    change DataW.trod enc Try.prog W base spare held n4 3 (([c4, c5].drop 1).take (Try.prog.cellsOf 3)) = some z1 at g1
    rw [show Try.prog.cellsOf 24 = 1 by kernel_rfl] at g0
    rw [show Try.prog.cellsOf 3 = 1 by kernel_rfl] at g1
    obtain ⟨ol, cl, ls, els, hls, hcls, bls⟩ := strs_open g0
    obtain ⟨rv, erv, hrv, brv⟩ := int_open Try.underlying3 g1
    have hys : ys = [y0, y1, y2, y3, y4] := by
      match ys, hl with
      | [a, b, c, d, e], _ => simp at e0 e1 e2 e3 e4; subst e0 e1 e2 e3 e4; rfl
    have hzs : zs = [z0, z1] := by
      match zs, zl with
      | [a, b], _ => simp at f0 f1; subst f0 f1; rfl
    subst hys; subst hzs
    simp only [List.map_cons, List.map_nil, Rows.uptoBulkAll] at hx zx
    obtain ⟨o, q, c, l, el, hsl, hc, bl⟩ := sl_open (R := fun m vs t => TyR m t vs ∧ bulkT t ≤ 2 * Rows.uptoBulk y3.1 + 0 * vs.length) (β := fun t => (bulkT t + 1) / 2) (sz := 6) (Rows.uptoBulk y3.1) Try.underlying23 (by kernel_rfl) (by omega)
      (fun n cs x hx' ht _ => by obtain ⟨t, h1, h2⟩ := ih n cs x (by omega) ht; exact ⟨t, ⟨h1, by omega⟩, by omega⟩) h3 (Nat.le_refl _)
    obtain rfl := hsl.len
    have hsl' : Tys (snap W) o l.length c l := ⟨rfl, hsl.cap, hsl.big, fun i x hx => by obtain ⟨p, vs, a1, a2, a3, a4⟩ := hsl.at_ i x hx; exact ⟨p, vs, a1, a2, a3, a4.1⟩⟩
    have key : ∀ l : List Ty, bulkTs l ≤ 2 * (l.map fun t => (bulkT t + 1) / 2).sum := by
      intro l
      induction l with
      | nil => simp [bulkTs]
      | cons x xs ih => simp only [bulkTs, List.map_cons, List.sum_cons]; omega
    have hkey := key l
    simp only [List.drop_zero, List.take_succ_cons, List.take_zero, List.drop_succ_cons, List.cons.injEq, and_true] at ek es ev el els erv
    subst ek es ev el els erv
    exact ⟨⟨k, s, v, l, ls, rv⟩, TyR.build hsl' hls hk hv hrv, by rw [bulkT]; omega⟩
theorem open_Ty {H : Type} {enc : TypeId × Value → H} {W : World} {base : Nat} {spare : Nat → Bool} {held : Bool} {r : Reach} {b0 : Nat} {v : Value} {d : DataW H} {ps : List MemPlace} (hval : Value.okWide Try.prog W r b0 28 v) (hd : DataW.Trod enc Try.prog W base spare held 28 v d ps) :
    ∃ vs t, v = .agg vs.toArray ∧ TyR (snap W) t vs ∧ bulkT t ≤ 2 * Rows.uptoBulk d := by
  obtain ⟨cs, rfl, _⟩ := okWide_struct Try.underlying28 hval
  obtain ⟨fuel, hf⟩ := hd
  obtain ⟨t, h1, h2⟩ := ty_open _ _ _ _ (Nat.le_refl _) hf
  exact ⟨cs.toList, t, rfl, h1, h2⟩
theorem rw_open {H : Type} {enc : TypeId × Value → H} {W : World} {base : Nat} {spare : Nat → Bool} {held : Bool} {n : Nat} {cs : List Value} {x : DataW H × List MemPlace} (hf : DataW.trod enc Try.prog W base spare held n 26 cs = some x) :
    ∃ r, RwR (snap W) r cs ∧ lensS r.labels ≤ 2 * Rows.uptoBulk x.1 := by
  obtain ⟨n4, zs, zl, zx, hcl, zf⟩ := struct_open Try.underlying26 hf
  obtain ⟨z0, f0, g0⟩ := zf 0 _ rfl
  obtain ⟨z1, f1, g1⟩ := zf 1 _ rfl
  have hcl' : cs.length = 2 := (show cs.length = _ from hcl).trans (by kernel_rfl)
  match cs, hcl' with
  | [c4, c5], _ =>
  change DataW.trod enc Try.prog W base spare held n4 24 (([c4, c5].drop 0).take (Try.prog.cellsOf 24)) = some z0 at g0
  change DataW.trod enc Try.prog W base spare held n4 3 (([c4, c5].drop 1).take (Try.prog.cellsOf 3)) = some z1 at g1
  rw [show Try.prog.cellsOf 24 = 1 by kernel_rfl] at g0
  rw [show Try.prog.cellsOf 3 = 1 by kernel_rfl] at g1
  obtain ⟨ol, cl, ls, els, hls, hcls, bls⟩ := strs_open g0
  obtain ⟨rv, erv, hrv, brv⟩ := int_open Try.underlying3 g1
  have hzs : zs = [z0, z1] := by
    match zs, zl with
    | [a, b], _ => simp at f0 f1; subst f0 f1; rfl
  subst hzs
  simp only [List.map_cons, List.map_nil, Rows.uptoBulkAll] at zx
  simp only [List.drop_zero, List.take_succ_cons, List.take_zero, List.drop_succ_cons, List.cons.injEq, and_true] at els erv
  subst els erv
  exact ⟨⟨ls, rv⟩, ⟨_, _, rfl, hls, hrv⟩, by simp only at zx ⊢; omega⟩
theorem open_Rw {H : Type} {enc : TypeId × Value → H} {W : World} {base : Nat} {spare : Nat → Bool} {held : Bool} {r : Reach} {b0 : Nat} {v : Value} {d : DataW H} {ps : List MemPlace} (hval : Value.okWide Try.prog W r b0 26 v) (hd : DataW.Trod enc Try.prog W base spare held 26 v d ps) :
    ∃ vs t, v = .agg vs.toArray ∧ RwR (snap W) t vs ∧ lensS t.labels ≤ 2 * Rows.uptoBulk d := by
  obtain ⟨cs, rfl, _⟩ := okWide_struct Try.underlying26 hval
  obtain ⟨fuel, hf⟩ := hd
  obtain ⟨cs⟩ := cs
  obtain ⟨t, h1, h2⟩ := rw_open hf
  exact ⟨cs, t, rfl, h1, h2⟩
theorem TyR.toV {m : Mem} {t : Ty} {vs : List Value} (h : TyR m t vs) : ∃ y, vs = tyV t y := by obtain ⟨o, c, o2, c2, rfl, -⟩ := h.open_; exact ⟨((o, c), (o2, c2)), rfl⟩
theorem RwR.toV {m : Mem} {t : Rw} {vs : List Value} (h : RwR m t vs) : ∃ y, vs = rwV t y := by obtain ⟨o, c, rfl, -⟩ := h; exact ⟨(o, c), rfl⟩
theorem say_one {H : Type} {enc : TypeId × Value → H} {W : World} {base : Nat} {spare : Nat → Bool} {held : Bool} {n : Nat} {cs : List Value} {x : DataW H × List MemPlace} (h : DataW.trod enc Try.prog W base spare held n 64 cs = some x) :
    ∃ a : Say, SayR (snap W) a cs ∧ bulkT a.ty ≤ 2 * Rows.uptoBulk x.1 ∧ a.row.labels.length ≤ 2 * Rows.uptoBulk x.1 := by
  obtain ⟨n4, ys, zl, hx, hcl, hf⟩ := struct_open Try.underlying64 h
  obtain ⟨y0, e0, h0⟩ := hf 0 _ rfl
  obtain ⟨y1, e1, h1⟩ := hf 1 _ rfl
  obtain ⟨y2, e2, h2⟩ := hf 2 _ rfl
  obtain ⟨y3, e3, h3⟩ := hf 3 _ rfl
  have hcl' : cs.length = 10 := hcl.trans (by kernel_rfl)
  match cs, hcl' with
  | [c0, c1, c2, c3, c4, c5, c6, c7, c8, c9], _ =>
  change DataW.trod enc Try.prog W base spare held n4 3 (([c0, c1, c2, c3, c4, c5, c6, c7, c8, c9].drop 0).take (Try.prog.cellsOf 3)) = some y0 at h0
  change DataW.trod enc Try.prog W base spare held n4 4 (([c0, c1, c2, c3, c4, c5, c6, c7, c8, c9].drop 1).take (Try.prog.cellsOf 4)) = some y1 at h1
  change DataW.trod enc Try.prog W base spare held n4 28 (([c0, c1, c2, c3, c4, c5, c6, c7, c8, c9].drop 2).take (Try.prog.cellsOf 28)) = some y2 at h2
  change DataW.trod enc Try.prog W base spare held n4 26 (([c0, c1, c2, c3, c4, c5, c6, c7, c8, c9].drop 8).take (Try.prog.cellsOf 26)) = some y3 at h3
  rw [show Try.prog.cellsOf 3 = 1 by kernel_rfl] at h0
  rw [show Try.prog.cellsOf 4 = 1 by kernel_rfl] at h1
  rw [show Try.prog.cellsOf 28 = 6 by kernel_rfl] at h2
  rw [show Try.prog.cellsOf 26 = 2 by kernel_rfl] at h3
  obtain ⟨k, ek, hk, bk⟩ := int_open Try.underlying3 h0
  obtain ⟨q, eq, _⟩ := DataW.trod_bool Try.underlying4 h1
  obtain ⟨t, ht, bt⟩ := ty_open _ _ _ _ (Nat.le_refl _) h2
  obtain ⟨r, hr, br⟩ := rw_open h3
  have hys : ys = [y0, y1, y2, y3] := by
    match ys, zl with
    | [a, b, c, d], _ => simp at e0 e1 e2 e3; subst e0 e1 e2 e3; rfl
  subst hys
  simp only [List.map_cons, List.map_nil, Rows.uptoBulkAll] at hx
  simp only [List.drop_zero, List.take_succ_cons, List.take_zero, List.drop_succ_cons, List.cons.injEq, and_true] at ek eq ht hr
  subst ek eq
  obtain ⟨y, ey⟩ := ht.toV
  obtain ⟨z, ez⟩ := hr.toV
  have hll := lensS_len r.labels
  refine ⟨⟨k, q, t, r⟩, ⟨y, z, ?_, hk, ey ▸ ht, ez ▸ hr⟩, by show bulkT t ≤ _; omega, by show r.labels.length ≤ _; omega⟩
  show _ = Value.int .i64 k :: Value.bool q :: (tyV t y ++ rwV r z)
  rw [← ey, ← ez]; rfl
theorem says_arg {H : Type} {enc : TypeId × Value → H} {W : World} {base : Nat} {spare : Nat → Bool} {held : Bool} {r : Reach} {b0 : Nat} {v : Value} {d : DataW H} {ps : List MemPlace} (hval : Value.okWide Try.prog W r b0 22 v) (hd : DataW.Trod enc Try.prog W base spare held 22 v d ps) :
    ∃ o c l, v = .slice o l.length c ∧ Says (snap W) o l.length c l ∧ ∀ x ∈ l, bulkT x.ty ≤ 2 * Rows.uptoBulk d ∧ x.row.labels.length ≤ 2 * Rows.uptoBulk d := by
  obtain ⟨o, n, c, rfl⟩ := okWide_slice Try.underlying22 hval
  obtain ⟨fuel, hf⟩ := hd
  obtain ⟨o', q, c', l, el, hsl, hc, bl⟩ := sl_open (R := fun m vs (a : Say) => SayR m a vs ∧ bulkT a.ty ≤ 2 * Rows.uptoBulk d ∧ a.row.labels.length ≤ 2 * Rows.uptoBulk d) (β := fun _ => 0) (sz := 10) (Rows.uptoBulk d) Try.underlying22 (by kernel_rfl) (by omega)
    (fun n cs x hx' ht _ => by obtain ⟨a, h1, h2, h3⟩ := say_one ht; exact ⟨a, ⟨h1, by omega, by omega⟩, Nat.zero_le _⟩) hf (Nat.le_refl _)
  obtain rfl := hsl.len
  simp only [Value.cells, List.cons.injEq, and_true] at el
  rw [el]
  refine ⟨o', c', l, rfl, ⟨rfl, hsl.cap, hsl.big, fun i x hx => by obtain ⟨p, vs, a1, a2, a3, a4⟩ := hsl.at_ i x hx; exact ⟨p, vs, a1, a2, a3, a4.1⟩⟩, fun x hx => ?_⟩
  obtain ⟨i, hi⟩ := List.mem_iff_getElem?.1 hx
  obtain ⟨p, vs, a1, a2, a3, a4⟩ := hsl.at_ i x hi
  exact a4.2

section
variable {H : Type} {enc : TypeId × Value → H} {P : Program} {W : World} {base : Nat} {spare : Nat → Bool} {held : Bool}
/-- What is read is of no part that is larger than a part may be. -/
abbrev Fits (P : Program) (t : TypeId) (d : DataW H) : Prop := (d.weights P t).all (· ≤ reachBytes) = true
theorem weightsAll_mem {e : TypeId} : ∀ {l : List (DataW H)} {d : DataW H}, d ∈ l → ∀ n ∈ d.weights P e, n ∈ DataW.weightsAll P e l
  | x :: l, d, h, n, hn => by
    simp only [DataW.weightsAll, List.mem_append]
    rcases List.mem_cons.1 h with rfl | h
    · exact .inl hn
    · exact .inr (weightsAll_mem h n hn)
theorem fits_each {ts : List TypeId} {ds : List (DataW H)} {j : Nat} {t : TypeId} {d : DataW H} (ht : ts[j]? = some t) (hd : ds[j]? = some d) (h : (DataW.weightsEach P ts ds).all (· ≤ reachBytes) = true) : Fits P t d :=
  List.all_eq_true.2 fun n hn => List.all_eq_true.1 h n (DataW.weights_mem_each ht hd n hn)
theorem sl_fit {α : Type} {R : Mem → List Value → α → Prop} {t e : TypeId} {sz fuel : Nat} {cs : List Value} {x : DataW H × List MemPlace} (B : Nat) (ht : P.underlying t = some (.slice e)) (hc : P.cellsOf e = sz) (hsz : 0 < sz)
    (hR : ∀ n cs (x : DataW H × List MemPlace), Rows.uptoBulk x.1 < B → Fits P e x.1 → DataW.trod enc P W base spare held n e cs = some x → cs.length = sz → ∃ a : α, R (snap W) cs a)
    (h : DataW.trod enc P W base spare held fuel t cs = some x) (hB : Rows.uptoBulk x.1 ≤ B) (hz : Fits P t x.1) :
    ∃ o c l, cs = [.slice o l.length c] ∧ Sl R sz (snap W) o l.length c l ∧ c ≤ maxLen ∧ l.length * P.bytesOf e ≤ reachBytes := by
  rcases open_slice ht h with ⟨rfl, rfl⟩ | ⟨a, len, cap, m, n, D, Pl, rfl, hb, hl, hm, hmm, rfl, hi⟩
  · exact ⟨none, 0, [], rfl, ⟨rfl, Nat.le_refl _, Nat.zero_le _, fun i x hx => by simp at hx⟩, Nat.zero_le _, by simp⟩
  · have hlm : len ≤ m := by rw [hmm]; split <;> omega
    simp only [Rows.uptoBulk] at hB
    simp only [Fits, DataW.weights, ht, List.all_cons, List.all_append, Bool.and_eq_true, List.length_map, List.length_range, decide_eq_true_eq] at hz
    obtain ⟨hz0, hz1, _⟩ := hz
    have key : ∀ k, k ≤ len → ∃ l : List α, l.length = k ∧ ∀ i x, l[i]? = some x → ∃ vs, CellsAt (snap W) (a.add (i * sz)) vs ∧ vs.length = sz ∧ R (snap W) vs x := by
      intro k
      induction k with
      | zero => intro _; exact ⟨[], rfl, fun i x hx => by simp at hx⟩
      | succ k ih =>
        intro hk
        obtain ⟨l, hl1, hl2⟩ := ih (by omega)
        obtain ⟨cs', hcs, htr⟩ := hi k (by omega)
        rw [hc] at hcs
        obtain ⟨h1, h2⟩ := cellsAt_snap hcs hsz
        have hmem : D k ∈ (List.range len).map D := List.mem_map.2 ⟨k, List.mem_range.2 (by omega), rfl⟩
        have hD : Rows.uptoBulk (D k) ≤ Rows.uptoBulkAll ((List.range len).map D) := bulk_mem hmem
        have hF : Fits P e (D k) := List.all_eq_true.2 fun n hn => List.all_eq_true.1 hz1 n (weightsAll_mem hmem n hn)
        obtain ⟨y, hy⟩ := hR n cs' (D k, Pl k) (by simp only; omega) hF htr h2
        refine ⟨l ++ [y], by simp [hl1], fun i x hx => ?_⟩
        rw [List.getElem?_append] at hx
        split at hx
        · exact hl2 i x hx
        · have hik : i = k := by
            have := (List.getElem?_eq_some_iff.1 hx).1
            simp at this; omega
          subst hik
          rw [hl1, Nat.sub_self] at hx
          simp only [List.getElem?_cons_zero, Option.some.injEq] at hx
          subst hx
          exact ⟨cs', h1, h2, hy⟩
    obtain ⟨l, hl1, hl2⟩ := key len (Nat.le_refl _)
    subst hl1
    refine ⟨some a, cap, l, rfl, ⟨rfl, hl, ?_, fun i x hx => ?_⟩, hm, Nat.le_trans (Nat.mul_le_mul_right _ (by omega)) hz0⟩
    · simp only [maxLen] at hm; omega
    · obtain ⟨vs, h1, h2, h3⟩ := hl2 i x hx
      exact ⟨a, vs, rfl, h1, h2, h3⟩
/-- A struct's fields: each reads off its own cells; the bulk of all is less than the whole's; each fits. -/
theorem struct_fit {e : TypeId} {fs : Array Field} {fuel : Nat} {cs : List Value} {x : DataW H × List MemPlace} (he : P.underlying e = some (.struct fs)) (h : DataW.trod enc P W base spare held fuel e cs = some x) (hz : Fits P e x.1) :
    ∃ (n : Nat) (ys : List (DataW H × List MemPlace)), ys.length = fs.size ∧ Rows.uptoBulk x.1 = Rows.uptoBulkAll (ys.map (·.1)) + 1 ∧ cs.length = P.cellsOf e ∧
      ∀ (i : Nat) (f : Field), fs[i]? = some f → ∃ y, ys[i]? = some y ∧ DataW.trod enc P W base spare held n f.type ((cs.drop f.offset).take (P.cellsOf f.type)) = some y ∧ Fits P f.type y.1 := by
  obtain ⟨xs, n, rfl, rfl, hl, hx, hf⟩ := DataW.trod_struct he h
  refine ⟨n, xs, hx, by simp [Rows.uptoBulk], hl, fun i f hi => ?_⟩
  have h1 : i < fs.size := (Array.getElem?_eq_some_iff.1 hi).1
  have h2 : xs[i]? = some (xs[i]'(by omega)) := List.getElem?_eq_getElem (by omega)
  refine ⟨_, h2, (hf i f hi).trans h2, ?_⟩
  simp only [Fits, DataW.weights, he] at hz
  exact fits_each (j := i) (by rw [List.getElem?_map, Array.getElem?_toList, hi]; rfl) (by rw [List.getElem?_map, h2]; rfl) hz
end
theorem strs_fit {H : Type} {enc : TypeId × Value → H} {W : World} {base : Nat} {spare : Nat → Bool} {held : Bool} {n : Nat} {cs : List Value} {x : DataW H × List MemPlace} (h : DataW.trod enc Try.prog W base spare held n 24 cs = some x) (hz : Fits Try.prog 24 x.1) :
    ∃ o c l, cs = [.slice o l.length c] ∧ Strs (snap W) o l.length c l ∧ 2 * l.length ≤ 17592186043904 := by
  obtain ⟨o, c, l, el, hsl, hc, bl⟩ := sl_fit (R := fun _ vs (x : Str) => vs = [S x]) (sz := 1) (Rows.uptoBulk x.1) Try.underlying24 (by kernel_rfl) (by omega)
    (fun n cs x _ _ ht _ => by obtain ⟨s, es, _, bs⟩ := str_open Try.underlying9 ht; exact ⟨s, es⟩) h (Nat.le_refl _) hz
  rw [show Try.prog.bytesOf 9 = 16 by kernel_rfl, show reachBytes = 140737488351232 from rfl] at bl
  exact ⟨o, c, l, el, hsl, by omega⟩
theorem ty_fit {H : Type} {enc : TypeId × Value → H} {W : World} {base : Nat} {spare : Nat → Bool} {held : Bool} : ∀ (B n : Nat) (cs : List Value) (x : DataW H × List MemPlace), Rows.uptoBulk x.1 ≤ B →
    DataW.trod enc Try.prog W base spare held n 28 cs = some x → Fits Try.prog 28 x.1 → ∃ t : Ty, TyR (snap W) t cs ∧ wdT t ≤ 17592186043904 := by
  intro B
  induction B with
  | zero => intro n cs x hB h; exact absurd (one_bulk x.1) (by omega)
  | succ B ih =>
    intro n cs x hB h hz
    obtain ⟨n', ys, hl, hx, hcl, hf⟩ := struct_fit Try.underlying28 h hz
    obtain ⟨y0, e0, h0, _⟩ := hf 0 _ rfl
    obtain ⟨y1, e1, h1, _⟩ := hf 1 _ rfl
    obtain ⟨y2, e2, h2, _⟩ := hf 2 _ rfl
    obtain ⟨y3, e3, h3, hz3⟩ := hf 3 _ rfl
    obtain ⟨y4, e4, h4, hz4⟩ := hf 4 _ rfl
    have hcl' : cs.length = 6 := hcl.trans (by kernel_rfl)
    match cs, hcl' with
    | [c0, c1, c2, c3, c4, c5], _ =>
    change DataW.trod enc Try.prog W base spare held n' 3 (([c0, c1, c2, c3, c4, c5].drop 0).take (Try.prog.cellsOf 3)) = some y0 at h0
    change DataW.trod enc Try.prog W base spare held n' 9 (([c0, c1, c2, c3, c4, c5].drop 1).take (Try.prog.cellsOf 9)) = some y1 at h1
    change DataW.trod enc Try.prog W base spare held n' 3 (([c0, c1, c2, c3, c4, c5].drop 2).take (Try.prog.cellsOf 3)) = some y2 at h2
    change DataW.trod enc Try.prog W base spare held n' 23 (([c0, c1, c2, c3, c4, c5].drop 3).take (Try.prog.cellsOf 23)) = some y3 at h3
    change DataW.trod enc Try.prog W base spare held n' 26 (([c0, c1, c2, c3, c4, c5].drop 4).take (Try.prog.cellsOf 26)) = some y4 at h4
    change Fits Try.prog 23 y3.1 at hz3
    change Fits Try.prog 26 y4.1 at hz4
    rw [show Try.prog.cellsOf 3 = 1 by kernel_rfl] at h0 h2
    rw [show Try.prog.cellsOf 9 = 1 by kernel_rfl] at h1
    rw [show Try.prog.cellsOf 23 = 1 by kernel_rfl] at h3
    rw [show Try.prog.cellsOf 26 = 2 by kernel_rfl] at h4
    obtain ⟨k, ek, hk, bk⟩ := int_open Try.underlying3 h0
    obtain ⟨s, es, hs, bs⟩ := str_open Try.underlying9 h1
    obtain ⟨v, ev, hv, bv⟩ := int_open Try.underlying3 h2
    obtain ⟨n4, zs, zl, zx, _, zf⟩ := struct_fit Try.underlying26 h4 hz4
    obtain ⟨z0, f0, g0, hq0⟩ := zf 0 _ rfl
    obtain ⟨z1, f1, g1, _⟩ := zf 1 _ rfl
    change DataW.trod enc Try.prog W base spare held n4 24 (([c4, c5].drop 0).take (Try.prog.cellsOf 24)) = some z0 at g0
    change DataW.trod enc Try.prog W base spare held n4 3 (([c4, c5].drop 1).take (Try.prog.cellsOf 3)) = some z1 at g1
    change Fits Try.prog 24 z0.1 at hq0
    rw [show Try.prog.cellsOf 24 = 1 by kernel_rfl] at g0
    rw [show Try.prog.cellsOf 3 = 1 by kernel_rfl] at g1
    obtain ⟨ol, cl, ls, els, hls, bls⟩ := strs_fit g0 hq0
    obtain ⟨rv, erv, hrv, brv⟩ := int_open Try.underlying3 g1
    have hys : ys = [y0, y1, y2, y3, y4] := by
      match ys, hl with
      | [a, b, c, d, e], _ => simp at e0 e1 e2 e3 e4; subst e0 e1 e2 e3 e4; rfl
    subst hys
    simp only [List.map_cons, List.map_nil, Rows.uptoBulkAll] at hx
    obtain ⟨o, c, l, el, hsl, hc, bl⟩ := sl_fit (R := fun m vs t => TyR m t vs ∧ wdT t ≤ 17592186043904) (sz := 6) (Rows.uptoBulk y3.1) Try.underlying23 (by kernel_rfl) (by omega)
      (fun n cs x hx' hf' ht _ => by obtain ⟨t, h1, h2⟩ := ih n cs x (by omega) ht hf'; exact ⟨t, h1, h2⟩) h3 (Nat.le_refl _) hz3
    rw [show Try.prog.bytesOf 28 = 88 by kernel_rfl, show reachBytes = 140737488351232 from rfl] at bl
    have hsl' : Tys (snap W) o l.length c l := ⟨rfl, hsl.cap, hsl.big, fun i x hx => by obtain ⟨p, vs, a1, a2, a3, a4⟩ := hsl.at_ i x hx; exact ⟨p, vs, a1, a2, a3, a4.1⟩⟩
    have hw : ∀ u ∈ l, wdT u ≤ 17592186043904 := fun u hu => by
      obtain ⟨i, hi⟩ := List.mem_iff_getElem?.1 hu
      obtain ⟨p, vs, a1, a2, a3, a4⟩ := hsl.at_ i u hi
      exact a4.2
    have key : ∀ l : List Ty, (∀ u ∈ l, wdT u ≤ 17592186043904) → wdTs l ≤ 17592186043904 := by
      intro l
      induction l with
      | nil => intro _; rw [wdTs]; omega
      | cons x xs ih => intro h; rw [wdTs]; have h1 := h x (.head _); have h2 := ih fun u hu => h u (.tail _ hu); omega
    have hkey := key l hw
    simp only [List.drop_zero, List.take_succ_cons, List.take_zero, List.drop_succ_cons, List.cons.injEq, and_true] at ek es ev el els erv
    subst ek es ev el els erv
    exact ⟨⟨k, s, v, l, ls, rv⟩, TyR.build hsl' hls hk hv hrv, by rw [wdT]; omega⟩
theorem open_TyF {H : Type} {enc : TypeId × Value → H} {W : World} {base : Nat} {spare : Nat → Bool} {held : Bool} {r : Reach} {b0 : Nat} {v : Value} {d : DataW H} {ps : List MemPlace} (hval : Value.okWide Try.prog W r b0 28 v) (hd : DataW.Trod enc Try.prog W base spare held 28 v d ps) (hz : Fits Try.prog 28 d) :
    ∃ vs t, v = .agg vs.toArray ∧ TyR (snap W) t vs ∧ wdT t ≤ 17592186043904 := by
  obtain ⟨cs, rfl, _⟩ := okWide_struct Try.underlying28 hval
  obtain ⟨fuel, hf⟩ := hd
  obtain ⟨t, h1, h2⟩ := ty_fit _ _ _ _ (Nat.le_refl _) hf hz
  exact ⟨cs.toList, t, rfl, h1, h2⟩
theorem rw_fit {H : Type} {enc : TypeId × Value → H} {W : World} {base : Nat} {spare : Nat → Bool} {held : Bool} {n : Nat} {cs : List Value} {x : DataW H × List MemPlace} (hf : DataW.trod enc Try.prog W base spare held n 26 cs = some x) (hz : Fits Try.prog 26 x.1) :
    ∃ r, RwR (snap W) r cs ∧ r.labels.length ≤ 8796093021952 := by
  obtain ⟨n4, zs, zl, zx, hcl, zf⟩ := struct_fit Try.underlying26 hf hz
  obtain ⟨z0, f0, g0, hq0⟩ := zf 0 _ rfl
  obtain ⟨z1, f1, g1, _⟩ := zf 1 _ rfl
  have hcl' : cs.length = 2 := (show cs.length = _ from hcl).trans (by kernel_rfl)
  match cs, hcl' with
  | [c4, c5], _ =>
  change DataW.trod enc Try.prog W base spare held n4 24 (([c4, c5].drop 0).take (Try.prog.cellsOf 24)) = some z0 at g0
  change DataW.trod enc Try.prog W base spare held n4 3 (([c4, c5].drop 1).take (Try.prog.cellsOf 3)) = some z1 at g1
  change Fits Try.prog 24 z0.1 at hq0
  rw [show Try.prog.cellsOf 24 = 1 by kernel_rfl] at g0
  rw [show Try.prog.cellsOf 3 = 1 by kernel_rfl] at g1
  obtain ⟨ol, cl, ls, els, hls, bls⟩ := strs_fit g0 hq0
  obtain ⟨rv, erv, hrv, brv⟩ := int_open Try.underlying3 g1
  simp only [List.drop_zero, List.take_succ_cons, List.take_zero, List.drop_succ_cons, List.cons.injEq, and_true] at els erv
  subst els erv
  exact ⟨⟨ls, rv⟩, ⟨_, _, rfl, hls, hrv⟩, by simp only; omega⟩
theorem say_fit {H : Type} {enc : TypeId × Value → H} {W : World} {base : Nat} {spare : Nat → Bool} {held : Bool} {n : Nat} {cs : List Value} {x : DataW H × List MemPlace} (h : DataW.trod enc Try.prog W base spare held n 64 cs = some x) (hz : Fits Try.prog 64 x.1) :
    ∃ a : Say, SayR (snap W) a cs ∧ wdT a.ty ≤ 17592186043904 ∧ a.row.labels.length ≤ 8796093021952 := by
  obtain ⟨n4, ys, zl, hx, hcl, hf⟩ := struct_fit Try.underlying64 h hz
  obtain ⟨y0, e0, h0, _⟩ := hf 0 _ rfl
  obtain ⟨y1, e1, h1, _⟩ := hf 1 _ rfl
  obtain ⟨y2, e2, h2, hz2⟩ := hf 2 _ rfl
  obtain ⟨y3, e3, h3, hz3⟩ := hf 3 _ rfl
  have hcl' : cs.length = 10 := hcl.trans (by kernel_rfl)
  match cs, hcl' with
  | [c0, c1, c2, c3, c4, c5, c6, c7, c8, c9], _ =>
  change DataW.trod enc Try.prog W base spare held n4 3 (([c0, c1, c2, c3, c4, c5, c6, c7, c8, c9].drop 0).take (Try.prog.cellsOf 3)) = some y0 at h0
  change DataW.trod enc Try.prog W base spare held n4 4 (([c0, c1, c2, c3, c4, c5, c6, c7, c8, c9].drop 1).take (Try.prog.cellsOf 4)) = some y1 at h1
  change DataW.trod enc Try.prog W base spare held n4 28 (([c0, c1, c2, c3, c4, c5, c6, c7, c8, c9].drop 2).take (Try.prog.cellsOf 28)) = some y2 at h2
  change DataW.trod enc Try.prog W base spare held n4 26 (([c0, c1, c2, c3, c4, c5, c6, c7, c8, c9].drop 8).take (Try.prog.cellsOf 26)) = some y3 at h3
  change Fits Try.prog 28 y2.1 at hz2
  change Fits Try.prog 26 y3.1 at hz3
  rw [show Try.prog.cellsOf 3 = 1 by kernel_rfl] at h0
  rw [show Try.prog.cellsOf 4 = 1 by kernel_rfl] at h1
  rw [show Try.prog.cellsOf 28 = 6 by kernel_rfl] at h2
  rw [show Try.prog.cellsOf 26 = 2 by kernel_rfl] at h3
  obtain ⟨k, ek, hk, bk⟩ := int_open Try.underlying3 h0
  obtain ⟨q, eq, _⟩ := DataW.trod_bool Try.underlying4 h1
  obtain ⟨t, ht, bt⟩ := ty_fit _ _ _ _ (Nat.le_refl _) h2 hz2
  obtain ⟨r, hr, br⟩ := rw_fit h3 hz3
  simp only [List.drop_zero, List.take_succ_cons, List.take_zero, List.drop_succ_cons, List.cons.injEq, and_true] at ek eq ht hr
  subst ek eq
  obtain ⟨y, ey⟩ := ht.toV
  obtain ⟨z, ez⟩ := hr.toV
  refine ⟨⟨k, q, t, r⟩, ⟨y, z, ?_, hk, ey ▸ ht, ez ▸ hr⟩, bt, br⟩
  show _ = Value.int .i64 k :: Value.bool q :: (tyV t y ++ rwV r z)
  rw [← ey, ← ez]; rfl
theorem says_argF {H : Type} {enc : TypeId × Value → H} {W : World} {base : Nat} {spare : Nat → Bool} {held : Bool} {r : Reach} {b0 : Nat} {v : Value} {d : DataW H} {ps : List MemPlace} (hval : Value.okWide Try.prog W r b0 22 v) (hd : DataW.Trod enc Try.prog W base spare held 22 v d ps) (hz : Fits Try.prog 22 d) :
    ∃ o c l, v = .slice o l.length c ∧ Says (snap W) o l.length c l ∧ ∀ x ∈ l, wdT x.ty ≤ 17592186043904 ∧ x.row.labels.length ≤ 8796093021952 := by
  obtain ⟨o, n, c, rfl⟩ := okWide_slice Try.underlying22 hval
  obtain ⟨fuel, hf⟩ := hd
  obtain ⟨o', c', l, el, hsl, hc, bl⟩ := sl_fit (R := fun m vs (a : Say) => SayR m a vs ∧ wdT a.ty ≤ 17592186043904 ∧ a.row.labels.length ≤ 8796093021952) (sz := 10) (Rows.uptoBulk d) Try.underlying22 (by kernel_rfl) (by omega)
    (fun n cs x hx' hf' ht _ => by obtain ⟨a, h1, h2, h3⟩ := say_fit ht hf'; exact ⟨a, h1, h2, h3⟩) hf (Nat.le_refl _) hz
  simp only [Value.cells, List.cons.injEq, and_true] at el
  rw [el]
  refine ⟨o', c', l, rfl, ⟨rfl, hsl.cap, hsl.big, fun i x hx => by obtain ⟨p, vs, a1, a2, a3, a4⟩ := hsl.at_ i x hx; exact ⟨p, vs, a1, a2, a3, a4.1⟩⟩, fun x hx => ?_⟩
  obtain ⟨i, hi⟩ := List.mem_iff_getElem?.1 hx
  obtain ⟨p, vs, a1, a2, a3, a4⟩ := hsl.at_ i x hi
  exact a4.2
end Go.Proofs.Ytfphefkfbhjfdaa
