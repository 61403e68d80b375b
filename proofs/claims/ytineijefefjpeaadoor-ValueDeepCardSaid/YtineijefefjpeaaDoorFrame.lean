/-
  The row's frame: an input opened to a snapshot of memory, and the end of a law's proof. Conditions: those of each lemma; no program occurs here.
-/
import Derived.Test.YtineijefefjpeaaDoorMore
import Derived.ProofKit
import Derived.Carry
import Derived.ChangeSame
import Derived.ShutString
import Derived.Deep.Slices
import Derived.Deep.Fields
namespace Go.Proofs.YtineijefefjpeaaDoor
set_option linter.all false
open Go.RowKit Go.WideShapes Go.ChangeShapes Go.Deep Go.WideElems Go.ChangeAt Go.ChangeMaps
/-- All of memory, as it stands when the call begins. -/
def snap (W : World) : Mem := ⟨fun b o => W.cell? ⟨b, o, none⟩, fun b => match W.heap[b]? with | some (.map es _) => some (entriesOf es) | _ => none⟩
theorem agree_snap (W : World) : Agree W (snap W) := ⟨fun _ _ _ h => h, fun b es h => by
  change (match W.heap[b]? with | some (.map es _) => some (entriesOf es) | _ => none) = some es at h
  split at h
  · rename_i ents cl he
    injection h with h
    exact ⟨ents, cl, he, h⟩
  · cases h⟩
theorem cell_spot {W : World} {a : Addr} {v : Value} (h : W.cell? a = some v) : a.spot = none := by
  unfold World.cell? at h
  split at h
  · split at h
    · cases h
    · rename_i hs; cases e : a.spot with
      | none => rfl
      | some x => rw [e] at hs; exact absurd rfl hs
  · cases h
theorem snap_of {W : World} {a : Addr} {v : Value} (h : W.cell? a = some v) : snap W a.block a.off = some v := by
  have := cell_spot h
  show W.cell? ⟨a.block, a.off, none⟩ = some v
  rw [← h]; congr 1
  cases a; simp only at this; subst this; rfl
theorem cellsAt_snap {W : World} {base : Nat} {a : Addr} {n : Nat} {cs : List Value} (h : W.cells? base a n = some cs) (hn : 0 < n) : CellsAt (snap W) a cs ∧ cs.length = n := by
  obtain ⟨_, hl, hat⟩ := World.cells?_some h
  have h0 := hat 0 hn
  have e0 : a.add 0 = a := by unfold Addr.add; rfl
  rw [e0, List.getElem?_eq_getElem (by omega)] at h0
  refine ⟨⟨cell_spot h0, fun i v e => ?_⟩, hl⟩
  have hi : i < n := by have := (List.getElem?_eq_some_iff.1 e).1; omega
  have := hat i hi
  rw [e] at this
  have := snap_of this
  rwa [add_block, add_off] at this
section
variable {H : Type} {enc : TypeId × Value → H} {P : Program} {W : World} {base : Nat} {spare : Nat → Bool} {held : Bool}
theorem open_S {r : Reach} {b0 : Nat} {t : TypeId} {v : Value} {d : DataW H} {ps : List MemPlace} (ht : P.underlying t = some .string) (hval : Value.okWide P W r b0 t v) (hd : DataW.Trod enc P W base spare held t v d ps) :
    ∃ l : Str, v = S l ∧ l.length ≤ maxLen := by
  obtain ⟨s, rfl, _, _, hs⟩ := open_string ht hval hd
  obtain ⟨⟨l⟩⟩ := s
  exact ⟨l, rfl, by rw [S_size] at hs; exact hs⟩
theorem open_I {r : Reach} {b0 : Nat} {t : TypeId} {v : Value} {d : DataW H} {ps : List MemPlace} (ht : P.underlying t = some (.int .i64)) (hval : Value.okWide P W r b0 t v) (hd : DataW.Trod enc P W base spare held t v d ps) :
    ∃ n : Int, v = .int .i64 n ∧ InI64 n := by
  obtain ⟨n, rfl, _, _, hs⟩ := open_int ht hval hd
  simp only [Lit.wf, Bool.and_eq_true, decide_eq_true_eq] at hs
  have h1 : IntKind.i64.min = -9223372036854775808 := by decide
  have h2 : IntKind.i64.max = 9223372036854775807 := by decide
  exact ⟨n, rfl, by omega, by omega⟩
/-- One cell of a string, of an int. -/
theorem cell_S {t : TypeId} {n : Nat} {c : Value} {x : DataW H × List MemPlace} (ht : P.underlying t = some .string) (h : DataW.trod enc P W base spare held n t [c] = some x) : ∃ l : Str, c = S l ∧ l.length ≤ maxLen := by
  obtain ⟨s, e, _, hs⟩ := DataW.trod_string ht h
  injection e with e; subst e
  obtain ⟨⟨l⟩⟩ := s
  exact ⟨l, rfl, by rw [S_size] at hs; exact hs⟩
theorem cell_I {t : TypeId} {n : Nat} {c : Value} {x : DataW H × List MemPlace} (ht : P.underlying t = some (.int .i64)) (h : DataW.trod enc P W base spare held n t [c] = some x) : ∃ k : Int, c = .int .i64 k ∧ InI64 k := by
  obtain ⟨k, e, _, hs⟩ := DataW.trod_int ht h
  injection e with e; subst e
  simp only [Lit.wf, Bool.and_eq_true, decide_eq_true_eq] at hs
  have h1 : IntKind.i64.min = -9223372036854775808 := by decide
  have h2 : IntKind.i64.max = 9223372036854775807 := by decide
  exact ⟨k, rfl, by omega, by omega⟩
theorem sl_of_trod {α : Type} {R : Mem → List Value → α → Prop} {t e : TypeId} {sz fuel : Nat} {cs : List Value} {x : DataW H × List MemPlace} (ht : P.underlying t = some (.slice e)) (hc : P.cellsOf e = sz) (hsz : 0 < sz)
    (hR : ∀ n cs x, DataW.trod enc P W base spare held n e cs = some x → cs.length = sz → ∃ a : α, R (snap W) cs a) (h : DataW.trod enc P W base spare held fuel t cs = some x) :
    ∃ o n c l, cs = [.slice o n c] ∧ Sl R sz (snap W) o n c l ∧ c ≤ maxLen := by
  rcases open_slice ht h with ⟨rfl, _⟩ | ⟨a, len, cap, m, n, D, Pl, rfl, hb, hl, hm, hmm, _, hi⟩
  · exact ⟨none, 0, 0, [], rfl, ⟨rfl, Nat.le_refl _, Nat.zero_le _, fun i x hx => by simp at hx⟩, Nat.zero_le _⟩
  · have hlm : len ≤ m := by rw [hmm]; split <;> omega
    have key : ∀ k, k ≤ len → ∃ l : List α, l.length = k ∧ ∀ i x, l[i]? = some x → ∃ vs, CellsAt (snap W) (a.add (i * sz)) vs ∧ vs.length = sz ∧ R (snap W) vs x := by
      intro k
      induction k with
      | zero => intro _; exact ⟨[], rfl, fun i x hx => by simp at hx⟩
      | succ k ih =>
        intro hk
        obtain ⟨l, hl1, hl2⟩ := ih (by omega)
        obtain ⟨cs', hcs, htr⟩ := hi k (by omega)
        rw [hc] at hcs
        obtain ⟨h1, h2⟩ := cellsAt_snap hcs hsz
        obtain ⟨y, hy⟩ := hR n cs' _ htr h2
        refine ⟨l ++ [y], by simp [hl1], fun i x hx => ?_⟩
        rw [List.getElem?_append] at hx
        split at hx
        · exact hl2 i x hx
        · have hik : i = k := by
            have := (List.getElem?_eq_some_iff.1 hx).1
            simp at this; omega
          subst hik
          rw [hl1, Nat.sub_self] at hx
          simp only [List.getElem?_cons_zero, Option.some.injEq] at hx
          subst hx
          exact ⟨cs', h1, h2, hy⟩
    obtain ⟨l, hl1, hl2⟩ := key len (Nat.le_refl _)
    refine ⟨some a, len, cap, l, rfl, ⟨hl1, hl, ?_, fun i x hx => ?_⟩, hm⟩
    · simp only [maxLen] at hm; omega
    · obtain ⟨vs, h1, h2, h3⟩ := hl2 i x hx
      exact ⟨a, vs, rfl, h1, h2, h3⟩
theorem sl_of {α : Type} {R : Mem → List Value → α → Prop} {r : Reach} {b0 : Nat} {t e : TypeId} {sz : Nat} {v : Value} {d : DataW H} {ps : List MemPlace} (ht : P.underlying t = some (.slice e)) (hc : P.cellsOf e = sz) (hsz : 0 < sz)
    (hR : ∀ n cs x, DataW.trod enc P W base spare held n e cs = some x → cs.length = sz → ∃ a : α, R (snap W) cs a) (hval : Value.okWide P W r b0 t v) (hd : DataW.Trod enc P W base spare held t v d ps) :
    ∃ o n c l, v = .slice o n c ∧ Sl R sz (snap W) o n c l ∧ c ≤ maxLen := by
  obtain ⟨o, n, c, rfl⟩ := okWide_slice ht hval
  obtain ⟨fuel, hf⟩ := hd
  obtain ⟨o', n', c', l, e1, h1, h2⟩ := sl_of_trod ht hc hsz hR hf
  simp only [Value.cells, List.cons.injEq, and_true] at e1
  injection e1 with e1 e2 e3
  subst e1 e2 e3
  exact ⟨_, _, _, l, rfl, h1, h2⟩
/-- A struct of one-cell fields: each cell reads as its field. -/
theorem trod_cells {e : TypeId} {fs : Array Field} {fuel : Nat} {cs : List Value} {x : DataW H × List MemPlace} (he : P.underlying e = some (.struct fs)) (h : DataW.trod enc P W base spare held fuel e cs = some x) (hone : oneCellFields P fs = true) (hl : cs.length = fs.size) :
    ∃ n, ∀ (j : Nat) (f : Field), fs[j]? = some f → ∃ c y, cs[j]? = some c ∧ DataW.trod enc P W base spare held n f.type [c] = some y := by
  obtain ⟨ys, n', hn', hy, hlen, hyl, hf⟩ := DataW.trod_struct he h
  refine ⟨n', fun j f hj => ?_⟩
  obtain ⟨ho, hk⟩ := hone_of hone j f hj
  have hjl : j < fs.size := (Array.getElem?_eq_some_iff.1 hj).1
  have h1 := hf j f hj
  rw [ho, hk] at h1
  have hone' : (cs.drop j).take 1 = [cs[j]'(by omega)] := by
    rw [List.drop_eq_getElem_cons (by omega)]
    rfl
  rw [hone'] at h1
  have hys : ys[j]? = some (ys[j]'(by omega)) := List.getElem?_eq_getElem (by omega)
  exact ⟨_, _, List.getElem?_eq_getElem (by omega), h1.trans hys⟩
theorem trodAll_stays (hl : laidOutB P = true) {W' : World} {sp : Nat → Bool} : ∀ {ts : List TypeId} {vs : List Value} {ds : List (DataW H)} {ps : List MemPlace}, (ts.all fun t => P.readableRec t && decide (t < P.types.size)) = true →
    DataW.TrodAll enc P W base (fun _ => true) true ts vs ds ps → (∀ p ∈ ps, W.sameAt W' p) → (∀ p ∈ ps, sp p.block = true) → DataW.TrodAll enc P W' base sp true ts vs ds ps
  | [], vs, ds, ps, _, h, _, _ => by
    obtain ⟨rfl, rfl, rfl⟩ := trodAll_nil h
    exact rfl
  | t :: ts, vs, ds, ps, hts, h, h1, h2 => by
    obtain ⟨v, vs', d, ds', p, q, rfl, rfl, rfl, hd, hr⟩ := trodAll_cons h
    simp only [List.all_cons, Bool.and_eq_true, decide_eq_true_eq] at hts
    obtain ⟨⟨hr1, hr2⟩, hts'⟩ := hts
    exact ⟨p, q, Trod_stays hl hr1 hr2 hd (fun x hx => h1 x (List.mem_append_left _ hx)) (fun x hx => h2 x (List.mem_append_left _ hx)),
      trodAll_stays hl hts' hr (fun x hx => h1 x (List.mem_append_right _ hx)) (fun x hx => h2 x (List.mem_append_right _ hx)), rfl⟩
/-- The end of a law's proof. -/
theorem post_law {f : Func} {s : ChangeSpec} {W' : World} {m' : Mem} {args : Array Value} {ds : List (DataW H)} {gs : List (DataW H)} {before : List MemPlace} {t : TypeId}
    (hl : laidOutB P = true) (hts : (f.params.toList.all fun t => P.readableRec t && decide (t < P.types.size)) = true) (hvs : s.vars = []) (hres : f.resultTypes = #[t]) (ht : P.underlying t = some .bool)
    (hfn : s.fn H (ds ++ gs) = { results := [.lit (.bool true)], args := ds }) (hW : DataW.Whole enc P f.params.toList s.vars false W args.toList ds gs before) (hx : ExtG [] W (snap W) W' m') :
    s.post enc P f false true false false W args (.bool true) W' := by
  have hb := hx.below
  have hlt : ∀ p ∈ before, p.block < W.heap.size := fun p hp => hW.lt p hp
  have hold : ∀ p ∈ before, (fun b => decide (b < W.heap.size)) p.block = true := fun p hp => by simpa using hlt p hp
  have hsame : ∀ p ∈ before, W.sameAt W' p := fun p hp => hb.same (hlt p hp)
  have hW0 := hW
  obtain ⟨pa, pv, hA, hV, hps, hz, hn⟩ := hW
  rw [hvs] at hV
  obtain ⟨rfl, rfl⟩ := trodVars_none hV
  rw [List.append_nil] at hps
  subst hps
  have hres' : ∀ (b : Nat) (sp : Nat → Bool) (hd : Bool), DataW.TrodAll enc P W' b sp hd f.resultTypes.toList ((Value.bool true).resultList f.resultTypes.size) (s.fn H (ds ++ [])).results [] := fun b sp hd => by
    rw [hfn, hres]
    exact trodAll_mk1 ⟨1, by simp [DataW.trod, Value.cells, ht]⟩
  have hargs : ∀ sp : Nat → Bool, (∀ p ∈ before, sp p.block = true) → DataW.TrodAll enc P W' 0 sp true f.params.toList args.toList (s.fn H (ds ++ [])).args before := fun sp hsp => by
    rw [hfn]; exact trodAll_stays hl hts hA hsame hsp
  have hvars : ∀ sp : Nat → Bool, DataW.TrodVars enc P W' sp s.vars (s.fn H (ds ++ [])).vars [] := fun sp => by
    rw [hvs, hfn]; exact rfl
  refine ⟨ds, [], before, [], before, [], hW0, hres' _ _ _, hargs _ hold, hvars _, World.keptBut_mono (fun p hp => ⟨hp, ?_⟩) (hb.frame (· ∈ before)), fun _ => ?_⟩
  · exact Or.inr (Or.inl hp)
  · refine ⟨ok_one hres rfl (okWide_bool_mk ht true), _, _, ([] ++ before) ++ [], ⟨[] ++ before, [], trodAll_append (hargs _ (fun _ _ => rfl)) (hres' _ _ _), hvars _, rfl, ?_, ?_⟩, ?_⟩
    · intro b off hp
      have hin : MemPlace.cell b off ∈ before := by simpa using hp
      rw [hb.frozen (hlt _ hin)]
      exact hz b off hin
    · intro ha
      have := hn ha
      simpa using this
    · intro p hp _
      simpa using hp
end
end Go.Proofs.YtineijefefjpeaaDoor
