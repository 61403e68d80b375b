/-
  Maps of the activation's own, and maps of the snapshot. Conditions: those of each lemma; no program occurs here.
-/
import Derived.Test.YtineijefefjpeaaDoorMore
import Derived.MapKept
namespace Go.Proofs.YtineijefefjpeaaDoor
set_option linter.all false
open Go.RowKit Go.MapKept
/-- The last resources forgotten. -/
theorem St.take {G0 : List Nat} {W : World} {mE : Mem} {L : List Res} {w : World} {m : Mem} (h : St G0 W mE L w m) (k : Nat) : St G0 W mE (L.take k) w m :=
  have hs : L.flatMap Res.blocks = (L.take k).flatMap Res.blocks ++ (L.drop k).flatMap Res.blocks := by rw [← List.flatMap_append, List.take_append_drop]
  ⟨h.ext, fun r hr => h.loc.all r (List.mem_of_mem_take hr), by have := h.loc.apart; rw [hs] at this; exact (List.nodup_append.1 this).1, fun g hg => h.loc.own g (by rw [hs]; exact List.mem_append_left _ hg)⟩
/-- One element of a slice. -/
theorem Sl.nth {α : Type} {R : Mem → List Value → α → Prop} {sz : Nat} {m : Mem} {o : Option Addr} {n cap : Nat} {xs : List α} (h : Sl R sz m o n cap xs) {k : Nat} (hk : k < xs.length) :
    ∃ p vs x, o = some p ∧ xs.drop k = x :: xs.drop (k + 1) ∧ x ∈ xs ∧ xs.take (k + 1) = xs.take k ++ [x] ∧ CellsAt m (p.add (k * sz)) vs ∧ vs.length = sz ∧ R m vs x := by
  obtain ⟨p, vs, e, hc, hl', hr⟩ := h.at_ k xs[k] (List.getElem?_eq_getElem hk)
  exact ⟨p, vs, xs[k], e, List.drop_eq_getElem_cons hk, List.getElem_mem hk, List.take_succ_eq_append_getElem hk, hc, hl', hr⟩
/-- A kind of keys: strings, ints. -/
structure Keys {κ : Type} [DecidableEq κ] (d : TypeDesc) (enc : κ → Value) : Prop where
  key : ∀ a, IsKey d (enc a)
  same : ∀ a b, Instr.sameNow d (enc a) (enc b) = some (decide (a = b))
theorem keys_S : Keys .string S := ⟨fun _ => trivial, fun a b => by
  show some ((⟨a.toArray⟩ : ByteArray) == ⟨b.toArray⟩) = _
  congr 1
  by_cases h : a = b
  · subst h; simp [bytes_beq]
  · have : ¬ ((⟨a.toArray⟩ : ByteArray) = ⟨b.toArray⟩) := fun e => h (by injection e with e; simpa using e)
    rw [decide_eq_false h]; exact Bool.eq_false_iff.2 fun e => this ((bytes_beq _ _).1 e)⟩
theorem keys_I : Keys (.int .i64) (fun n : Int => Value.int .i64 n) := ⟨fun _ => by simp [IsKey], fun a b => by simp [Instr.sameNow]; rfl⟩
section
variable {κ : Type} [DecidableEq κ]
def alook (k : κ) : List (κ × Value) → Option Value
  | [] => none
  | (a, v) :: r => if k = a then some v else alook k r
def aset (k : κ) (v : Value) : List (κ × Value) → List (κ × Value)
  | [] => [(k, v)]
  | (a, u) :: r => if k = a then (a, v) :: r else (a, u) :: aset k v r
def aidx (k : κ) : List (κ × Value) → Nat → Option (Nat × Value)
  | [], _ => none
  | (a, v) :: r, i => if k = a then some (i, v) else aidx k r (i + 1)
def encs (enc : κ → Value) (es : List (κ × Value)) : List (Value × Value) := es.map fun p => (enc p.1, p.2)
theorem alook_aidx (k : κ) : ∀ (es : List (κ × Value)) (i : Nat), alook k es = (aidx k es i).map (·.2)
  | [], _ => rfl
  | (a, v) :: r, i => by simp only [alook, aidx]; split <;> simp [alook_aidx k r (i + 1)]
theorem findNow_enc {d : TypeDesc} {enc : κ → Value} (hK : Keys d enc) (k : κ) : ∀ (l : List MapEntry) (es : List (κ × Value)) (i : Nat), (l.map fun e => (e.key, e.val)) = encs enc es → Instr.findNow d (enc k) l i = some (aidx k es i)
  | [], [], _, _ => rfl
  | [], _ :: _, _, h => by simp [encs] at h
  | _ :: _, [], _, h => by simp [encs] at h
  | e :: l, (a, v) :: es, i, h => by
    simp only [encs, List.map_cons, List.cons.injEq, Prod.mk.injEq] at h
    obtain ⟨⟨h1, h2⟩, h3⟩ := h
    simp only [Instr.findNow, h1, h2, hK.same, aidx]
    by_cases hka : k = a
    · simp [hka]
    · simp only [hka, decide_false, if_false]
      exact findNow_enc hK k l es (i + 1) h3
theorem aset_none (k : κ) (v : Value) : ∀ (es : List (κ × Value)) (i : Nat), aidx k es i = none → aset k v es = es ++ [(k, v)]
  | [], _, _ => rfl
  | (a, u) :: r, i, h => by
    simp only [aidx] at h
    split at h
    · cases h
    · rename_i hne; simp only [aset, hne, if_false, List.cons_append, aset_none k v r (i + 1) h]
theorem aset_some (k : κ) (v : Value) : ∀ (es : List (κ × Value)) (i j : Nat) (u : Value), aidx k es i = some (j, u) → i ≤ j ∧ es[j - i]? = some (k, u) ∧ aset k v es = es.set (j - i) (k, v)
  | [], _, _, _, h => by cases h
  | (a, u') :: r, i, j, u, h => by
    simp only [aidx] at h
    split at h
    · rename_i hk
      simp only [Option.some.injEq, Prod.mk.injEq] at h
      obtain ⟨rfl, rfl⟩ := h
      subst hk
      simp [aset]
    · rename_i hne
      obtain ⟨h1, h2, h3⟩ := aset_some k v r (i + 1) j u h
      have e : j - i = (j - (i + 1)) + 1 := by omega
      refine ⟨by omega, by rw [e]; simpa using h2, ?_⟩
      rw [e]; simp only [aset, hne, if_false, List.set_cons_succ, h3]
theorem run_update {P : Program} {w : World} {g : Nat} {ents : Array MapEntry} {clock : Nat} {mt kt et : TypeId} {d : TypeDesc} {enc : κ → Value} {es : List (κ × Value)} (hK : Keys d enc) (hm : P.underlying mt = some (.map kt et)) (hd : P.underlying kt = some d)
    (hh : w.heap[g]? = some (.map ents clock)) (he : entriesOf ents = encs enc es) (k : κ) (v : Value) :
    ∃ ents' clock', (Instr.mapUpdate mt (.map (some g)) (enc k) v).run P w = .ok () { w with heap := w.heap.setIfInBounds g (.map ents' clock') } ∧ entriesOf ents' = encs enc (aset k v es) := by
  have hf := findNow_enc hK k ents.toList es 0 he
  have hget : (getObj g).run P w = .ok (.map ents clock) w := by simp [getObj, Sem.run, hh]
  cases ha : aidx k es 0 with
  | none =>
    rw [ha] at hf
    refine ⟨ents.push { key := enc k, val := v, born := clock }, clock + 1, ?_, ?_⟩
    · simp [Instr.mapUpdate, run_underlying hm, Result.andThen, hget, run_checkKey hd (hK.key k), run_findKey hd hf, run_setObj_map _ hh]
    · rw [aset_none k v es 0 ha]
      simp only [entriesOf, encs, Array.toList_push, List.map_append, List.map_cons, List.map_nil] at he ⊢
      rw [he]
  | some x =>
    obtain ⟨j, u⟩ := x
    rw [ha] at hf
    obtain ⟨_, h2, h3⟩ := aset_some k v es 0 j u ha
    simp only [Nat.sub_zero] at h2 h3
    have hlen : ents.size = es.length := by have := congrArg List.length he; simpa [entriesOf, encs] using this
    have hj : j < es.length := (List.getElem?_eq_some_iff.1 h2).1
    have hkey : (ents[j]'(by omega)).key = enc k := by
      have h4 := congrArg (fun l => l[j]?) he
      simp only [entriesOf, encs, List.getElem?_map, h2, Array.getElem?_toList, Array.getElem?_eq_getElem (show j < ents.size by omega), Option.map_some, Option.some.injEq, Prod.mk.injEq] at h4
      exact h4.1
    refine ⟨ents.modify j fun e => { e with key := enc k, val := v }, clock, ?_, ?_⟩
    · simp [Instr.mapUpdate, run_underlying hm, Result.andThen, hget, run_checkKey hd (hK.key k), run_findKey hd hf, Array.getElem?_eq_getElem (show j < ents.size by omega), hkey, run_keyThatStays (hK.key k), run_setObj_map _ hh]
    · rw [h3]
      apply List.ext_getElem?
      intro i
      have hi := congrArg (fun l => l[i]?) he
      simp only [entriesOf, encs, List.getElem?_map, Array.getElem?_toList] at hi ⊢
      rw [Array.getElem?_modify, List.getElem?_set]
      by_cases hij : j = i
      · subst hij
        simp [Array.getElem?_eq_getElem (show j < ents.size by omega), hj]
      · simp only [hij, if_false]; exact hi
end
section
variable {P : Program} {K : World → Mem → Prop} {m0 : Mem} {L : List Res} {us : List Nat} {ch : List (Nat × Bool)} {pre : List Ent} {T : List (Nat × Value)}
variable {dst : Option Nat} {ty : TypeId} {pos : String} {af : Array Edge} {gd : Option (Nat × Bool)}
/-- A map's value. -/
def MP.mapv : MP := MP.mem (fun g => .map (some g)) (fun _ _ => True) fun _ h => h
theorem ob_makeMapL [hK : KC K m0 L] {d : Nat} {t : TypeId} :
    ObT P K us ch pre T (fun _ => .free) (fun v => .map v []) ⟨some d, .makeMap t none, ty, pos, af, gd⟩ (.ex MP.mapv) := fun σ w m hk _ hn => by
  have hr : (execOp (evalO σ) ⟨some d, .makeMap t none, ty, pos, af, gd⟩).run P w = .ok (.value (.map (some w.heap.size))) (w.alloc (.map #[] 0)) := by
    simp only [execOp, Option.map_none]; rfl
  unfold Does; rw [hr]
  have ha := hK.agree hk
  exact ⟨m, ⟨(ext_alloc ha _).mono (by simp), ⟨w.heap.size, #[], 0, rfl, heap_alloc_new w _, rfl, agree_noneM ha (Nat.le_refl _)⟩, by simp [keepP, stTmp, keepV, Res.blocks, mapBlock], by simp [keepP, stTmp, keepV, Res.blocks, mapBlock]⟩, _, rfl, trivial⟩
theorem ob_makeMapK [hK : KC K m0 L] {κ : Type} {d : Nat} {t : TypeId} (enc : κ → Value) :
    ObT P K us ch pre T (fun _ => .free) (fun v => .map v (encs enc ([] : List (κ × Value)))) ⟨some d, .makeMap t none, ty, pos, af, gd⟩ (.ex MP.mapv) := ob_makeMapL
theorem touch_map {w : World} {m : Mem} {v : Value} {g : Nat} {ents ents' : Array MapEntry} {clock clock' : Nat} {es es' : List (Value × Value)} (ha : Agree w m) (hv : v = .map (some g)) (hh : w.heap[g]? = some (.map ents clock)) (hm : m.mp g = none) (he' : entriesOf ents' = es') :
    Touch (.map v es) (.map v es') w m { w with heap := w.heap.setIfInBounds g (.map ents' clock') } m := by
  subst hv
  obtain ⟨h1, h2⟩ := heap_set (o' := .map ents' clock') hh
  refine ⟨⟨rfl, rfl, rfl, by simp, fun b _ hb => h2 b (fun e => hb (by simp [Res.blocks, mapBlock, e])), ⟨fun b o u hu => ?_, fun b es e => ?_⟩, MLe.refl _, fun _ _ _ => ⟨rfl, rfl⟩⟩, ⟨g, ents', clock', rfl, h1, he', hm⟩, by simp [Res.blocks, mapBlock], fun g' hg => .inl hg⟩
  · have hc := ha.cell b o u hu
    have hb : b ≠ g := fun e => by subst e; unfold World.cell? at hc; simp only [hh] at hc; cases hc
    rw [World.cell?_of_block (h2 b hb)]; exact hc
  · obtain ⟨ents, cl, h3, h4⟩ := ha.map b es e
    have hb : b ≠ g := fun e' => by subst e'; rw [hm] at e; cases e
    exact ⟨ents, cl, (h2 b hb).trans h3, h4⟩
/-- An entry into a map that this region has made. -/
theorem ob_insertF [hK : KC K m0 L] {κ : Type} [DecidableEq κ] {enc : κ → Value} {d : TypeDesc} {t kt et : TypeId} {p : Nat} {y z : Operand} {k : κ} {v : Value} {es : List (κ × Value)} (hKe : Keys d enc) (hf : (find pre p).isSome = true) (hy : ev us ch pre T y = some (enc k)) (hz : ev us ch pre T z = some v)
    (hm : P.underlying t = some (.map kt et)) (hd : P.underlying kt = some d) :
    ObT P K us ch pre T (fun σ => .map (σ p) (encs enc es)) (fun x => .map x (encs enc (aset k v es))) ⟨none, .insert t (.tmp p) y z, ty, pos, af, gd⟩ (.ex MP.any) := fun σ w m hk hr hkn => by
  obtain ⟨g, ents, clock, e1, hh, he, hmp⟩ := hr
  obtain ⟨ents', clock', hrun, he'⟩ := run_update (P := P) hKe hm hd hh he k v
  have e2 : ∀ v, keepP pre ⟨none, .insert t (.tmp p) y z, ty, pos, af, gd⟩ σ v = σ p := fun v => by
    obtain ⟨q, hq⟩ := Option.isSome_iff_exists.1 hf
    unfold keepP stTmp
    simp only [hq]
  have hx : (execOp (evalO σ) ⟨none, .insert t (.tmp p) y z, ty, pos, af, gd⟩).run P w = .ok .skip { w with heap := w.heap.setIfInBounds g (.map ents' clock') } := by
    have e3 : evalO σ (.tmp p) = .map (some g) := e1
    simp only [execOp, hkn.ev hy, hkn.ev hz, e3]
    rw [Sem.run_bind, hrun]; rfl
  unfold Does; rw [hx]
  refine ⟨m, ?_, _, rfl, trivial⟩
  simp only [e2]
  exact touch_map (hK.agree hk) e1 hh hmp he'
theorem ob_lookup [hK : KC K m0 L] {κ : Type} [DecidableEq κ] {enc : κ → Value} {d : TypeDesc} {t kt et : TypeId} {x y : Operand} {k : κ} {g j : Nat} {z v : Value} {b : Bool} {es : List (κ × Value)} (hKe : Keys d enc) (hx : ev us ch pre T x = some (.map (some g))) (hy : ev us ch pre T y = some (enc k))
    (hL : L[j]? = some (.map (.map (some g)) (encs enc es))) (hm : P.underlying t = some (.map kt et)) (hd : P.underlying kt = some d) (hz : ∀ w, (zeroValue et).run P w = .ok z w)
    (hv : (match alook k es with | some u => (u, true) | none => (z, false)) = (v, b)) :
    Ob P K us ch pre T ⟨dst, .lookup t x y true, ty, pos, af, gd⟩ (.eq (.tuple #[v, .bool b])) :=
  ob_val fun σ w m hk hn => by
    obtain ⟨g', ents, clock, e1, hh, he, _⟩ := hK.at_ hk hL
    injection e1 with e1; injection e1 with e1; subst e1
    have hf := findNow_enc hKe k ents.toList es 0 he
    have hget : (getObj g).run P w = .ok (.map ents clock) w := by simp [getObj, Sem.run, hh]
    rw [alook_aidx k es 0] at hv
    cases ha : aidx k es 0 with
    | none =>
      rw [ha] at hf hv
      simp only [Option.map_none, Prod.mk.injEq] at hv
      obtain ⟨rfl, rfl⟩ := hv
      simp [execOp, hn.ev hx, hn.ev hy, Instr.lookup, run_underlying hm, Result.andThen, hget, run_checkKey hd (hKe.key k), run_findKey hd hf, hz]
    | some q =>
      rw [ha] at hf hv
      simp only [Option.map_some, Prod.mk.injEq] at hv
      obtain ⟨rfl, rfl⟩ := hv
      simp [execOp, hn.ev hx, hn.ev hy, Instr.lookup, run_underlying hm, Result.andThen, hget, run_checkKey hd (hKe.key k), run_findKey hd hf]
end
end Go.Proofs.YtineijefefjpeaaDoor
