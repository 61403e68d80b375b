/-
  Calls that change several resources at once; a region taken in parts. Conditions: those of each lemma; no program occurs here.
-/
import Derived.Test.YtfphefkfbhjfdaaMaps
namespace Go.Proofs.Ytfphefkfbhjfdaa
set_option linter.all false
open Go.RowKit
/-- A step that changes some resources. -/
structure MTouch (rs rs' : List Res) (w : World) (m : Mem) (w' : World) (m' : Mem) : Prop where
  ext : ExtG (rs.flatMap Res.blocks) w m w' m'
  now : ∀ r ∈ rs', r.holds w' m'
  nodup : (rs'.flatMap Res.blocks).Nodup
  where_ : ∀ g ∈ rs'.flatMap Res.blocks, g ∈ rs.flatMap Res.blocks ∨ w.heap.size ≤ g
theorem St.multi {G0 : List Nat} {W : World} {mE : Mem} {A B rs rs' : List Res} {w w' : World} {m m' : Mem} (h : St G0 W mE (A ++ (rs ++ B)) w m) (ht : MTouch rs rs' w m w' m') : St G0 W mE (A ++ (rs' ++ B)) w' m' := by
  have hlt : ∀ g ∈ (A ++ (rs ++ B)).flatMap Res.blocks, g < w.heap.size := fun g hg => by
    obtain ⟨x, hx, hgx⟩ := List.mem_flatMap.1 hg
    exact Res.lt (h.loc.all x hx) g hgx
  have hap := h.loc.apart
  simp only [List.flatMap_append] at hap hlt
  rw [List.nodup_append, List.nodup_append] at hap
  obtain ⟨nA, ⟨nR, nB, dRB⟩, dA⟩ := hap
  have hown := h.loc.own
  simp only [List.flatMap_append, List.mem_append] at hown
  refine ⟨h.ext.trans' ht.ext fun g hg => hown g (.inr (.inl hg)), fun x hx => ?_, ?_, fun g hg => ?_⟩
  · simp only [List.mem_append] at hx
    rcases hx with hx | hx | hx
    · exact Res.keep (h.loc.all x (List.mem_append_left _ hx)) ht.ext fun g hg hg' => dA g (List.mem_flatMap.2 ⟨x, hx, hg⟩) g (List.mem_append_left _ hg') rfl
    · exact ht.now x hx
    · exact Res.keep (h.loc.all x (List.mem_append_right _ (List.mem_append_right _ hx))) ht.ext fun g hg hg' => dRB g hg' g (List.mem_flatMap.2 ⟨x, hx, hg⟩) rfl
  · simp only [List.flatMap_append]
    rw [List.nodup_append, List.nodup_append]
    refine ⟨nA, ⟨ht.nodup, nB, fun a ha b hb e => ?_⟩, fun a ha b hb e => ?_⟩
    · subst e
      rcases ht.where_ a ha with h1 | h1
      · exact dRB a h1 a hb rfl
      · have := hlt a (List.mem_append_right _ (List.mem_append_right _ hb)); omega
    · subst e
      rcases List.mem_append.1 hb with hb | hb
      · rcases ht.where_ a hb with h1 | h1
        · exact dA a ha a (List.mem_append_left _ h1) rfl
        · have := hlt a (List.mem_append_left _ ha); omega
      · exact dA a ha a (List.mem_append_right _ hb) rfl
  · simp only [List.flatMap_append, List.mem_append] at hg
    rcases hg with hg | hg | hg
    · exact hown g (.inl hg)
    · rcases ht.where_ g hg with h1 | h1
      · exact hown g (.inr (.inl h1))
      · have := h.ext.size; exact .inr (by omega)
    · exact hown g (.inr (.inr hg))
/-- Some resources by themselves: what a function is handed. -/
theorem St.sub {G0 : List Nat} {W : World} {mE : Mem} {A B rs : List Res} {w : World} {m : Mem} (h : St G0 W mE (A ++ (rs ++ B)) w m) : Loc (rs.flatMap Res.blocks) w.heap.size rs w m := by
  have hap := h.loc.apart
  simp only [List.flatMap_append] at hap
  rw [List.nodup_append, List.nodup_append] at hap
  exact ⟨fun r hr => h.loc.all r (List.mem_append_right _ (List.mem_append_left _ hr)), hap.2.1.1, fun g hg => .inl hg⟩
/-- A function that changes resources: what it answers is so, and there are these resources behind it. -/
def FnR (P : Program) (f : FuncId) (args : Array Value) (rs : List Res) (w : World) (m : Mem) (φ : List Res → Mem → Value → Prop) : Prop :=
  FnG P f args (rs.flatMap Res.blocks) w m fun w' m' v => ∃ rs', Loc (rs.flatMap Res.blocks) w.heap.size rs' w' m' ∧ φ rs' m' v
theorem MTouch.of {rs rs' : List Res} {w w' : World} {m m' : Mem} (hE : ExtG (rs.flatMap Res.blocks) w m w' m') (hL : Loc (rs.flatMap Res.blocks) w.heap.size rs' w' m') : MTouch rs rs' w m w' m' :=
  ⟨hE, hL.all, hL.apart, hL.own⟩
section
variable {P : Program}
theorem cut_wp {K1 K2 K : Act → World → Prop} {Q : Exit → Act → World → Prop} {o : Oper} {a : Act} {w : World} (hK : ∀ a w, K1 a w → K2 a w) (h : o.wp P a w K1 (Exit.then K Q)) : o.wp P a w K2 Q := by
  have h := Oper.wp_mono hK h
  unfold Oper.wp at *
  generalize (execOp a.eval o).run P w = r at *
  cases r with
  | ok n w' =>
    cases n <;> first
      | exact h
      | exact Calls.mono h (fun e w'' h' => by cases e <;> exact h')
  | halt x w' => cases x <;> exact h
/-- A region that is not drawn, none of whose operations has a guard, in two parts. -/
theorem region_cut {Q : Exit → Act → World → Prop} {id : Nat} {l : List Oper} {a : Act} {w : World} (k : Nat) (hg : (l.all fun o => o.guard.isNone) = true)
    (h : wpOps P (l.take k).toArray (Exit.then (fun a w => wpOps P (l.drop k).toArray Q (List.range (l.drop k).length) a w) Q) (List.range (l.take k).length) a w) : (Code.region id l.toArray false).wp P Q a w := by
  have hgn : ∀ o ∈ l, o.guard = none := fun o ho => by simpa using List.all_eq_true.1 hg o ho
  have wantedAll : ∀ o ∈ l, ∀ y, Region.wanted o y = true := fun o ho y => by
    unfold Region.wanted; rw [hgn o ho]
  -- a run over a list that is no longer indexed
  have run : ∀ (l' : List Oper) (hl : ∀ o ∈ l', o ∈ l) (Q' : Exit → Act → World → Prop) (pre : List Oper) (a : Act) (w : World),
      wpOps P (pre ++ l').toArray Q' (List.range' pre.length l'.length) a w ↔ (l'.foldr (fun o K => fun a w => o.wp P a w K Q' ∨ (o.asks P a w ∧ LetsOut Q')) (Q' .normal)) a w := by
    intro l'
    induction l' with
    | nil => intro _ Q' pre a w; simp [wpOps]
    | cons o r ih =>
      intro hl Q' pre a w
      rw [List.length_cons, List.range'_succ, wpOps_cons]
      have hget : (pre ++ o :: r).toArray[pre.length]? = some o := by simp
      unfold wpOp
      rw [hget]
      simp only [wantedAll o (hl o (.head _)), if_true, List.foldr_cons]
      have e : ∀ a w, wpOps P (pre ++ o :: r).toArray Q' (List.range' (pre.length + 1) r.length) a w ↔ (r.foldr (fun o K => fun a w => o.wp P a w K Q' ∨ (o.asks P a w ∧ LetsOut Q')) (Q' .normal)) a w := fun a w => by
        have := ih (fun x hx => hl x (.tail _ hx)) Q' (pre ++ [o]) a w
        simpa using this
      have e2 : wpOps P (pre ++ o :: r).toArray Q' (List.range' (pre.length + 1) r.length) = (r.foldr (fun o K => fun a w => o.wp P a w K Q' ∨ (o.asks P a w ∧ LetsOut Q')) (Q' .normal)) := by
        funext a w; exact propext (e a w)
      rw [e2]
  have run0 : ∀ (l' : List Oper) (hl : ∀ o ∈ l', o ∈ l) (Q' : Exit → Act → World → Prop) (a : Act) (w : World),
      wpOps P l'.toArray Q' (List.range l'.length) a w ↔ (l'.foldr (fun o K => fun a w => o.wp P a w K Q' ∨ (o.asks P a w ∧ LetsOut Q')) (Q' .normal)) a w := fun l' hl Q' a w => by
    have := run l' hl Q' [] a w
    simpa [List.range_eq_range'] using this
  rw [run0 _ (fun o ho => List.mem_of_mem_take ho)] at h
  refine wp_region ?_
  rw [show l.toArray.size = l.length by simp, run0 l (fun o ho => ho), ← List.take_append_drop k l, List.foldr_append]
  have e3 : (fun a w => wpOps P (l.drop k).toArray Q (List.range (l.drop k).length) a w) = (l.drop k).foldr (fun o K => fun a w => o.wp P a w K Q ∨ (o.asks P a w ∧ LetsOut Q)) (Q .normal) := by
    funext a w; exact propext (run0 _ (fun o ho => List.mem_of_mem_drop ho) Q a w)
  have key : ∀ (l' : List Oper) (K : Act → World → Prop) (a : Act) (w : World),
      (l'.foldr (fun o K' => fun a w => o.wp P a w K' (Exit.then K Q) ∨ (o.asks P a w ∧ LetsOut (Exit.then K Q))) (Exit.then K Q .normal)) a w → (l'.foldr (fun o K' => fun a w => o.wp P a w K' Q ∨ (o.asks P a w ∧ LetsOut Q)) K) a w := by
    intro l' K
    induction l' with
    | nil => intro a w h; exact h
    | cons o r ih =>
      intro a w h
      simp only [List.foldr_cons] at h ⊢
      rcases h with h | ⟨h1, h2⟩
      · exact .inl (cut_wp ih h)
      · exact .inr ⟨h1, h2⟩
  have := key (l.take k) _ a w h
  rw [e3] at this
  exact this
/-- What an operand is, by the frame's slots alone. -/
def evT0 (T : List (Nat × Value)) : Operand → Option Value
  | .tmp t => look T t
  | .const v => some v
  | .global g => some (.pointer (some ⟨g, 0, none⟩))
  | .func f => some (.func (.func f) #[] #[])
theorem evT0_eq {n : Nat} {T : List (Nat × Value)} {a : Act} (h : Fr n T a) {x : Operand} {v : Value} (e : evT0 T x = some v) : evalO (envOf a) x = v := by
  cases x with
  | tmp t => exact h.at_ t v e
  | const u => injection e
  | global g => injection e
  | func f => injection e
inductive EvTs (T : List (Nat × Value)) : List Operand → List Value → Prop where
  | nil : EvTs T [] []
  | cons {x : Operand} {v : Value} {xs : List Operand} {vs : List Value} (h : evT0 T x = some v) (hs : EvTs T xs vs) : EvTs T (x :: xs) (v :: vs)
theorem EvTs.map {n : Nat} {T : List (Nat × Value)} {a : Act} (h : Fr n T a) {xs : List Operand} {vs : List Value} (hx : EvTs T xs vs) : xs.map (evalO (envOf a)) = vs := by
  induction hx with
  | nil => rfl
  | cons h1 _ ih => simp [evT0_eq h h1, ih]
theorem Fr.put {n d : Nat} {T : List (Nat × Value)} {a : Act} {v : Value} (h : Fr n T a) (hd : Nat.ble (d + 1) n = true) (hl : look T d = none) : Fr n ((d, v) :: T) (a.put (some d) v) := by
  have hd' : d < a.tmps.size := by have := Nat.le_of_ble_eq_true hd; have := h.size; omega
  refine ⟨by rw [put_defers]; exact h.defers, by rw [put_size]; exact h.size, fun t u e => ?_⟩
  rw [envOf_put hd']
  simp only [look] at e
  cases hb : Nat.beq d t with
  | true => rw [hb] at e; rw [Nat.beq_eq] at hb; simp at e; rw [if_pos hb]; exact e
  | false =>
    rw [hb] at e
    have hne : ¬ d = t := fun e' => by rw [← Nat.beq_eq] at e'; rw [e'] at hb; cases hb
    rw [if_neg hne]; exact h.at_ t u e
theorem Fr.put0 {n : Nat} {T : List (Nat × Value)} {a : Act} {v : Value} (h : Fr n T a) : Fr n T (a.put none v) := h
/-- A call by itself, whatever it changes. -/
theorem call_step {Q : Exit → Act → World → Prop} {n : Nat} {T : List (Nat × Value)} {a : Act} {w : World} {dst : Option Nat} {ty : TypeId} {pos : String} {af : Array Edge} {f : Operand} {fid : FuncId} {cap : List Value} {xs : List Operand} {vs : List Value} {ats : Array TypeId} {R : Value → World → Prop}
    (hfr : Fr n T a) (hf : evT0 T f = some (.func (.func fid) #[] cap.toArray)) (hxs : EvTs T xs vs) (hc : ∀ args w, (callFunc fid args).run P w = .ok (.enter fid args) w)
    (h : Calls P fid (vs ++ cap).toArray w fun e w' => ∃ v, e = .returned v ∧ R v w') (cont : ∀ v w', R v w' → Q .normal (a.put dst v) w') :
    wpOps P [(⟨dst, .call { callee := .value f, args := xs.toArray, argTypes := ats }, ty, pos, af, none⟩ : Oper)].toArray Q (List.range 1) a w := by
  have hr : List.range 1 = [0] := rfl
  rw [hr, wpOps_cons]
  unfold wpOp
  simp only [List.getElem?_toArray, List.getElem?_cons_zero]
  rw [if_pos (by unfold Region.wanted; rfl)]
  refine .inl (wp_of_does (R := R) ?_ fun v w' hv => ?_)
  · unfold Does
    rw [show (execOp (evalO (envOf a)) ⟨dst, .call { callee := .value f, args := xs.toArray, argTypes := ats }, ty, pos, af, none⟩).run P w = .ok (.enter fid (vs ++ cap).toArray) w from by
      simp [execOp, resolve, Deferred.ofValue, evT0_eq hfr hf, hxs.map hfr, invoke, hc]]
    exact h
  · simp only [wpOps]; exact cont v w' hv
/-- .. one that changes some of the activation's resources. -/
theorem call_res {Q : Exit → Act → World → Prop} {n : Nat} {T : List (Nat × Value)} {a : Act} {w : World} {m : Mem} {dst : Option Nat} {ty : TypeId} {pos : String} {af : Array Edge} {f : Operand} {fid : FuncId} {cap : List Value} {xs : List Operand} {vs : List Value} {ats : Array TypeId}
    {G0 : List Nat} {W : World} {mE : Mem} (A B rs : List Res) {φ : List Res → Mem → Value → Prop} (hst : St G0 W mE (A ++ (rs ++ B)) w m) (hfr : Fr n T a) (hf : evT0 T f = some (.func (.func fid) #[] cap.toArray)) (hxs : EvTs T xs vs)
    (hc : ∀ args w, (callFunc fid args).run P w = .ok (.enter fid args) w) (h : FnR P fid (vs ++ cap).toArray rs w m φ)
    (cont : ∀ v w' m' rs', St G0 W mE (A ++ (rs' ++ B)) w' m' → MLe m m' → φ rs' m' v → Q .normal (a.put dst v) w') :
    wpOps P [(⟨dst, .call { callee := .value f, args := xs.toArray, argTypes := ats }, ty, pos, af, none⟩ : Oper)].toArray Q (List.range 1) a w :=
  call_step (R := fun v w' => ∃ m' rs', St G0 W mE (A ++ (rs' ++ B)) w' m' ∧ MLe m m' ∧ φ rs' m' v) hfr hf hxs hc
    (Calls.mono h fun e w' ⟨v, m', e1, hE, rs', hL, hφ⟩ => ⟨v, e1, m', rs', hst.multi (MTouch.of hE hL), hE.le, hφ⟩) fun v w' ⟨m', rs', h1, h2, h3⟩ => cont v w' m' rs' h1 h2 h3
/-- The first part's end: a sequence of operations, as region_seq has it. -/
theorem ops_seq {Q : Exit → Act → World → Prop} {n : Nat} {a : Act} {w : World} {m : Mem} {fin : List Ent} {W : World} {mE : Mem} {G0 : List Nat} {L : List Res} {tch : Tch} {l : List Oper} {T : List (Nat × Value)}
    (hst : St G0 W mE L w m) (hfr : Fr n T a)
    (hchk : chk (seqd l) = true) (htch : tchk (seqd l) tch = true) (hd : dchk n (seqd l) = true)
    (hob : Obls P (seqd l) G0 W mE m L tch T 0 [] (seqd l) fin)
    (cont : ∀ (a' : Act) (w' : World) (m' : Mem), St G0 W mE (Lfin (valOf (seqd l) (envOf a')) tch L) w' m' → MLe m m' → FinK n fin T a' m' → Q .normal a' w') :
    wpOps P l.toArray Q (List.range l.length) a w := by
  have h := region_ops hst hfr hchk htch hd hob cont
  have hs : (seqd l).toArray.size = l.length := by simp [seqd]
  rw [hs] at h
  exact wpOps_seqd l Q _ a w h
/-- The cells of a row of one's own, read. -/
theorem Res.row_at {v : Value} {n size : Nat} {e : TypeId} {xs : List Value} {w : World} {m : Mem} (h : (Res.row v n size e xs).holds w m) : ∃ o cap, v = .slice o n cap ∧ RowAt m o xs ∧ n ≤ cap ∧ cap ≤ maxLen ∧ xs.length = n * size := by
  obtain ⟨hl, h⟩ := h
  rcases h with ⟨rfl, rfl⟩ | ⟨g, cap, cur, rfl, _, h1, h2, _, _, h5, _⟩
  · exact ⟨none, 0, rfl, .inl (List.eq_nil_of_length_eq_zero (by simpa using hl)), Nat.le_refl _, Nat.zero_le _, hl⟩
  · exact ⟨_, cap, rfl, .inr ⟨_, rfl, rfl, fun i u hu => by rw [Nat.zero_add]; exact h5 i u hu⟩, h1, h2, hl⟩
theorem loc_one {r : Res} {w : World} {m : Mem} (h : r.holds w m) (hn : r.blocks.Nodup) : Loc r.blocks w.heap.size [r] w m :=
  ⟨fun x hx => by rw [List.mem_singleton] at hx; subst hx; exact h, by simpa using hn, fun g hg => .inl (by simpa using hg)⟩
theorem rowBlock_nodup (v : Value) : (rowBlock v).Nodup := by
  unfold rowBlock; split <;> simp
theorem row_nodup (v : Value) (n size : Nat) (e : TypeId) (xs : List Value) : (Res.row v n size e xs).blocks.Nodup := rowBlock_nodup v
/-- What a function leaves of the one resource that it was handed. -/
theorem touch_of {r r' : Res} {w w' : World} {m m' : Mem} (hE : ExtG r.blocks w m w' m') (hL : Loc r.blocks w.heap.size [r'] w' m') : Touch r r' w m w' m' :=
  ⟨hE, hL.all r' (.head _), by simpa using hL.apart, fun g hg => hL.own g (by simpa using hg)⟩
abbrev intV (x : Int) : Value := .int .i64 x
end
end Go.Proofs.Ytfphefkfbhjfdaa
