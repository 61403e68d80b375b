/-
  A range over a function: an iterator's contract; the statement; a round; a function that holds such a loop. Conditions: those of each lemma; no program occurs here.
-/
import Derived.Test.YtlihpgjabohebaaDoorRowx
namespace Go.Proofs.YtlihpgjabohebaaDoor
set_option linter.all false
open Go.RowKit

/-- What a round answers: go on, or stop. -/
def RoundR (bs : List Nat) (Ψ1 Ψx : World → Mem → Prop) (w : World) (m : Mem) : Ending → World → Prop := fun e w' => ∃ v m', e = .returned v ∧ ExtG bs w m w' m' ∧
  ((v = .bool true ∧ (Res.pack bs Ψ1).holds w' m') ∨ (v = .bool false ∧ (Res.pack bs Ψx).holds w' m'))
/-- A call of yield. -/
def YieldR (P : Program) (l : Nat) (args : List Value) (w : World) (R : Ending → World → Prop) : Prop :=
  ∃ fn tmps assign body, (Instr.yield l args.toArray).run P w = .ok (.round l fn tmps assign body) w ∧ RoundIn Fence.wide 0 P l fn tmps assign body w R
/-- What rounds promise to the one who calls yield with what is Y's. -/
def YieldW (P : Program) (l : Nat) (bs : List Nat) (m0 : Mem) (Y : Mem → List Value → Prop) (Ψ0 Ψ1 Ψx : World → Mem → Prop) : Prop :=
  ∀ w m args, Agree w m → MLe m0 m → Y m args → (Res.pack bs Ψ0).holds w m → YieldR P l args w (RoundR bs Ψ1 Ψx w m)
/-- An iterator's contract: N calls of yield, the i-th with what is Y i's, or less if one says stop. -/
def IterC (P : Program) (fid : FuncId) (cap : List Value) (N : Nat) (Y : Nat → Mem → List Value → Prop) (m0 : Mem) : Prop :=
  ∀ (l : Nat) (bs : List Nat) (Ψ : Nat → World → Mem → Prop) (Ψx : World → Mem → Prop) (w : World) (m : Mem), Agree w m → MLe m0 m → bs.Nodup → (Res.pack bs (Ψ 0)).holds w m →
    (∀ i, i < N → YieldW P l bs m0 (Y i) (Ψ i) (Ψ (i + 1)) Ψx) →
    FnG P fid (.func (.yield l) #[] #[] :: cap).toArray bs w m fun w' m' _ => (Res.pack bs fun w m => Ψ N w m ∨ Ψx w m).holds w' m'
theorem pack_mono {bs : List Nat} {ψ ψ' : World → Mem → Prop} {w : World} {m : Mem} (h : (Res.pack bs ψ).holds w m) (hh : ∀ w m, ψ w m → ψ' w m) : (Res.pack bs ψ').holds w m :=
  ⟨h.1, fun G w' m' hE hd => hh _ _ (h.2 G w' m' hE hd)⟩
theorem pack_at {bs : List Nat} {ψ : World → Mem → Prop} {w : World} {m : Mem} (h : (Res.pack bs ψ).holds w m) (ha : Agree w m) : ψ w m := h.2 [] w m (ExtG.refl _ ha) (by simp)
/-- What is said in words of resources, and of facts that only the snapshot bears. -/
theorem pack_of {α : Type} {bs : List Nat} {Ly : α → List Res} {J : α → Mem → Prop} (hJ : ∀ y m m', MLe m m' → J y m → J y m') {y : α} {w : World} {m : Mem} (hb : (Ly y).flatMap Res.blocks = bs)
    (h : ∀ r ∈ Ly y, r.holds w m) (hj : J y m) : (Res.pack bs fun w m => ∃ y, (Ly y).flatMap Res.blocks = bs ∧ (∀ r ∈ Ly y, r.holds w m) ∧ J y m).holds w m := by
  subst hb
  refine ⟨fun g hg => ?_, fun G w' m' hE hd => ⟨y, rfl, fun r hr => Res.keep (h r hr) hE fun g hg => hd g (List.mem_flatMap.2 ⟨r, hr, hg⟩), hJ y _ _ hE.le hj⟩⟩
  obtain ⟨r, hr, hgr⟩ := List.mem_flatMap.1 hg
  exact Res.lt (h r hr) g hgr
/-- A resource of which less is said. -/
theorem St.weaken {G0 : List Nat} {W : World} {mE : Mem} {L : List Res} {k : Nat} {r r' : Res} {w : World} {m : Mem} (h : St G0 W mE L w m) (hk : L[k]? = some r) (hb : r'.blocks = r.blocks) (hh : r.holds w m → r'.holds w m) : St G0 W mE (L.set k r') w m := by
  have hnd : r.blocks.Nodup := by
    have := h.loc.apart
    have hm := List.mem_of_getElem? hk
    have hs : List.Sublist r.blocks (L.flatMap Res.blocks) := by
      obtain ⟨a, b, e⟩ := List.append_of_mem hm
      rw [e]; simp only [List.flatMap_append, List.flatMap_cons]
      exact (List.sublist_append_left _ _).trans (List.sublist_append_right _ _)
    exact this.sublist hs
  exact h.touch hk ⟨ExtG.refl _ h.agree, hh (h.loc.at_ hk), by rw [hb]; exact hnd, fun g hg => .inl (by rw [← hb]; exact hg)⟩
section
variable {P : Program} {rd : Option Nat} {K : World → Mem → Prop} {m0 : Mem} {L : List Res} {us : List Nat} {ch : List (Nat × Bool)} {pre : List Ent} {T : List (Nat × Value)}
variable {dst : Option Nat} {ty : TypeId} {pos : String} {af : Array Edge} {gd : Option (Nat × Bool)}
/-- The operation that calls yield: the rounds' state is the resource that it changes. -/
theorem ob_yield [hK : KC K m0 L] {d : Nat} {f : Operand} {l : Nat} {xs : List Operand} {vs : List Value} {ats : Array TypeId} {bs : List Nat} {mY : Mem} {Y : Mem → List Value → Prop} {Ψ0 Ψ1 Ψx : World → Mem → Prop}
    (hf : ev us ch pre T f = some (.func (.yield l) #[] #[])) (hxs : Evs us ch pre T xs vs) (hY : YieldW P l bs mY Y Ψ0 Ψ1 Ψx) (hm : MLe mY m0) (hbs : bs.Nodup) (hv : ∀ w m, K w m → Y m vs) :
    ObT P K us ch pre T (fun _ => .pack bs Ψ0) (fun v => .pack bs fun w m => (v = .bool true ∧ Ψ1 w m) ∨ (v = .bool false ∧ Ψx w m)) ⟨some d, .call { callee := .value f, args := xs.toArray, argTypes := ats }, ty, pos, af, gd⟩ (.ex (MP.mem Value.bool (fun _ _ => True) (fun _ h => h))) := fun σ w m hk hr hn => by
  have hag := hK.agree hk
  obtain ⟨fn, tmps, assign, body, hrun, hR⟩ := hY w m vs hag (hm.trans (hK.le hk)) (hv w m hk) hr
  unfold Does
  rw [show (execOp (evalO σ) ⟨some d, .call { callee := .value f, args := xs.toArray, argTypes := ats }, ty, pos, af, gd⟩).run P w = .ok (.round l fn tmps assign body) w from by
    simp [execOp, resolve, Deferred.ofValue, hn.ev hf, hxs.map hn, invoke, hrun]]
  refine RoundIn.mono hR fun e w' ⟨v, m', e1, hE, h⟩ => ⟨v, e1, m', ⟨hE, ?_, hbs, fun g hg => .inl hg⟩, ?_⟩
  · rcases h with ⟨rfl, h⟩ | ⟨rfl, h⟩
    · exact pack_mono h fun w m hh => .inl ⟨rfl, hh⟩
    · exact pack_mono h fun w m hh => .inr ⟨rfl, hh⟩
  · rcases h with ⟨rfl, -⟩ | ⟨rfl, -⟩
    · exact ⟨true, rfl, trivial⟩
    · exact ⟨false, rfl, trivial⟩
end
/-- The other truth. -/
def notV : Value → Value
  | .bool b => .bool (!b)
  | v => v
theorem makes_not {P : Program} {l : List Oper} {pre : List Ent} {T : List (Nat × Value)} {d t : Nat} {bt ty : TypeId} {pos : String} {af : Array Edge} {p : Bool → Mem → Prop} {hp : ∀ {m m' : Mem} {y : Bool}, MLe m m' → p y m → p y m'}
    (hu : has (usesL l ⟨some d, .unOp .not bt (.tmp t), ty, pos, af, none⟩) t = true) (hf : find pre t = some (none, .val (.ex (MP.mem Value.bool p hp)))) :
    makesOf P l pre T ⟨some d, .unOp .not bt (.tmp t), ty, pos, af, none⟩ t notV := fun σ w m hn => by
  obtain ⟨b, e, _⟩ : (MP.mem Value.bool p hp).p m (σ t) := hn.ent t none _ (has_mem hu) hf (fun _ e => by cases e)
  have e' : σ t = .bool b := e
  unfold Does
  have : (execOp (evalO σ) ⟨some d, .unOp .not bt (.tmp t), ty, pos, af, none⟩).run P w = .ok (.value (.bool (!b))) w := by
    simp only [execOp, evalO, e']; rfl
  rw [this]
  exact ⟨by rw [e']; rfl, rfl⟩
/-- The loop's record. -/
def recR (l : Nat) (rc : Loop) : Res := .blk (.pointer (some ⟨l, 0, none⟩)) (.loop rc)
/-- The block for the calls that rounds put off: none. -/
def dblk (D : Nat) : Res := .blk (.pointer (some ⟨D, 0, none⟩)) (.deferred (some []))
def markD (D : Nat) : List Deferred := [{ target := .collected D, args := #[] }]
abbrev rcBusy (rc : Loop) : Loop := { rc with state := .busy }
abbrev rcDone (rc : Loop) (j : Option Code) : Loop := { rc with state := if j.isNone then .ready else .done, pending := j }
theorem blk_at {l : Nat} {o : Obj} {w : World} {m : Mem} (h : (Res.blk (.pointer (some ⟨l, 0, none⟩)) o).holds w m) : w.heap[l]? = some o ∧ ∀ off, m l off = none := by
  obtain ⟨g, e, h1, h2⟩ := h
  simp only [Value.pointer.injEq, Option.some.injEq, Addr.mk.injEq] at e
  obtain ⟨rfl, -⟩ := e
  exact ⟨h1, h2⟩
theorem touch_put {l : Nat} {rc rc' : Loop} {w : World} {m : Mem} (h : (recR l rc).holds w m) (ha : Agree w m) : Touch (recR l rc) (recR l rc') w m (w.putObj l (.loop rc')) m := by
  obtain ⟨hh, hm⟩ := blk_at h
  have hlt := lt_of_heap hh
  have hoth : ∀ k, k ≠ l → (w.putObj l (.loop rc')).heap[k]? = w.heap[k]? := fun k hk => World.putObj_heap_other hk
  have hag : Agree (w.putObj l (.loop rc')) m := by
    refine ⟨fun b o v e => ?_, fun b x e => ?_⟩
    · have hb : b ≠ l := fun e1 => by subst e1; rw [hm o] at e; cases e
      have := ha.cell b o v e
      unfold World.cell? at this ⊢
      simp only [hoth b hb]; exact this
    · have hb : b ≠ l := fun e1 => by subst e1; have := ha.map _ x e; rw [hh] at this; cases this
      rw [hoth b hb]; exact ha.map b x e
  exact ⟨⟨rfl, rfl, rfl, by simp, fun b _ hb => hoth b (by simpa [recR, Res.blocks, ptrBlock] using hb), hag, MLe.refl _, fun _ _ _ => ⟨rfl, rfl⟩⟩,
    ⟨l, rfl, World.putObj_heap_same hlt, hm⟩, by simp [recR, Res.blocks, ptrBlock], fun g hg => .inl hg⟩
def zipT : List Nat → List Value → List (Nat × Value)
  | p :: ps, v :: vs => (p, v) :: zipT ps vs
  | _, _ => []
theorem foldl_size (l : List (Nat × Value)) : ∀ (t : Array Value), (l.foldl (fun tmps x => tmps.setIfInBounds x.1 x.2) t).size = t.size := by
  induction l with
  | nil => intro t; rfl
  | cons x r ih => intro t; rw [List.foldl_cons, ih]; simp
theorem foldl_other (l : List (Nat × Value)) (k : Nat) (h : ∀ x ∈ l, x.1 ≠ k) : ∀ (t : Array Value), (l.foldl (fun tmps x => tmps.setIfInBounds x.1 x.2) t)[k]? = t[k]? := by
  induction l with
  | nil => intro t; rfl
  | cons x r ih =>
    intro t
    rw [List.foldl_cons, ih (fun y hy => h y (.tail _ hy)), Array.getElem?_setIfInBounds_ne (h x (.head _))]
theorem zipT_eq : ∀ (ps : List Nat) (vs : List Value), zipT ps vs = ps.zip vs
  | [], _ => rfl
  | _ :: _, [] => rfl
  | p :: ps, v :: vs => by rw [zipT, zipT_eq ps vs]; rfl
theorem look_zip : ∀ (ps : List Nat) (vs : List Value) (T : List (Nat × Value)) (t : Array Value), ps.Nodup → (∀ p ∈ ps, p < t.size) → vs.length = ps.length → ∀ k v, (k ∉ ps → look T k = some v → t.getD k undef = v) → look (zipT ps vs ++ T) k = some v →
    ((ps.zip vs).foldl (fun tmps x => tmps.setIfInBounds x.1 x.2) t).getD k undef = v
  | [], vs, T, t, _, _, _, k, v, hT, h => by simpa [zipT] using hT (by simp) (by simpa [zipT] using h)
  | p :: ps, [], T, t, _, _, hl, k, v, hT, h => by simp at hl
  | p :: ps, u :: vs, T, t, hn, hb, hl, k, v, hT, h => by
    rw [List.nodup_cons] at hn
    simp only [zipT, List.cons_append, look] at h
    rw [List.zip_cons_cons, List.foldl_cons]
    cases e : Nat.beq p k with
    | true =>
      rw [e] at h; rw [Nat.beq_eq] at e; subst e
      simp only [cond_true, Option.some.injEq] at h; subst h
      rw [Array.getD_eq_getD_getElem?, foldl_other _ _ (fun x hx (e : x.1 = p) => hn.1 (by have := (List.of_mem_zip (show (x.1, x.2) ∈ _ from hx)).1; rw [e] at this; exact this))]
      have hp := hb p (.head _)
      simp [hp]
    | false =>
      rw [e] at h
      have hne : p ≠ k := fun e' => by rw [← Nat.beq_eq] at e'; rw [e'] at e; cases e
      refine look_zip ps vs T (t.setIfInBounds p u) hn.2 (fun q hq => by simpa using hb q (.tail _ hq)) (by simpa using hl) k v (fun hk hl' => ?_) h
      rw [Array.getD_eq_getD_getElem?, Array.getElem?_setIfInBounds_ne hne, ← Array.getD_eq_getD_getElem?]
      exact hT (by rw [List.mem_cons, not_or]; exact ⟨fun e' => hne e'.symm, hk⟩) hl'
theorem zip_foldl (ps : Array Nat) (args : List Value) (t : Array Value) : (ps.zip args.toArray).foldl (fun tmps (t, a) => tmps.setIfInBounds t a) t = (ps.toList.zip args).foldl (fun tmps x => tmps.setIfInBounds x.1 x.2) t := by
  rw [← Array.foldl_toList, Array.toList_zip]
/-- What a round leaves. -/
def RoundQ {α : Type} (G0 : List Nat) (W : World) (mE : Mem) (l : Nat) (rc : Loop) (Ly : α → List Res) (bs0 : List Nat) (J1 Jx : α → Mem → Prop) : Exit → Act → World → Prop
  | .normal, _, w' => ∃ (y : α) (m' : Mem) (Lz : List Res) (k : Nat), St G0 W mE Lz w' m' ∧ Lz[k]? = some (recR l (rcBusy rc)) ∧ (Ly y).flatMap Res.blocks = bs0 ∧ (∀ r ∈ Ly y, r ∈ Lz) ∧ J1 y m'
  | .ret, _, w' => ∃ (y : α) (m' : Mem) (Lz : List Res) (k : Nat), St G0 W mE Lz w' m' ∧ Lz[k]? = some (recR l (rcBusy rc)) ∧ (Ly y).flatMap Res.blocks = bs0 ∧ (∀ r ∈ Ly y, r ∈ Lz) ∧ Jx y m'
  | _, _, _ => False
theorem RoundQ.next {α : Type} {G0 : List Nat} {W : World} {mE : Mem} {l : Nat} {rc : Loop} {Ly : α → List Res} {bs0 : List Nat} {J1 Jx : α → Mem → Prop} {a : Act} {w : World} {m : Mem} {Lz : List Res} {k n0 : Nat} (y : α) (hst : St G0 W mE Lz w m)
    (hk : Lz[k]? = some (recR l (rcBusy rc))) (hb : (Ly y).flatMap Res.blocks = bs0) (hin : Ly y = Lz.take n0) (hj : J1 y m) : RoundQ G0 W mE l rc Ly bs0 J1 Jx .normal a w := ⟨y, m, Lz, k, hst, hk, hb, fun r hr => List.mem_of_mem_take (hin ▸ hr), hj⟩
theorem RoundQ.left {α : Type} {G0 : List Nat} {W : World} {mE : Mem} {l : Nat} {rc : Loop} {Ly : α → List Res} {bs0 : List Nat} {J1 Jx : α → Mem → Prop} {a : Act} {w : World} {m : Mem} {Lz : List Res} {k n0 : Nat} (y : α) (hst : St G0 W mE Lz w m)
    (hk : Lz[k]? = some (recR l (rcBusy rc))) (hb : (Ly y).flatMap Res.blocks = bs0) (hin : Ly y = Lz.take n0) (hj : Jx y m) : RoundQ G0 W mE l rc Ly bs0 J1 Jx .ret a w := ⟨y, m, Lz, k, hst, hk, hb, fun r hr => List.mem_of_mem_take (hin ▸ hr), hj⟩
/-- The rounds' state. -/
def rndP {α : Type} (l : Nat) (rc : Loop) (Ly : α → List Res) (bs0 : List Nat) (J : α → Mem → Prop) : World → Mem → Prop := fun w m => ∃ y, (Ly y ++ [recR l rc]).flatMap Res.blocks = bs0 ++ [l] ∧ (∀ r ∈ Ly y ++ [recR l rc], r.holds w m) ∧ J y m
theorem rec_blocks (l : Nat) (rc : Loop) : (recR l rc).blocks = [l] := rfl
section
variable {P : Program}
theorem round_end {α : Type} {G0 : List Nat} {W : World} {mE : Mem} {l : Nat} {rc : Loop} {Ly : α → List Res} {bs0 : List Nat} {J1 Jx : α → Mem → Prop} (hrc : rc.state = .ready) (hrp : rc.pending = none)
    (hJ1 : ∀ y m m', MLe m m' → J1 y m → J1 y m') (hJx : ∀ y m m', MLe m m' → Jx y m → Jx y m') (hn : (bs0 ++ [l]).Nodup) (hG : ∀ g ∈ G0, g ∈ bs0 ++ [l]) {e : Exit} {a : Act} {w : World}
    (h : RoundQ G0 W mE l rc Ly bs0 J1 Jx e a w) : roundPost P l (RoundR (bs0 ++ [l]) (rndP l rc Ly bs0 J1) (rndP l (rcDone rc (some .ret)) Ly bs0 Jx) W mE) e a w := by
  have key : ∀ (j : Option Code) (y : α) (m' : Mem) (Lz : List Res) (k : Nat), St G0 W mE Lz w m' → Lz[k]? = some (recR l (rcBusy rc)) → (Ly y).flatMap Res.blocks = bs0 → (∀ r ∈ Ly y, r ∈ Lz) →
      ∀ w' rc', w' = w.putObj l (.loop (rcDone (rcBusy rc) j)) → rc' = rcDone (rcBusy rc) j → ExtG (bs0 ++ [l]) W mE w' m' ∧ (Ly y ++ [recR l rc']).flatMap Res.blocks = bs0 ++ [l] ∧ ∀ r ∈ Ly y ++ [recR l rc'], r.holds w' m' := by
    intro j y m' Lz k hst hk hb hin w' rc' hw' hrc'
    subst hw' hrc'
    have ht := touch_put (rc' := rcDone (rcBusy rc) j) (hst.loc.at_ hk) hst.agree
    have hst' := hst.touch hk ht
    refine ⟨hst'.ext.mono hG, by simp [rec_blocks, hb], fun r hr => ?_⟩
    rcases List.mem_append.1 hr with hr1 | hr1
    · refine Res.keep (hst.loc.all r (hin r hr1)) ht.ext fun g hg hg' => ?_
      rw [rec_blocks, List.mem_singleton] at hg'; subst hg'
      rw [List.nodup_append] at hn
      exact hn.2.2 _ (by rw [← hb]; exact List.mem_flatMap.2 ⟨r, hr1, hg⟩) _ (by simp) rfl
    · rw [List.mem_singleton] at hr1; subst hr1; exact ht.now
  cases e with
  | normal =>
    obtain ⟨y, m', Lz, k, hst, hk, hb, hin, hj⟩ := h
    refine ⟨_, _, run_endRound none (blk_at (hst.loc.at_ hk)).1, _, m', rfl, ?_, .inl ⟨rfl, ?_⟩⟩
    · exact (key none y m' Lz k hst hk hb hin _ _ rfl rfl).1
    · have e1 : rc = rcDone (rcBusy rc) none := by cases rc; simp only at hrc hrp; subst hrc; subst hrp; rfl
      have h1 := key none y m' Lz k hst hk hb hin _ rc rfl e1
      have h2 := pack_of (Ly := fun y => Ly y ++ [recR l rc]) (J := J1) hJ1 (y := y) h1.2.1 h1.2.2 hj
      exact pack_mono h2 fun w m hh => hh
  | ret =>
    obtain ⟨y, m', Lz, k, hst, hk, hb, hin, hj⟩ := h
    refine ⟨_, _, run_endRound (some .ret) (blk_at (hst.loc.at_ hk)).1, _, m', rfl, ?_, .inr ⟨rfl, ?_⟩⟩
    · exact (key (some .ret) y m' Lz k hst hk hb hin _ _ rfl rfl).1
    · have h1 := key (some .ret) y m' Lz k hst hk hb hin _ _ rfl rfl
      have h2 := pack_of (Ly := fun y => Ly y ++ [recR l (rcDone rc (some .ret))]) (J := Jx) hJx (y := y) h1.2.1 h1.2.2 hj
      exact pack_mono h2 fun w m hh => hh
  | exit id => exact h.elim
  | goto id => exact h.elim
  | panic c => exact h.elim
  | outgrown => exact h.elim
/-- The statement. -/
theorem rangeFunc_any {α : Type} {ps : Array Nat} {assign body : Code} {g : Operand} {n : Nat} {fid : FuncId} {cap : List Value} {Q : Exit → Act → World → Prop} {a : Act} {w : World} {m : Mem} {W : World} {mE : Mem} {G0 : List Nat} {T : List (Nat × Value)}
    (Ly : α → List Res) (N : Nat) (Y : Nat → Mem → List Value → Prop) (J : Nat → α → Mem → Prop) (Jx : α → Mem → Prop) (y0 : α)
    (hst : St G0 W mE (Ly y0) w m) (hfr : Fr ⟨n, []⟩ T a) (hg : evT0 T g = some (.func (.func fid) #[] cap.toArray)) (hc : ∀ args w, (callFunc fid args).run P w = .ok (.enter fid args) w)
    (hps : ps.toList.Nodup ∧ ∀ p ∈ ps.toList, p < n) (hJ : ∀ i y m m', MLe m m' → J i y m → J i y m') (hJx : ∀ y m m', MLe m m' → Jx y m → Jx y m') (h0 : J 0 y0 m) (hit : IterC P fid cap N Y m)
    (round : ∀ i, i < N → ∀ (y : α) (w1 : World) (m1 : Mem) (args : List Value) (l : Nat) (rc : Loop), MLe m m1 → Y i m1 args → J i y m1 → (Ly y).flatMap Res.blocks = (Ly y0).flatMap Res.blocks →
      args.length = ps.size ∧ ∀ (G1 : List Nat) a1, Fr ⟨n, []⟩ (zipT ps.toList args ++ T) a1 → St G1 w1 m1 (Ly y ++ [recR l rc]) w1 m1 →
        ∀ K, (∀ a2 w2 m2 Lz k, St G1 w1 m1 Lz w2 m2 → Lz[k]? = some (recR l rc) → (∀ w3, St G1 w1 m1 (Lz.set k (recR l (rcBusy rc))) w3 m2 → body.wpIn (rndF (some l)) 0 P (RoundQ G1 w1 m1 l rc Ly ((Ly y0).flatMap Res.blocks) (J (i + 1)) Jx) a2 w3) → K a2 w2) →
          assign.wpIn (rndF (some l)) 0 P (Exit.then K (fun _ _ _ => False)) a1 w1)
    (cont : ∀ y D l rc a' w' m', St G0 W mE (Ly y ++ [recR l rc, dblk D]) w' m' → MLe m m' → J N y m' → Fr ⟨n, markD D⟩ T a' → Q .normal a' w')
    (contx : ∀ y D l rc a' w' m', St G0 W mE (Ly y ++ [recR l rc, dblk D]) w' m' → MLe m m' → Jx y m' → Fr ⟨n, markD D⟩ T a' → Q .ret a' w') :
    (Code.rangeFunc g ps assign body).wpIn (rndF none) 0 P Q a w := by
  refine wpIn_rangeFunc fun fn _ => ?_
  let D := w.heap.size
  let l := w.heap.size + 1
  let rc : Loop := { state := .ready, pending := none, fn, tmps := a.tmps, params := ps, assign, body, defers := D }
  let w1 := (w.alloc (.deferred (some []))).alloc (.loop rc)
  let bs0 := (Ly y0).flatMap Res.blocks
  have hev : a.eval g = .func (.func fid) #[] cap.toArray := by rw [eval_eq]; exact evT0_eq hfr hg
  refine ⟨l, markD D, w1, { target := .fn (.func fid) cap.toArray, args := #[.func (.yield l) #[] #[]] }, w1, fid, #[.func (.yield l) #[] #[]] ++ cap.toArray, w1, run_enterLoop_outer _ _ _ _ _, ?_, fun _ _ => trivial, ?_, fun h => (by cases h), ?_⟩
  · have hf : a.eval (.const (.func (.yield l) #[] #[])) = .func (.yield l) #[] #[] := rfl
    simp [resolve, Deferred.ofValue, hev, hf]
  · simp [invoke, hc]
  -- the two new blocks
  have hk : ExtG [] w m w1 m := (ext_alloc hst.agree _).trans (ext_alloc (agree_alloc hst.agree _) _)
  have hst1 := hst.keep hk
  have hall : ∀ g ∈ (Ly y0).flatMap Res.blocks, g < w.heap.size := fun g hg => by
    obtain ⟨x, hx, hgx⟩ := List.mem_flatMap.1 hg; exact Res.lt (hst.loc.all x hx) g hgx
  have hD : (dblk D).holds w1 m := ⟨D, rfl, by
    show ((w.alloc (.deferred (some []))).alloc (.loop rc)).heap[w.heap.size]? = _
    rw [Below.heap_alloc _ _ _ (by simp)]; exact World.alloc_heap_new _ _, agree_none hst.agree (Nat.le_refl _)⟩
  have hl : (recR l rc).holds w1 m := ⟨l, rfl, by
    have h6 := World.alloc_heap_new (w.alloc (.deferred (some []))) (.loop rc)
    rw [World.size_alloc] at h6
    exact h6, agree_none hst.agree (by show w.heap.size ≤ w.heap.size + 1; omega)⟩
  have hst2 : St G0 W mE (Ly y0 ++ [recR l rc]) w1 m := hst1.more hl (by simp [recR, Res.blocks, ptrBlock]) fun g hg => by
    simp only [recR, Res.blocks, ptrBlock, List.mem_singleton] at hg; subst hg
    refine ⟨by have := hst.ext.size; show W.heap.size ≤ w.heap.size + 1; omega, fun hh => by have := hall _ hh; simp only [l] at this; omega⟩
  have hst3 : St G0 W mE ((Ly y0 ++ [recR l rc]) ++ [dblk D]) w1 m := hst2.more hD (by simp [dblk, Res.blocks, ptrBlock]) fun g hg => by
    simp only [dblk, Res.blocks, ptrBlock, List.mem_singleton] at hg; subst hg
    refine ⟨hst.ext.size, fun hh => ?_⟩
    rw [flat_append_one, List.mem_append] at hh
    rcases hh with hh | hh
    · have := hall _ hh; simp only [D] at this; omega
    · simp [recR, Res.blocks, ptrBlock, l, D] at hh
  have hflat : (Ly y0 ++ [recR l rc]).flatMap Res.blocks = bs0 ++ [l] := by simp [rec_blocks, bs0]
  have hnd : (bs0 ++ [l]).Nodup := by rw [← hflat]; exact hst2.loc.apart
  have hp0 := pack_of (Ly := fun y => Ly y ++ [recR l rc]) (J := J 0) (hJ 0) (y := y0) hflat hst2.loc.all h0
  have hcall := hit l (bs0 ++ [l]) (fun i => rndP l rc Ly bs0 (J i)) (rndP l (rcDone rc (some .ret)) Ly bs0 Jx) w1 m hk.agree (MLe.refl _) hnd hp0 ?_
  · rw [show (#[Value.func (.yield l) #[] #[]] ++ cap.toArray) = (.func (.yield l) #[] #[] :: cap : List Value).toArray by simp]
    refine callsIn_wide.2 (Calls.mono hcall fun e w2 ⟨v, m2, e1, hE, hp⟩ => ?_)
    subst e1
    have hstep : ∀ (y : α) (rc' : Loop) (w3 : World), (Ly y ++ [recR l rc']).flatMap Res.blocks = bs0 ++ [l] → (∀ r ∈ Ly y ++ [recR l rc'], r.holds w3 m2) → ExtG (bs0 ++ [l]) w1 m w3 m2 → St G0 W mE (Ly y ++ [recR l rc', dblk D]) w3 m2 := fun y rc' w3 hb hh hE' => by
      have ht : MTouch (Ly y0 ++ [recR l rc]) (Ly y ++ [recR l rc']) w1 m w3 m2 := ⟨by rw [hflat]; exact hE', hh, by rw [hb]; exact hnd, fun g hg => .inl (by rw [hflat, ← hb]; exact hg)⟩
      have h5 := St.multi (A := []) (B := [dblk D]) (by simpa using hst3) ht
      simpa using h5
    have hfr' : Fr ⟨n, markD D⟩ T { a with defers := markD D ++ a.defers } := ⟨by rw [hfr.defers]; rfl, hfr.size, hfr.at_⟩
    have hend : ∀ (y : α) (rc' : Loop), rc'.state ≠ .busy → (Ly y ++ [recR l rc']).flatMap Res.blocks = bs0 ++ [l] → (∀ r ∈ Ly y ++ [recR l rc'], r.holds w2 m2) → ∃ w3, (Instr.endLoop l).run P w2 = .ok rc'.pending w3 ∧ St G0 W mE (Ly y ++ [recR l { rc' with state := .exhausted }, dblk D]) w3 m2 := fun y rc' hb hbl hh => by
      have hr := hh (recR l rc') (by simp)
      refine ⟨_, run_endLoop (blk_at hr).1 hb, ?_⟩
      have ht := touch_put (rc' := { rc' with state := .exhausted }) hr hE.agree
      refine hstep y _ _ (by simpa [rec_blocks] using hbl) (fun r hr' => ?_) (hE.trans (ht.ext.mono fun g hg => by rw [rec_blocks, List.mem_singleton] at hg; subst hg; simp))
      rcases List.mem_append.1 hr' with hr1 | hr1
      · refine Res.keep (hh r (List.mem_append_left _ hr1)) ht.ext fun g hg hg' => ?_
        rw [rec_blocks, List.mem_singleton] at hg'; subst hg'
        have hb2 : (Ly y).flatMap Res.blocks = bs0 := by
          have : (Ly y).flatMap Res.blocks ++ [l] = bs0 ++ [l] := by simpa [rec_blocks] using hbl
          exact List.append_cancel_right this
        rw [List.nodup_append] at hnd
        exact hnd.2.2 _ (by rw [← hb2]; exact List.mem_flatMap.2 ⟨r, hr1, hg⟩) _ (by simp) rfl
      · rw [List.mem_singleton] at hr1; subst hr1; exact ht.now
    rcases pack_at hp hE.agree with ⟨y, hb, hh, hj⟩ | ⟨y, hb, hh, hj⟩
    · obtain ⟨w3, h1, h2⟩ := hend y rc (by simp [rc]) hb hh
      exact ⟨none, w3, h1, cont y D l _ _ w3 m2 h2 hE.le hj hfr'⟩
    · obtain ⟨w3, h1, h2⟩ := hend y (rcDone rc (some .ret)) (by simp [rcDone]) hb hh
      exact ⟨some .ret, w3, h1, wpIn_ret (contx y D l _ _ w3 m2 h2 hE.le hj hfr')⟩
  · intro i hi w2 m2 args ha hm hY hp
    obtain ⟨y, hb, hh, hj⟩ := pack_at hp ha
    have hb2 : (Ly y).flatMap Res.blocks = bs0 := by
      have : (Ly y).flatMap Res.blocks ++ [l] = bs0 ++ [l] := by simpa [rec_blocks] using hb
      exact List.append_cancel_right this
    obtain ⟨hlen, hr⟩ := round i hi y w2 m2 args l rc hm hY hj hb2
    have hrl := (blk_at (hh (recR l rc) (by simp))).1
    refine ⟨_, _, _, _, run_yield hrl (by simp [hlen, rc]), ?_⟩
    refine roundIn_of_wpIn trivial ?_
    have hst0 : St (bs0 ++ [l]) w2 m2 (Ly y ++ [recR l rc]) w2 m2 := ⟨ExtG.refl _ ha, hh, by rw [hb]; exact hnd, fun g hg => .inl (by rw [← hb]; exact hg)⟩
    refine hr (bs0 ++ [l]) _ ⟨rfl, ?_, fun t v e => ?_⟩ hst0 _ ?_
    · exact (congrArg Array.size (zip_foldl ps args a.tmps)).trans ((foldl_size _ _).trans hfr.size)
    · refine (congrArg (fun x : Array Value => x.getD t undef) (zip_foldl ps args a.tmps)).trans ?_
      exact look_zip _ _ _ _ hps.1 (fun p hp => by rw [hfr.size]; exact hps.2 p hp) (by simpa using hlen) t v (fun _ => hfr.at_ t v) e
    · intro a2 w3 m3 Lz k hst3 hk hbody
      have hrk := hst3.loc.at_ hk
      refine ⟨_, run_beginRound (blk_at hrk).1 rfl, ?_⟩
      have ht := touch_put (rc' := rcBusy rc) hrk hst3.agree
      exact wpIn_mono (hbody _ (hst3.touch hk ht)) fun e a w h => round_end rfl rfl (hJ (i + 1)) hJx hnd (fun g hg => hg) h
/-- The post of a body that holds a loop over a function. -/
abbrev PostM (P : Program) (fn : Func) (G0 : List Nat) (w : World) (m : Mem) (φ : World → Mem → Value → Prop) : Exit → Act → World → Prop :=
  bodyPostM (rndF none) 0 P fn fun e w' => ∃ v m', e = .returned v ∧ ExtG G0 w m w' m' ∧ φ w' m' v
theorem fn_enterM {f : FuncId} {fn : Func} {c : Code} {n : Nat} {vs : List Value} {G0 : List Nat} {w : World} {m : Mem} {φ : World → Mem → Value → Prop} (hf : P.funcs[f]? = some fn) (hb : fn.body = some c) (hn : fn.ntmps = n)
    (h : ∀ a, Fr ⟨n, []⟩ (numbered 0 vs) a → c.wpIn (rndF none) 0 P (PostM P fn G0 w m φ) a w) (hlen : Nat.ble vs.length n = true := by rfl) : FnG P f vs.toArray G0 w m φ := by
  have hl : vs.length ≤ n := Nat.le_of_ble_eq_true hlen
  refine (callsIn_wide (n := 0)).1 (callsIn_of_wp_marks (F := rndF none) hf hb trivial (h _ ⟨rfl, by simp [hn]; omega, fun t v e => ?_⟩))
  obtain ⟨_, h2⟩ := look_numbered vs 0 t v e
  simp only [Nat.sub_zero] at h2
  have hlt : t < vs.length := (List.getElem?_eq_some_iff.1 h2).1
  simp only [envOf, Array.getD_eq_getD_getElem?]
  rw [Array.getElem?_append_left (by simpa using hlt)]
  simp [h2]
theorem fn_retM0 {fn : Func} {G0 : List Nat} {W : World} {mE : Mem} {L : List Res} {φ : World → Mem → Value → Prop} {T : List (Nat × Value)} {n : Nat} {a : Act} {w : World} {m : Mem} {rs : List ResultVar} {vs : List Value}
    (hst : St G0 W mE L w m) (hfr : Fr ⟨n, []⟩ T a) (hr : fn.results = rs.toArray) (h : ResIs P w T rs vs) (hφ : φ w m (bundle vs)) : PostM P fn G0 W mE φ .ret a w := by
  show LeavesInM (rndF none) 0 P fn a.tmps _ a.defers .returning w
  rw [hfr.defers]
  exact ⟨_, results_run hr hfr h, _, m, rfl, hst.ext, hφ⟩
theorem touch_shut {D : Nat} {w : World} {m : Mem} (h : (dblk D).holds w m) (ha : Agree w m) : Touch (dblk D) (.blk (.pointer (some ⟨D, 0, none⟩)) (.deferred none)) w m (w.putObj D (.deferred none)) m := by
  obtain ⟨hh, hm⟩ := blk_at h
  have hlt := lt_of_heap hh
  have hoth : ∀ k, k ≠ D → (w.putObj D (.deferred none)).heap[k]? = w.heap[k]? := fun k hk => World.putObj_heap_other hk
  have hag : Agree (w.putObj D (.deferred none)) m := by
    refine ⟨fun b o v e => ?_, fun b x e => ?_⟩
    · have hb : b ≠ D := fun e1 => by subst e1; rw [hm o] at e; cases e
      have := ha.cell b o v e
      unfold World.cell? at this ⊢
      simp only [hoth b hb]; exact this
    · have hb : b ≠ D := fun e1 => by subst e1; have := ha.map _ x e; rw [hh] at this; cases this
      rw [hoth b hb]; exact ha.map b x e
  exact ⟨⟨rfl, rfl, rfl, by simp, fun b _ hb => hoth b (by simpa [dblk, Res.blocks, ptrBlock] using hb), hag, MLe.refl _, fun _ _ _ => ⟨rfl, rfl⟩⟩,
    ⟨D, rfl, World.putObj_heap_same hlt, hm⟩, by simp [Res.blocks, ptrBlock], fun g hg => .inl hg⟩
theorem fn_retM {fn : Func} {G0 : List Nat} {W : World} {mE : Mem} {L : List Res} {φ : World → Mem → Value → Prop} {T : List (Nat × Value)} {n D k : Nat} {a : Act} {w : World} {m : Mem} {rs : List ResultVar} {vs : List Value}
    (hst : St G0 W mE L w m) (hk : L[k]? = some (dblk D)) (hfr : Fr ⟨n, markD D⟩ T a) (hr : fn.results = rs.toArray) (h : ∀ w, St G0 W mE (L.set k (.blk (.pointer (some ⟨D, 0, none⟩)) (.deferred none))) w m → ResIs P w T rs vs) (hφ : ∀ w, φ w m (bundle vs)) : PostM P fn G0 W mE φ .ret a w := by
  show LeavesInM (rndF none) 0 P fn a.tmps _ a.defers .returning w
  rw [hfr.defers]
  have hd := hst.loc.at_ hk
  have hst' := hst.touch hk (touch_shut hd hst.agree)
  refine ⟨by simp, .inl ⟨D, _, rfl, run_takeDeferred (blk_at hd).1, ?_⟩⟩
  exact ⟨_, results_run hr (n := ⟨n, markD D⟩) hfr (h _ hst'), _, m, rfl, hst'.ext, hφ _⟩
end
end Go.Proofs.YtlihpgjabohebaaDoor
