/-
  Maps that lie in the snapshot; maps of one's own that are written; rows of maps. Conditions: those of each lemma; no program occurs here.
-/
import Derived.Test.YtfphefkfbhjfdaaRowx
import Derived.Lib.SliceRun
namespace Go.Proofs.Ytfphefkfbhjfdaa
set_option linter.all false
open Go.RowKit Go.MapKept
/-- A map of the snapshot, and its entries. -/
def MapAt {κ : Type} (ek : κ → Value) (m : Mem) (g : Nat) (es : List (κ × Value)) : Prop := ∃ ents clock, m.mp g = some (ents, clock) ∧ entriesOf ents = encs ek es ∧ Stamps ents clock
theorem MapAt.mono {κ : Type} {ek : κ → Value} {m m' : Mem} {g : Nat} {es : List (κ × Value)} (h : MapAt ek m g es) (hm : MLe m m') : MapAt ek m' g es := by obtain ⟨e, c, h1, h2⟩ := h; exact ⟨e, c, hm.map _ _ h1, h2⟩
def MapR {κ : Type} (ek : κ → Value) (m : Mem) (vs : List Value) (es : List (κ × Value)) : Prop := ∃ g, vs = [.map (some g)] ∧ MapAt ek m g es
instance {κ : Type} (ek : κ → Value) : RepR (MapR ek) := ⟨fun hm h => by obtain ⟨g, e, h1⟩ := h; exact ⟨g, e, h1.mono hm⟩, fun h => by obtain ⟨g, rfl, h1⟩ := h; rfl⟩
def MP.mapAt {κ : Type} (ek : κ → Value) (es : List (κ × Value)) : MP := MP.mem (fun g : Nat => .map (some g)) (fun g m => MapAt ek m g es) fun hm h => h.mono hm
theorem MLe.addMap {w : World} {m : Mem} {g : Nat} (x : Array MapEntry × Nat) (hm : m.mp g = none) : MLe m (m.addMap g x) := ⟨fun _ _ _ h => h, fun b es' hb => by
  show (if b = g then some x else m.mp b) = some es'
  split
  · rename_i e; subst e; rw [hm] at hb; cases hb
  · exact hb⟩
theorem Agree.addMap {w : World} {m : Mem} {g : Nat} {x : Array MapEntry × Nat} (ha : Agree w m) (hh : w.heap[g]? = some (.map x.1 x.2)) : Agree w (m.addMap g x) := ⟨ha.cell, fun b es' hb => by
  change (if b = g then some x else m.mp b) = some es' at hb
  split at hb
  · rename_i e; subst e; injection hb with hb; subst hb; exact hh
  · exact ha.map b es' hb⟩
/-- A map of one's own is written no more: it goes into the snapshot. -/
theorem St.freezeMap {G0 : List Nat} {W : World} {mE : Mem} {L : List Res} {w : World} {m : Mem} {k : Nat} {v : Value} {κ : Type} {ek : κ → Value} {es : List (κ × Value)} (h : St G0 W mE L w m) (hk : L[k]? = some (.map v (encs ek es))) :
    ∃ m', MLe m m' ∧ St G0 W mE (L.set k .free) w m' ∧ ∃ g, v = .map (some g) ∧ MapAt ek m' g es := by
  obtain ⟨g, ents, clock, rfl, hh, he, hm, hs⟩ := h.loc.at_ hk
  have hle := MLe.addMap (w := w) (g := g) (ents, clock) hm
  refine ⟨m.addMap g (ents, clock), hle, h.touch (r' := .free) hk ⟨⟨rfl, rfl, rfl, Nat.le_refl _, fun _ _ _ => rfl, h.agree.addMap hh, hle, fun b _ hb => ⟨rfl, ?_⟩⟩, trivial, List.nodup_nil, fun g hg => by cases hg⟩, g, rfl, ents, clock, ?_, he, hs⟩
  · show (if b = g then some (ents, clock) else m.mp b) = m.mp b
    rw [if_neg (fun e => hb (by simp [Res.blocks, mapBlock, e]))]
  · show (if g = g then some (ents, clock) else m.mp g) = some (ents, clock)
    rw [if_pos rfl]
theorem touch_newMap {w : World} {m : Mem} {ents : Array MapEntry} {clock : Nat} {es : List (Value × Value)} (ha : Agree w m) (he : entriesOf ents = es) (hs : Stamps ents clock) :
    Touch .free (.map (.map (some w.heap.size)) es) w m (w.alloc (.map ents clock)) m :=
  ⟨(ext_alloc ha _).mono (by simp), ⟨w.heap.size, ents, clock, rfl, heap_alloc_new w _, he, agree_noneM ha (Nat.le_refl _), hs⟩, by simp [Res.blocks, mapBlock], by simp [Res.blocks, mapBlock]⟩
section
variable {P : Program} {K : World → Mem → Prop} {m0 : Mem} {L : List Res} {us : List Nat} {ch : List (Nat × Bool)} {pre : List Ent} {T : List (Nat × Value)}
variable {dst : Option Nat} {ty : TypeId} {pos : String} {af : Array Edge} {gd : Option (Nat × Bool)}
/-- A map without entries that no one will write. -/
theorem ob_makeMapF [hK : KC K m0 L] {κ : Type} {d : Nat} {t : TypeId} (enc : κ → Value) :
    Ob P K us ch pre T ⟨some d, .makeMap t none, ty, pos, af, gd⟩ (.ex (MP.mapAt enc ([] : List (κ × Value)))) := fun σ w m hk hn => by
  have hr : (execOp (evalO σ) ⟨some d, .makeMap t none, ty, pos, af, gd⟩).run P w = .ok (.value (.map (some w.heap.size))) (w.alloc (.map #[] 0)) := by
    simp only [execOp, Option.map_none]; rfl
  unfold Does; rw [hr]
  have ha := hK.agree hk
  have hx := ext_alloc ha (.map #[] 0)
  have hn0 := agree_noneM ha (Nat.le_refl w.heap.size)
  refine ⟨m.addMap w.heap.size (#[], 0), ⟨hx.os, hx.tape, hx.output, hx.size, hx.block, hx.agree.addMap (heap_alloc_new w _), MLe.addMap (w := w) _ hn0, fun b hb _ => ⟨rfl, ?_⟩⟩, w.heap.size, rfl, #[], 0, ?_, rfl, Stamps.nil⟩
  · show (if b = w.heap.size then some _ else m.mp b) = m.mp b
    rw [if_neg (by omega)]
  · show (if w.heap.size = w.heap.size then some _ else m.mp w.heap.size) = some _
    rw [if_pos rfl]
/-- A look into a map of the snapshot. -/
theorem ob_lookupM [hK : KC K m0 L] {κ : Type} [DecidableEq κ] {enc : κ → Value} {d : TypeDesc} {t kt et : TypeId} {x y : Operand} {k : κ} {g : Nat} {z v : Value} {b : Bool} {es : List (κ × Value)} (hKe : Keys d enc) (hx : ev us ch pre T x = some (.map (some g))) (hy : ev us ch pre T y = some (enc k))
    (hM : ∀ w m, K w m → MapAt enc m g es) (hm : P.underlying t = some (.map kt et)) (hd : P.underlying kt = some d) (hz : ∀ w, (zeroValue et).run P w = .ok z w)
    (hv : (match alook k es with | some u => (u, true) | none => (z, false)) = (v, b)) :
    Ob P K us ch pre T ⟨dst, .lookup t x y true, ty, pos, af, gd⟩ (.eq (.tuple #[v, .bool b])) :=
  ob_val fun σ w m hk hn => by
    obtain ⟨ents, clock, hh0, he, -⟩ := hM w m hk
    have hh := (hK.agree hk).map g _ hh0
    have hf := findNow_enc hKe k ents.toList es 0 he
    have hget : (getObj g).run P w = .ok (.map ents clock) w := by simp [getObj, Sem.run, hh]
    rw [alook_aidx k es 0] at hv
    cases ha : aidx k es 0 with
    | none =>
      rw [ha] at hf hv
      simp only [Option.map_none, Prod.mk.injEq] at hv
      obtain ⟨rfl, rfl⟩ := hv
      simp [execOp, hn.ev hx, hn.ev hy, Instr.lookup, run_underlying hm, Result.andThen, hget, run_checkKey hd (hKe.key k), run_findKey hd hf, hz]
    | some q =>
      rw [ha] at hf hv
      simp only [Option.map_some, Prod.mk.injEq] at hv
      obtain ⟨rfl, rfl⟩ := hv
      simp [execOp, hn.ev hx, hn.ev hy, Instr.lookup, run_underlying hm, Result.andThen, hget, run_checkKey hd (hKe.key k), run_findKey hd hf]
/-- An entry into a map of one's own. -/
theorem ob_mapUpdate [hK : KC K m0 L] {κ : Type} [DecidableEq κ] {enc : κ → Value} {d : TypeDesc} {t kt et : TypeId} {x y z : Operand} {k : κ} {g : Nat} {v : Value} {es : List (κ × Value)} (hKe : Keys d enc) (hx : ev us ch pre T x = some (.map (some g))) (hy : ev us ch pre T y = some (enc k)) (hz : ev us ch pre T z = some v)
    (hm : P.underlying t = some (.map kt et)) (hd : P.underlying kt = some d) :
    ObT P K us ch pre T (fun _ => .map (.map (some g)) (encs enc es)) (fun _ => .map (.map (some g)) (encs enc (aset k v es))) ⟨none, .mapUpdate t x y z, ty, pos, af, gd⟩ (.ex MP.any) := fun σ w m hk hr hkn => by
  obtain ⟨g', ents, clock, e1, hh, he, hmp, hsp⟩ := hr
  injection e1 with e1; injection e1 with e1; subst e1
  obtain ⟨ents', clock', hrun, he', hsp'⟩ := run_update (P := P) hKe hm hd hh he hsp k v
  have hx' : (execOp (evalO σ) ⟨none, .mapUpdate t x y z, ty, pos, af, gd⟩).run P w = .ok .skip { w with heap := w.heap.setIfInBounds g (.map ents' clock') } := by
    simp only [execOp, hkn.ev hx, hkn.ev hy, hkn.ev hz]
    rw [Sem.run_bind, hrun]; rfl
  unfold Does; rw [hx']
  exact ⟨m, touch_map (hK.agree hk) rfl hh hmp he' hsp', _, rfl, trivial⟩
theorem ob_slnil [KC K m0 L] {t e yt : TypeId} {x : Operand} {o : Option Addr} {n c n' c' : Nat} (hx : ev us ch pre T x = some (.slice o n c)) (ht : P.underlying t = some (.slice e)) :
    Ob P K us ch pre T ⟨dst, .binOp .eql t x (.const (.slice none n' c')) yt, ty, pos, af, gd⟩ (.eq (.bool o.isNone)) := ob_bin hx (y := .const (.slice none n' c')) rfl fun w => by
  rw [Sem.run_bind, show (eqGuard .eql t x (.const (.slice none n' c')) (.slice o n c) (.slice none n' c')).run P w = .ok () w from by simp [eqGuard]]
  exact Go.Lib.run_eql_slice_nil w t e o n c n' c' ht
/-- 'cap'. -/
theorem ob_cap [KC K m0 L] {t : TypeId} {x : Operand} {o : Option Addr} {n c : Nat} (hx : ev us ch pre T x = some (.slice o n c)) (ht : ∃ e, P.underlying t = some (.slice e)) :
    Ob P K us ch pre T ⟨dst, .call { callee := .builtin .cap, args := #[x], argTypes := #[t] }, ty, pos, af, gd⟩ (.eq (.int .i64 (c : Int))) :=
  ob_val fun σ w m _ hn => by
    obtain ⟨e, ht⟩ := ht
    simp [execOp, resolve, hn.ev hx, invoke, builtin, Builtin.cap_, goInt, run_underlying ht, Result.andThen]
/-- A literal that may be written over. -/
theorem ob_buildSliceMX [hK : KC K m0 L] {α : Type} {R : Mem → List Value → α → Prop} [hR : RepR R] {d : Nat} {t e : TypeId} {n sz : Nat} {xs : List (Nat × Operand)} {vs : List (Nat × Value)} {z : Value} {zero cs : List Value} {l : List α} (hxs : EvPs us ch pre T xs vs) (ht : P.underlying t = some (.slice e))
    (hsz : ∀ w, (sizeOf e).run P w = .ok sz w) (hz : ∀ w, (zeroValue e).run P w = .ok z w) (hzc : z.cells = zero.toArray) (hn : Nat.ble (n * sz) 16777216 = true) (h0 : Nat.beq (n * sz) 0 = false) (hl : Nat.beq cs.length (n * sz) = true)
    (hf : fillL (fun i => some (i * sz, sz)) ((List.range (n * sz)).map fun i => zero.toArray[i % zero.toArray.size]!) vs = some cs) (hrd : ∀ w m, K w m → Reads R sz m cs l) :
    ObT P K us ch pre T (fun _ => .free) (fun v => .mrowx v n sz e (MP.reads R sz l)) ⟨some d, .buildSlice t n xs.toArray, ty, pos, af, gd⟩ (.ex (MP.mem (fun g : Nat => .slice (some ⟨g, 0, none⟩) n n) (fun _ _ => True) fun _ h => h)) := fun σ w m hk _ hn' => by
  have hxe : (xs.toArray.map fun (i, x) => (i, evalO σ x)) = vs.toArray := by rw [← hxs.map hn']; simp
  have hff := fill_eq vs _ cs hf
  have hle := Nat.le_of_ble_eq_true hn
  rw [Nat.beq_eq] at hl
  have h0' : ¬ n * sz = 0 := fun e => by rw [e] at h0; cases h0
  have hs0 : 0 < sz := by rcases Nat.eq_zero_or_pos sz with h | h; (subst h; simp at h0'); exact h
  have hrun : (execOp (evalO σ) ⟨some d, .buildSlice t n xs.toArray, ty, pos, af, gd⟩).run P w = .ok (.value (.slice (some ⟨w.heap.size, 0, none⟩) n n)) (w.alloc (.cells cs.toArray e)) := by
    have hr : (Array.range (n * sz)).map (fun i => zero.toArray[i % zero.toArray.size]!) = ((List.range (n * sz)).map fun i => zero.toArray[i % zero.toArray.size]!).toArray := by simp [← Array.toList_inj]
    have : (Instr.buildSlice t n vs.toArray).run P w = .ok (.slice (some ⟨w.heap.size, 0, none⟩) n n) (w.alloc (.cells cs.toArray e)) := by
      unfold Instr.buildSlice
      simp only [Sem.run_bind, run_underlying ht, Result.andThen_ok, hsz]
      rw [if_neg (by omega), if_neg h0']
      simp only [Sem.run_bind, hz, Result.andThen_ok, Sem.run_pure, hzc]
      rw [hr]
      simp only [hff]
      rfl
    simp only [execOp, hxe]
    rw [Sem.run_bind, this]; rfl
  have hnm : n ≤ maxLen := by
    have : n * 1 ≤ n * sz := Nat.mul_le_mul_left _ hs0
    simp only [maxLen]; omega
  unfold Does; rw [hrun]
  have ht2 := mrow_new (hK.agree hk) (e := e) (size := sz) (n := n) (cap := n) (xs := cs) (cur := cs.toArray) hl (Nat.le_refl _) hnm (by simpa using hl) (by rw [← hl]; simp)
    ((Below.refl w.heap.size w).alloc (Nat.le_refl _) (.cells cs.toArray e)) (Nat.le_refl _) (heap_alloc_new w _)
  exact ⟨m, ⟨ht2.ext, ⟨cs, ht2.now, MP.reads_p.2 (hrd w m hk)⟩, ht2.nodup, ht2.where_⟩, _, rfl, trivial⟩
/-- A load whose cells only what holds there tells. -/
theorem ob_load1K [hK : KC K m0 L] {t : TypeId} {x : Operand} {p : Addr} {k : Nat} {vs : List Value} {v : Value} (hx : ev us ch pre T x = some (.pointer (some (p.add k)))) (hc : ∀ w m, K w m → CellsAt m p vs)
    (ha : ∀ w, (isAgg t).run P w = .ok false w) (hv : vs[k]? = some v) : Ob P K us ch pre T ⟨dst, .load t x, ty, pos, af, gd⟩ (.eq v) :=
  ob_val fun σ w m hk hn => by
    have hcell := cell_of_cells (hK.agree hk) (hc w m hk) hv
    simp [execOp, hn.ev hx, Instr.loadAt, Instr.sureAddr, loadVar, ha, run_load, hcell]
/-- A load of some cells of one thing of a row that may be written over. -/
theorem ob_loadMXS [hK : KC K m0 L] {α : Type} {R : Mem → List Value → α → Prop} [hR : RepR R] {t e : TypeId} {x : Operand} {i off k j g n cap size : Nat} {l : List α} {a : α} {φ : MP} (hx : ev us ch pre T x = some (.pointer (some ((⟨g, 0, none⟩ : Addr).add (i * size + off)))))
    (hL : L[j]? = some (.mrowx (.slice (some ⟨g, 0, none⟩) n cap) n size e (MP.reads R size l))) (ha : ∀ w, (isAgg t).run P w = .ok true w) (hz : ∀ w, (sizeOf t).run P w = .ok k w) (hi : l[i]? = some a) (ho : off + k ≤ size) (hk0 : 0 < size) (hsel : ∀ m vs, R m vs a → φ.p m (.agg ((vs.drop off).take k).toArray)) :
    Ob P K us ch pre T ⟨dst, .load t x, ty, pos, af, gd⟩ (.ex φ) := fun σ w m hk hn => by
  obtain ⟨xs, ⟨hlen, o, cap', e1, h1, h2, h3⟩, hp⟩ := hK.at_ hk hL
  injection e1 with e1 e2 e3; subst e1; subst e3
  rw [MP.reads_p] at hp
  obtain ⟨q1, q2⟩ := hp.nth hi
  have hil : i < l.length := (List.getElem?_eq_some_iff.1 hi).1
  have hln := hp.len
  have hmul : (i + 1) * size ≤ l.length * size := Nat.mul_le_mul_right _ hil
  rw [Nat.succ_mul] at hmul
  rcases h3 with h3 | ⟨g', cur, e4, hh, h4, h5, h6⟩
  · subst h3
    obtain rfl : n = 0 := by omega
    rw [hln] at hlen; omega
  · injection e4 with e4; injection e4 with e4; subst e4
    have hl := loadCells_run (P := P) (w := w) (a := (⟨g, 0, none⟩ : Addr).add (i * size + off)) (vs := (((xs.drop (i * size)).take size).drop off).take k) fun q v ek => by
      rw [add_add']
      rw [List.getElem?_take, List.getElem?_drop, List.getElem?_take, List.getElem?_drop] at ek
      split at ek
      · split at ek
        · rw [← h5, List.getElem?_take] at ek
          split at ek
          · have e5 : (⟨g, 0, none⟩ : Addr).add (i * size + off + q) = ⟨g, i * size + off + q, none⟩ := by unfold Addr.add; split <;> simp_all
            rw [e5]; unfold World.cell?; simp only [hh]; rw [← Nat.add_assoc] at ek; simpa using ek
          · cases ek
        · cases ek
      · cases ek
    rw [show ((((xs.drop (i * size)).take size).drop off).take k).length = k by rw [List.length_take, List.length_drop, q1]; omega] at hl
    have hrun : (execOp (evalO σ) ⟨dst, .load t x, ty, pos, af, gd⟩).run P w = .ok (.value (.agg ((((xs.drop (i * size)).take size).drop off).take k).toArray)) w := by
      simp [execOp, hn.ev hx, Instr.loadAt, Instr.sureAddr, loadVar, ha, hz, hl]
    unfold Does; rw [hrun]
    exact ⟨m, ExtG.refl _ (hK.agree hk), hsel m _ q2⟩
end
/-- A slice of names of which there is one. -/
def MP.strsP (l : List Str) : MP := MP.mem (fun y : Addr × Nat => .slice (some y.1) l.length y.2) (fun y m => Strs m (some y.1) l.length y.2 l) fun hm h => h.mono hm
theorem MP.strs_P {l : List Str} {m : Mem} {v : Value} (h0 : 0 < l.length) (h : (MP.strs l).p m v) : (MP.strsP l).p m v := by
  obtain ⟨⟨o, c⟩, e, h1⟩ := h
  obtain ⟨p, vs, x, ho, -⟩ := Sl.nth h1 (k := 0) h0
  change o = some p at ho
  subst ho
  exact ⟨(p, c), e, h1⟩
theorem Strs.cells {m : Mem} {p : Addr} {n c k : Nat} {l : List Str} {x : Str} (h : Strs m (some p) n c l) (hx : l[k]? = some x) : CellsAt m (p.add (k * 1)) [S x] := by
  obtain ⟨q, vs, e, h1, -, h2⟩ := h.at_ k x hx
  injection e with e; subst e; subst h2; exact h1
theorem MP.made_some {n size : Nat} {e : TypeId} {ψ : MP} {w : World} {m : Mem} {o : Option Addr} {c : Nat} (h : (Res.mrowx (.slice o n c) n size e ψ).holds w m) (h0 : 0 < n) : ∃ g, o = some ⟨g, 0, none⟩ := by
  obtain ⟨o', cap, e1, h1, h2, h3⟩ := Res.mrowx_val h
  injection e1 with e1 e2 e3; subst e1
  exact h3 h0
theorem mrowx_nil {α : Type} {R : Mem → List Value → α → Prop} [RepR R] {size : Nat} {e : TypeId} {w : World} {m : Mem} : (Res.mrowx (.slice none 0 0) 0 size e (MP.reads R size [])).holds w m :=
  ⟨[], ⟨by simp, none, 0, rfl, Nat.le_refl _, Nat.zero_le _, .inl rfl⟩, MP.reads_p.2 Reads.nil⟩
theorem Sl.none_nil {α : Type} {R : Mem → List Value → α → Prop} {sz : Nat} {m : Mem} {n cap : Nat} {xs : List α} (h : Sl R sz m none n cap xs) : xs = [] := by
  cases xs with
  | nil => rfl
  | cons x xs => obtain ⟨p, vs, e, -⟩ := h.at_ 0 x rfl; cases e
theorem set_mid {α : Type} : ∀ (d : List α) (l : List α) (x y : α), (d ++ x :: l).set d.length y = (d ++ [y]) ++ l
  | [], l, x, y => rfl
  | a :: d, l, x, y => by simp [set_mid d l x y]
theorem get_mid {α : Type} (d : List α) (l : List α) (x : α) : (d ++ x :: l)[d.length]? = some x := by simp
end Go.Proofs.Ytfphefkfbhjfdaa
