/-
  A drawn region that makes a map and fills it in any order (a map literal), and then looks things up there. Conditions: the closed tests 'chk' and 'uchk'.
-/
import Derived.Test.YtlihpgjabohebaaDoorMapw
namespace Go.Proofs.YtlihpgjabohebaaDoor
set_option linter.all false
open Go.RowKit Go.MapKept
/-- What the entries that are done say. -/
def FU {κ : Type} [DecidableEq κ] (S : Nat → Bool) : List (Nat × κ × Value) → κ → Option Value
  | [], _ => none
  | (i, k', v) :: r, k => if S i = true then (if k = k' then some v else FU S r k) else FU S r k
section
variable {κ : Type} [DecidableEq κ]
theorem FU_same {S S' : Nat → Bool} : ∀ (ins : List (Nat × κ × Value)), (∀ x ∈ ins, S' x.1 = S x.1) → ∀ k, FU S' ins k = FU S ins k
  | [], _, _ => rfl
  | (i, k', v) :: r, h, k => by
    have h1 : S' i = S i := h _ (.head _)
    simp only [FU, h1, FU_same r (fun x hx => h x (.tail _ hx)) k]
theorem FU_none {S : Nat → Bool} : ∀ (ins : List (Nat × κ × Value)), (∀ x ∈ ins, S x.1 = false) → ∀ k, FU S ins k = none
  | [], _, _ => rfl
  | (i, k', v) :: r, h, k => by
    have h1 : S i = false := h _ (.head _)
    simp only [FU, h1, FU_none r (fun x hx => h x (.tail _ hx)) k]; simp
theorem FU_all {S : Nat → Bool} : ∀ (ins : List (Nat × κ × Value)), (∀ x ∈ ins, S x.1 = true) → ∀ k, FU S ins k = alook k (ins.map (·.2))
  | [], _, _ => rfl
  | (i, k', v) :: r, h, k => by
    have h1 : S i = true := h _ (.head _)
    simp only [FU, h1, FU_all r (fun x hx => h x (.tail _ hx)) k, List.map_cons, alook]; simp
theorem FU_step {S : Nat → Bool} {i : Nat} {k : κ} {v : Value} (hS : S i = false) : ∀ (ins : List (Nat × κ × Value)), (ins.map (·.1)).Nodup → (ins.map (·.2.1)).Nodup → (i, k, v) ∈ ins →
    ∀ q, FU (fun j => if j = i then true else S j) ins q = if q = k then some v else FU S ins q
  | [], _, _, h, _ => by cases h
  | (j, k', v') :: r, h1, h2, h, q => by
    simp only [List.map_cons, List.nodup_cons] at h1 h2
    by_cases hj : j = i
    · subst hj
      have e : (j, k, v) = (j, k', v') := by
        cases h with
        | head => rfl
        | tail _ h => exact absurd (List.mem_map.2 ⟨_, h, rfl⟩) h1.1
      injection e with _ e; injection e with e1 e2; subst e1; subst e2
      have hr := FU_same (S := S) (S' := fun x => if x = j then true else S x) r (fun x hx => if_neg (fun e => h1.1 (List.mem_map.2 ⟨x, hx, e⟩))) q
      simp only [FU, hr, hS]; simp
    · have hm : (i, k, v) ∈ r := by
        cases h with
        | head => exact absurd rfl hj
        | tail _ h => exact h
      have ih := FU_step hS r h1.2 h2.2 hm q
      simp only [FU, ih, if_neg hj]
      by_cases hq : q = k
      · subst hq
        have : ¬ q = k' := fun e => h2.1 (List.mem_map.2 ⟨_, hm, e⟩)
        simp [this]
      · simp [hq]
end
/-- The operation comes behind j, or behind one that comes behind j. -/
def reach (l : List Oper) (o : Oper) (j : Nat) : Bool := hasEdge o j || o.after.toList.any fun e => Region.binds .any e && edgeTo l e.on j
theorem reach_done {l : List Oper} {S : Nat → Bool} (hs : Shut l S) {o : Oper} {j : Nat} (hr : ∀ e ∈ o.after.toList, Region.binds .any e = true → S e.on = true) (h : reach l o j = true) : S j = true := by
  unfold reach at h
  rw [Bool.or_eq_true] at h
  rcases h with h | h
  · obtain ⟨ed, hed, hb, hon⟩ := hasEdge_mem h
    exact hon ▸ hr ed hed hb
  · rw [List.any_eq_true] at h
    obtain ⟨e, he, hb⟩ := h
    rw [Bool.and_eq_true] at hb
    exact hs _ _ hb.2 (hr e he hb.1)
def uchk (l : List Oper) (im : Nat) (is : List Nat) : Bool := (is.all fun i => edgeTo l i im && i != im) && decide is.Nodup
section
variable {rd : Option Nat} {P : Program} {l : List Oper} {G0 : List Nat} {W : World} {mE m0 : Mem} {L : List Res} {tch : Tch} {T : List (Nat × Value)} {κ : Type} [DecidableEq κ] {enc : κ → Value} {im p : Nat} {ins : List (Nat × κ × Value)}
/-- The obligation of an operation that looks things up in the map, filled. -/
def ObL (P : Program) (K : World → Mem → Prop) (us : List Nat) (ch : List (Nat × Bool)) (pre : List Ent) (T : List (Nat × Value)) (p : Nat) (enc : κ → Value) (F : List (κ × Value)) (o : Oper) (κn : Kn) : Prop :=
  ∀ (σ : Nat → Value) (w : World) (m : Mem), K w m → Know σ m us ch pre T → (∃ es : List (κ × Value), (Res.map (σ p) (encs enc es)).holds w m ∧ ∀ k, alook k es = alook k F) → Does P o σ w fun v w' => ∃ m', ExtG [] w m w' m' ∧ κn.holds m' v
inductive OblU (P : Program) (l : List Oper) (G0 : List Nat) (W : World) (mE m0 : Mem) (L : List Res) (tch : Tch) (T : List (Nat × Value)) (enc : κ → Value) (im p : Nat) (ins : List (Nat × κ × Value)) (i : Nat) (pre : List Ent) (o : Oper) : Ke → Prop where
  | plain {ke : Ke} (h : OblAt P l G0 W mE m0 L tch T i pre o ke) (hn : (i != im && ins.all fun x => x.1 != i) = true) : OblU P l G0 W mE m0 L tch T enc im p ins i pre o ke
  | make {κn : Kn} (ht : tchAt tch i = none) (hi : i = im) (hg : o.guard = none) (hd : o.dst = some p) (hp : ∀ σ v, keepP pre o σ v = v) (h : ObT P (Ctx G0 W mE m0 (Lrest tch L)) (usesL l o) (chainL l 12 o.guard) pre T (fun _ => .free) (fun v => .map v (encs enc ([] : List (κ × Value)))) o κn) : OblU P l G0 W mE m0 L tch T enc im p ins i pre o (.val κn)
  | put {κn : Kn} {k : κ} {v : Value} (ht : tchAt tch i = none) (hm : (i, k, v) ∈ ins) (hg : o.guard = none) (hd : o.dst = none) (hp : ∀ σ v, keepP pre o σ v = σ p) (h : ∀ es : List (κ × Value), ObT P (Ctx G0 W mE m0 (Lrest tch L)) (usesL l o) (chainL l 12 o.guard) pre T (fun σ => .map (σ p) (encs enc es)) (fun x => .map x (encs enc (aset k v es))) o κn) : OblU P l G0 W mE m0 L tch T enc im p ins i pre o (.val κn)
  | look {κn : Kn} (ht : tchAt tch i = none) (hn : (i != im && ins.all fun x => x.1 != i && reach l o x.1 && reach l o im) = true) (hne : (! ins.isEmpty) = true) (h : ObL P (Ctx G0 W mE m0 (Lrest tch L)) (usesL l o) (chainL l 12 o.guard) pre T p enc (ins.map (·.2)) o κn) : OblU P l G0 W mE m0 L tch T enc im p ins i pre o (.val κn)
inductive OblsU (P : Program) (l : List Oper) (G0 : List Nat) (W : World) (mE m0 : Mem) (L : List Res) (tch : Tch) (T : List (Nat × Value)) (enc : κ → Value) (im p : Nat) (ins : List (Nat × κ × Value)) : Nat → List Ent → List Oper → List Ent → Prop where
  | nil {i : Nat} {pre : List Ent} : OblsU P l G0 W mE m0 L tch T enc im p ins i pre [] pre
  | step {i : Nat} {pre : List Ent} {o : Oper} {os : List Oper} {ke : Ke} {fin : List Ent} (h : OblU P l G0 W mE m0 L tch T enc im p ins i pre o ke)
      (hs : OblsU P l G0 W mE m0 L tch T enc im p ins (i + 1) (entOf l o ke :: pre) os fin) : OblsU P l G0 W mE m0 L tch T enc im p ins i pre (o :: os) fin
theorem OblsU.cons {i : Nat} {pre : List Ent} {o : Oper} {os : List Oper} {κn : Kn} {fin : List Ent} (ht : tchAt tch i = none) (hn : (i != im && ins.all fun x => x.1 != i) = true)
      (h : Ob P (Ctx G0 W mE m0 (Lsel l tch L i)) (usesL l o) (chainL l 12 o.guard) pre T o κn)
      (hs : OblsU P l G0 W mE m0 L tch T enc im p ins (i + 1) (entOf l o (.val κn) :: pre) os fin) : OblsU P l G0 W mE m0 L tch T enc im p ins i pre (o :: os) fin :=
  .step (.plain (.inl ⟨κn, rfl, ht, h⟩) hn) hs
theorem OblsU.consA {i : Nat} {pre : List Ent} {o : Oper} {os : List Oper} {fin : List Ent} (t : Nat) (ht : tchAt tch i = none) (hn : (i != im && ins.all fun x => x.1 != i) = true) (h : handsOn l o t = true)
      (hs : OblsU P l G0 W mE m0 L tch T enc im p ins (i + 1) (entOf l o (.same t id) :: pre) os fin) : OblsU P l G0 W mE m0 L tch T enc im p ins i pre (o :: os) fin :=
  .step (.plain (.inr (.inr ⟨t, id, rfl, ht, makesOf_handsOn h⟩)) hn) hs
theorem OblsU.consT {i : Nat} {pre : List Ent} {o : Oper} {os : List Oper} {κn : Kn} {fin : List Ent} {k : Nat} {r : (Nat → Value) → Res} {r' : Value → Res} (ht : tchAt tch i = some (k, r')) (hn : (i != im && ins.all fun x => x.1 != i) = true) (hkl : Nat.ble (k + 1) L.length = true) (hr : ∀ σ, preRes l L tch i k σ = some (r σ)) (hg : o.guard = none)
      (h : ObT P (Ctx G0 W mE m0 (Lrest tch L)) (usesL l o) (chainL l 12 o.guard) pre T r r' o κn)
      (hs : OblsU P l G0 W mE m0 L tch T enc im p ins (i + 1) (entOf l o (.val κn) :: pre) os fin) (hp : prevV l i = none := by rfl) : OblsU P l G0 W mE m0 L tch T enc im p ins i pre (o :: os) fin :=
  .step (.plain (.inr (.inl ⟨κn, k, r, r', rfl, ht, Nat.le_of_ble_eq_true hkl, hr, hg, .inl ⟨hp, h⟩⟩)) hn) hs
theorem OblsU.make {i : Nat} {pre : List Ent} {o : Oper} {os : List Oper} {κn : Kn} {fin : List Ent} (ht : tchAt tch i = none) (hi : i = im) (hg : o.guard = none) (hd : o.dst = some p) (hp : ∀ σ v, keepP pre o σ v = v)
      (h : ObT P (Ctx G0 W mE m0 (Lrest tch L)) (usesL l o) (chainL l 12 o.guard) pre T (fun _ => .free) (fun v => .map v (encs enc ([] : List (κ × Value)))) o κn)
      (hs : OblsU P l G0 W mE m0 L tch T enc im p ins (i + 1) (entOf l o (.val κn) :: pre) os fin) : OblsU P l G0 W mE m0 L tch T enc im p ins i pre (o :: os) fin :=
  .step (.make ht hi hg hd hp h) hs
theorem OblsU.put {i : Nat} {pre : List Ent} {o : Oper} {os : List Oper} {κn : Kn} {fin : List Ent} {k : κ} {v : Value} (ht : tchAt tch i = none) (hm : (i, k, v) ∈ ins) (hg : o.guard = none) (hd : o.dst = none) (hp : ∀ σ v, keepP pre o σ v = σ p)
      (h : ∀ es : List (κ × Value), ObT P (Ctx G0 W mE m0 (Lrest tch L)) (usesL l o) (chainL l 12 o.guard) pre T (fun σ => .map (σ p) (encs enc es)) (fun x => .map x (encs enc (aset k v es))) o κn)
      (hs : OblsU P l G0 W mE m0 L tch T enc im p ins (i + 1) (entOf l o (.val κn) :: pre) os fin) : OblsU P l G0 W mE m0 L tch T enc im p ins i pre (o :: os) fin :=
  .step (.put ht hm hg hd hp h) hs
theorem OblsU.look {i : Nat} {pre : List Ent} {o : Oper} {os : List Oper} {κn : Kn} {fin : List Ent} (ht : tchAt tch i = none) (hn : (i != im && ins.all fun x => x.1 != i && reach l o x.1 && reach l o im) = true) (hne : (! ins.isEmpty) = true)
      (h : ObL P (Ctx G0 W mE m0 (Lrest tch L)) (usesL l o) (chainL l 12 o.guard) pre T p enc (ins.map (·.2)) o κn)
      (hs : OblsU P l G0 W mE m0 L tch T enc im p ins (i + 1) (entOf l o (.val κn) :: pre) os fin) : OblsU P l G0 W mE m0 L tch T enc im p ins i pre (o :: os) fin :=
  .step (.look ht hn hne h) hs
theorem oblsU_at {i : Nat} {pre : List Ent} {os : List Oper} {fin : List Ent} (h : OblsU P l G0 W mE m0 L tch T enc im p ins i pre os fin) :
    ∀ (κs0 : List Ke), κs0.length = i → (∀ j, os[j]? = l[i + j]?) → pre = preAt l κs0 i →
    ∃ κs : List Ke, κs.length = i + os.length ∧ (∀ j, j < i → κs[j]? = κs0[j]?) ∧ fin = preAt l κs (i + os.length) ∧
      ∀ j o, i ≤ j → l[j]? = some o → j < i + os.length → ∃ κ, κs[j]? = some κ ∧ OblU P l G0 W mE m0 L tch T enc im p ins j (preAt l κs j) o κ := by
  have pre_congr : ∀ (κs κs' : List Ke) (n : Nat), (∀ j, j < n → κs[j]? = κs'[j]?) → preAt l κs n = preAt l κs' n := by
    intro κs κs' n
    induction n with
    | zero => intro _; rfl
    | succ n ih => intro hh; simp only [preAt, hh n (by omega), ih (fun j hj => hh j (by omega))]
  induction h with
  | nil =>
    intro κs0 h0 _ hp
    exact ⟨κs0, by simpa using h0, fun _ _ => rfl, by simpa using hp, fun j o h1 _ h2 => by simp at h2; omega⟩
  | @step i pre o os κ fin hob hs ih =>
    intro κs0 h0 hos hp
    have ho : l[i]? = some o := by simpa using (hos 0).symm
    have hk0 : (κs0 ++ [κ])[i]? = some κ := by rw [List.getElem?_append_right (by omega), h0]; simp
    have hlow : ∀ j, j < i → (κs0 ++ [κ])[j]? = κs0[j]? := fun j hj => by rw [List.getElem?_append_left (by omega)]
    obtain ⟨κs, hl, hlo, hf, hall⟩ := ih (κs0 ++ [κ]) (by simp [h0]) (fun j => by have := hos (j + 1); simpa [Nat.add_assoc, Nat.add_comm 1 j] using this)
      (by simp only [preAt, ho, hk0]; rw [pre_congr _ _ i hlow, ← hp]; rfl)
    refine ⟨κs, by simp [hl]; omega, fun j hj => (hlo j (by omega)).trans (hlow j hj), by rw [hf]; simp [Nat.add_assoc, Nat.add_comm 1], fun j o' h1 h2 h3 => ?_⟩
    by_cases hj : j = i
    · subst hj
      rw [ho] at h2; injection h2 with h2; subst h2
      refine ⟨κ, (hlo j (by omega)).trans hk0, ?_⟩
      rw [pre_congr κs κs0 j (fun q hq => (hlo q (by omega)).trans (hlow q hq)), ← hp]
      exact hob
    · exact hall j o' (by omega) h2 (by simp at h3; omega)
/-- The map, as far as it is filled. -/
structure MapU (G0 : List Nat) (W : World) (mE : Mem) (L : List Res) (enc : κ → Value) (im p : Nat) (ins : List (Nat × κ × Value)) (S : Nat → Bool) (σ : Nat → Value) (w : World) (m : Mem) : Prop where
  no : S im = false → St G0 W mE (L ++ [.free]) w m
  yes : S im = true → ∃ es : List (κ × Value), St G0 W mE (L ++ [.map (σ p) (encs enc es)]) w m ∧ ∀ k, alook k es = FU S ins k
theorem MapU.keep {S S' : Nat → Bool} {σ σ' : Nat → Value} {w w' : World} {m m' : Mem} (h : MapU G0 W mE L enc im p ins S σ w m) (hE : ExtG [] w m w' m') (hS : S' im = S im) (hF : ∀ x ∈ ins, S' x.1 = S x.1) (hp : S im = true → σ' p = σ p) : MapU G0 W mE L enc im p ins S' σ' w' m' :=
  ⟨fun e => (h.no (hS ▸ e)).keep hE, fun e => by
    have e1 : S im = true := hS ▸ e
    obtain ⟨es, h1, h2⟩ := h.yes e1
    exact ⟨es, by rw [hp e1]; exact h1.keep hE, fun k => (h2 k).trans (FU_same ins hF k).symm⟩⟩
theorem MapU.touch {S S' : Nat → Bool} {σ σ' : Nat → Value} {w w' : World} {m m' : Mem} {k : Nat} {r r' : Res} (h : MapU G0 W mE L enc im p ins S σ w m) (hk : L[k]? = some r) (ht : Touch r r' w m w' m') (hS : S' im = S im) (hF : ∀ x ∈ ins, S' x.1 = S x.1) (hp : S im = true → σ' p = σ p) : MapU G0 W mE (L.set k r') enc im p ins S' σ' w' m' := by
  have hkl : k < L.length := (List.getElem?_eq_some_iff.1 hk).1
  have hk' : ∀ x, (L ++ [x])[k]? = some r := fun x => by rw [List.getElem?_append_left hkl]; exact hk
  have hset : ∀ x, (L ++ [x]).set k r' = L.set k r' ++ [x] := fun x => List.set_append_left _ _ hkl
  refine ⟨fun e => ?_, fun e => ?_⟩
  · rw [← hset]; exact (h.no (hS ▸ e)).touch (hk' _) ht
  · have e1 : S im = true := hS ▸ e
    obtain ⟨es, h1, h2⟩ := h.yes e1
    exact ⟨es, by rw [hp e1, ← hset]; exact h1.touch (hk' _) ht, fun k => (h2 k).trans (FU_same ins hF k).symm⟩
theorem st_last {w : World} {m : Mem} {r : Res} (h : St G0 W mE (L ++ [r]) w m) : St G0 W mE L w m := by
  have := h.take L.length
  rwa [List.take_left] at this
theorem st_setlast {w w' : World} {m m' : Mem} {r r' : Res} (h : St G0 W mE (L ++ [r]) w m) (ht : Touch r r' w m w' m') : St G0 W mE (L ++ [r']) w' m' := by
  have := h.touch (k := L.length) (r := r) (by simp) ht
  simpa using this
theorem invU_step {Q : Exit → Act → World → Prop} {κs : List Ke} {a0 : Act} {S : Nat → Bool} {a : Act} {w : World} {m : Mem} {i : Nat} {o : Oper} {om : Oper}
    (hchk : chk l = true) (htch : tchk l tch = true) (huc : uchk l im (ins.map (·.1)) = true) (hnk : (ins.map (·.2.1)).Nodup) (him : l[im]? = some om) (hpm : om.dst = some p) (hsz : ∀ (j : Nat) (o : Oper) (d : Nat), l[j]? = some o → o.dst = some d → d < a0.tmps.size)
    (hob : ∀ (j : Nat) (o : Oper), l[j]? = some o → ∃ κ, κs[j]? = some κ ∧ OblU P l G0 W mE m0 L tch T enc im p ins j (preAt l κs j) o κ)
    (hT : ∀ t v, look T t = some v → envOf a0 t = v)
    (h : Inv l κs G0 W mE m0 L tch a0 S a w m) (hU : MapU G0 W mE (Lof (valOf l (envOf a)) S tch L) enc im p ins S (envOf a) w m) (hi : l[i]? = some o) (hS : S i = false) (hready : ∀ e ∈ o.after.toList, Region.binds .any e = true → S e.on = true) :
    wpOpIn (rndF rd) 0 P l.toArray Q i (fun a' w' => ∃ m', Inv l κs G0 W mE m0 L tch a0 (fun j => if j = i then true else S j) a' w' m' ∧ MapU G0 W mE (Lof (valOf l (envOf a')) (fun j => if j = i then true else S j) tch L) enc im p ins (fun j => if j = i then true else S j) (envOf a') w' m') a w := by
  have hgi := good_at hchk hi
  have hκ : ∀ j o, l[j]? = some o → (κs[j]?).isSome := fun j o hj => by obtain ⟨κ, hk, _⟩ := hob j o hj; rw [hk]; rfl
  have hoi : (l.toArray)[i]? = some o := by simpa using hi
  have hsz' : ∀ d, o.dst = some d → d < a.tmps.size := fun d hd => by rw [h.size]; exact hsz i o d hi hd
  simp only [uchk, Bool.and_eq_true, List.all_eq_true, decide_eq_true_eq, bne_iff_ne, ne_eq] at huc
  obtain ⟨huc1, hnd⟩ := huc
  have hins : ∀ x ∈ ins, edgeTo l x.1 im = true ∧ x.1 ≠ im := fun x hx => huc1 x.1 (List.mem_map.2 ⟨x, hx, rfl⟩)
  have hshut : Shut l S := fun q s he hq => by
    unfold edgeTo at he
    cases hlq : l[q]? with
    | none => rw [hlq] at he; cases he
    | some oq =>
      rw [hlq] at he
      obtain ⟨ed, hed, hb, hon⟩ := hasEdge_mem he
      rw [← hon]; exact h.shut q oq hlq hq ed hed hb
  obtain ⟨κ, hk, hobl⟩ := hob i o hi
  have hwanted : Region.wanted o (yielded l.toArray a.tmps) = true → ∀ j b, o.guard = some (j, b) → S j = true ∧ (∃ oj d, l[j]? = some oj ∧ oj.dst = some d) ∧ gsat (envOf a) (gslot l j, b) := by
    intro hw j b hg
    obtain ⟨he, oj, d, hj, hd⟩ := hgi.guard j b hg
    obtain ⟨ed, hed, hb, hon⟩ := hasEdge_mem he
    refine ⟨hon ▸ hready ed hed hb, ⟨oj, d, hj, hd⟩, ?_⟩
    simp only [Region.wanted, hg] at hw
    have := (yielded_bool (ops := l.toArray) (a := a) (by simpa using hj) hd b).1 hw
    unfold gsat
    simp only
    rw [gslot_of hj hd]; exact this
  have hunwanted : Region.wanted o (yielded l.toArray a.tmps) ≠ true → (∃ gd, gOf l o.guard = some gd) ∧ ∀ gd, gOf l o.guard = some gd → ¬ gsat (envOf a) gd := by
    intro hw
    cases hg : o.guard with
    | none => exact absurd (by simp [Region.wanted, hg]) hw
    | some jb =>
      obtain ⟨j, b⟩ := jb
      obtain ⟨he, oj, d, hj, hd⟩ := hgi.guard j b hg
      refine ⟨⟨_, rfl⟩, fun gd e => ?_⟩
      simp only [gOf, Option.some.injEq] at e; subst e
      intro hh
      unfold gsat at hh
      simp only at hh
      rw [gslot_of hj hd] at hh
      exact hw (by simp only [Region.wanted, hg]; exact (yielded_bool (ops := l.toArray) (a := a) (by simpa using hj) hd b).2 hh)
  have hknow : Region.wanted o (yielded l.toArray a.tmps) = true → Know (envOf a) m (usesL l o) (chainL l 12 o.guard) (preAt l κs i) T := by
    intro hw
    refine ⟨fun t v ht hf hl => ?_, fun t g κ' ht hf hg => ?_, chain_sat hchk hκ h 12 _ (hwanted hw)⟩
    · rw [h.same t fun j oj hj hd => ?_]
      · exact hT t v hl
      · rcases hgi.uses t ht j oj hj hd with rfl | ⟨hlt, _⟩ | ⟨hlt, he⟩
        · exact hS
        · exact absurd hd (find_preAt_none i hf j oj hlt hj (hκ j oj hj))
        · obtain ⟨ed, hed, hb, hon⟩ := hasEdge_mem he
          cases hSj : S j with
          | false => rfl
          | true => have := h.shut j oj hj hSj ed hed hb; rw [hon, hS] at this; cases this
    · obtain ⟨j, oj, hlt, hj, hkj, hd, rfl⟩ := find_preAt i hf
      rcases hgi.uses t ht j oj hj hd with rfl | ⟨_, he⟩ | ⟨hlt', _⟩
      · omega
      · exact (h.fact j oj t κ' hj hkj (link_done h.shut 12 o j hready he) hd).1 hg
      · omega
  have hpS : S im = true → ∀ v, envOf (a.put o.dst v) p = envOf a p := fun hSm v => by
    cases hd : o.dst with
    | none => rfl
    | some d =>
      rw [envOf_put (hsz' d hd), if_neg]
      rintro rfl
      have := hgi.once im om _ him hd hpm
      subst this; rw [hS] at hSm; cases hSm
  -- what changes nothing of the map
  have hlof : ∀ v, tchAt tch i = none → Lof (valOf l (envOf (a.put o.dst v))) (fun j => if j = i then true else S j) tch L = Lof (valOf l (envOf a)) S tch L := fun v ht =>
    (lof_congr (V := valOf l (envOf a)) (S := S) tch L (fun x hx => ⟨by rw [if_neg (tchAt_none ht x hx)], fun hSx => val_other hchk hi hsz' h.shut hS hSx (tchAt_none ht x hx)⟩)).symm
  have hlr : Ctx G0 W mE m0 (Lrest tch L) w m := ⟨lrest_of tch L h.ctx.st, h.ctx.le⟩
  have hls : Ctx G0 W mE m0 (Lsel l tch L i) w m := by
    unfold Lsel
    refine ⟨lkeep_of tch L (fun x hx he => ?_) h.ctx.st, h.ctx.le⟩
    cases hs : l[x.1]? with
    | none => rw [hs] at he; cases he
    | some os =>
      rw [hs] at he
      obtain ⟨ed, hed, hb, hon⟩ := hasEdge_mem he
      cases hSs : S x.1 with
      | false => rfl
      | true => have := h.shut x.1 os hs hSs ed hed hb; rw [hon, hS] at this; cases this
  have hkeep : ∀ {v w' m'}, tchAt tch i = none → i ≠ im → (∀ x ∈ ins, x.1 ≠ i) → ExtG [] w m w' m' → MapU G0 W mE (Lof (valOf l (envOf (a.put o.dst v))) (fun j => if j = i then true else S j) tch L) enc im p ins (fun j => if j = i then true else S j) (envOf (a.put o.dst v)) w' m' := fun {v w' m'} ht h1 h2 hE => by
    rw [hlof v ht]
    exact hU.keep hE (if_neg (fun e => h1 e.symm)) (fun x hx => if_neg (h2 x hx)) (fun e => hpS e v)
  have hnolink : ∀ t f, κs[i]? = some (.same t f) → ∀ κn, κ = .val κn → ∃ q oq, l[q]? = some oq ∧ oq.dst = some t ∧ S q = true := fun t f ht κn e => by
    subst e; rw [hk] at ht; cases ht
  -- an operation that changes no resource
  have hplain : ∀ κn, κ = .val κn → tchAt tch i = none → i ≠ im → (∀ x ∈ ins, x.1 ≠ i) → (Region.wanted o (yielded l.toArray a.tmps) = true → Does P o (envOf a) w fun v w' => ∃ m', ExtG [] w m w' m' ∧ κn.holds m' v) →
      wpOpIn (rndF rd) 0 P l.toArray Q i (fun a' w' => ∃ m', Inv l κs G0 W mE m0 L tch a0 (fun j => if j = i then true else S j) a' w' m' ∧ MapU G0 W mE (Lof (valOf l (envOf a')) (fun j => if j = i then true else S j) tch L) enc im p ins (fun j => if j = i then true else S j) (envOf a') w' m') a w := by
    intro κn hκe ht h1 h2 hO
    unfold wpOpIn
    rw [hoi]
    show if Region.wanted o (yielded l.toArray a.tmps) = true then _ else _
    split
    · rename_i hw
      refine (wp_of_does (hO hw) fun v w' ⟨m', hE, hh⟩ => ⟨m', inv_put hchk hsz h hi hS hready hE.le (by rw [hlof v ht]; exact ⟨h.ctx.st.keep hE, h.ctx.le.trans hE.le⟩) (fun t f ht => hnolink t f ht κn hκe) fun t κ' hk' _ => ?_, hkeep ht h1 h2 hE⟩)
      rw [hk, hκe] at hk'; injection hk' with hk'; subst hk'
      refine ⟨fun _ => hh, fun gd e hn => absurd ?_ hn⟩
      cases hg : o.guard with
      | none => rw [hg] at e; cases e
      | some jb =>
        obtain ⟨j, b⟩ := jb
        rw [hg] at e; simp only [gOf, Option.some.injEq] at e; subst e
        exact (hwanted hw j b hg).2.2
    · rename_i hw
      obtain ⟨⟨gd0, hgd0⟩, hns⟩ := hunwanted hw
      exact ⟨fun _ _ => trivial, m, inv_put hchk hsz h hi hS hready (MLe.refl _) (by rw [hlof undef ht]; exact h.ctx) (fun t f ht => hnolink t f ht κn hκe) fun t κ' _ _ =>
        ⟨fun hall => absurd (hall gd0 hgd0) (hns gd0 hgd0), fun _ _ _ => rfl⟩, hkeep ht h1 h2 (ExtG.refl [] h.ctx.agree)⟩
  cases hobl with
  | plain hO hn =>
    simp only [Bool.and_eq_true, bne_iff_ne, ne_eq, List.all_eq_true] at hn
    rcases hO with ⟨κ', e, ht, hO⟩ | ⟨κ', k, r, r', e, ht, hkl, hr, hg, hO⟩ | ⟨t0, f0, e, ht0, hh, hN⟩
    · exact hplain κ' e ht hn.1 hn.2 fun hw => hO (envOf a) w m hls (hknow hw)
    · subst e
      have hw : Region.wanted o (yielded l.toArray a.tmps) = true := by simp [Region.wanted, hg]
      have hst := fun v => lof_step (V := valOf l (envOf a)) (V' := valOf l (envOf (a.put o.dst v))) (S := S) hshut (fun j hj hSj => val_other hchk hi hsz' h.shut hS hSj hj) tch L htch ht hS
      have hrk : (Lof (valOf l (envOf a)) S tch L)[k]? = some (r (envOf a)) := by
        rcases lof_pre (V := valOf l (envOf a)) hshut hS hi hready htch ht rfl (hr (envOf a)) with h1 | h1
        · exact h1
        · rw [List.getElem?_eq_none_iff, length_lof] at h1; omega
      unfold wpOpIn
      rw [hoi]
      show if Region.wanted o (yielded l.toArray a.tmps) = true then _ else _
      rw [if_pos hw]
      rcases hO with ⟨hp, hO⟩ | ⟨d', hp, hsl, hO⟩
      · refine (wp_of_does (hO (envOf a) w m hlr (h.ctx.st.loc.at_ hrk) (hknow hw)) fun v w' ⟨m', hT', hh⟩ => ⟨m', ?_⟩)
        refine ⟨inv_put hchk hsz h hi hS hready hT'.ext.le ?_ (fun t f ht => hnolink t f ht κ' rfl) fun t κ' hk' _ => ?_, ?_⟩
        · rw [← hst v, val_self hchk hκ hi hsz' hp]
          exact ⟨h.ctx.st.touch hrk hT', h.ctx.le.trans hT'.ext.le⟩
        · rw [hk] at hk'; injection hk' with hk'; subst hk'
          exact ⟨fun _ => hh, fun gd e hn => by rw [hg] at e; cases e⟩
        · rw [← hst v, val_self hchk hκ hi hsz' hp]
          exact hU.touch hrk hT' (if_neg (fun e => hn.1 e.symm)) (fun x hx => if_neg (hn.2 x hx)) (fun e => hpS e v)
      · refine (wp_of_does (hO (envOf a) w m hlr (h.ctx.st.loc.at_ hrk) (hknow hw)) fun v w' ⟨m', hT', hh⟩ => ⟨m', ?_⟩)
        refine ⟨inv_put hchk hsz h hi hS hready hT'.ext.le ?_ (fun t f ht => hnolink t f ht κ' rfl) fun t κ' hk' _ => ?_, ?_⟩
        · rw [← hst v, val_self2 (S := S) hchk hκ hi hsz' hp hsl]
          exact ⟨h.ctx.st.touch hrk hT', h.ctx.le.trans hT'.ext.le⟩
        · rw [hk] at hk'; injection hk' with hk'; subst hk'
          exact ⟨fun _ => hh, fun gd e hn => by rw [hg] at e; cases e⟩
        · rw [← hst v, val_self2 (S := S) hchk hκ hi hsz' hp hsl]
          exact hU.touch hrk hT' (if_neg (fun e => hn.1 e.symm)) (fun x hx => if_neg (hn.2 x hx)) (fun e => hpS e v)
    · subst e
      have hg : o.guard = none := by
        unfold linkTo at hh; simp only [Bool.and_eq_true] at hh
        cases hg : o.guard with
        | none => rfl
        | some x => rw [hg] at hh; cases hh.1.1
      have hw : Region.wanted o (yielded l.toArray a.tmps) = true := by simp [Region.wanted, hg]
      have hlink : ∀ t f, κs[i]? = some (.same t f) → ∃ q oq, l[q]? = some oq ∧ oq.dst = some t ∧ S q = true := fun t f ht => by
        rw [hk] at ht; injection ht with ht; injection ht with e e'; subst e
        unfold linkTo at hh
        simp only [Bool.and_eq_true, List.any_eq_true] at hh
        obtain ⟨_, x, hx, hd, he⟩ := hh
        obtain ⟨ed, hed, hb, hon⟩ := hasEdge_mem he
        exact ⟨x.2, x.1, List.mem_zipIdx_iff_getElem?.1 hx, by simpa using hd, hon ▸ hready ed hed hb⟩
      unfold wpOpIn
      rw [hoi]
      show if Region.wanted o (yielded l.toArray a.tmps) = true then _ else _
      rw [if_pos hw]
      refine (wp_of_does (hN (envOf a) w m (hknow hw)) fun v w' hv => ⟨m, ?_⟩)
      obtain ⟨rfl, rfl⟩ := hv
      refine ⟨inv_put hchk hsz h hi hS hready (MLe.refl _) (by rw [hlof _ ht0]; exact h.ctx) hlink fun t κ' hk' _ => ?_, hkeep ht0 hn.1 hn.2 (ExtG.refl [] h.ctx.agree)⟩
      rw [hk] at hk'; injection hk' with hk'; subst hk'
      exact ⟨fun _ => rfl, fun gd e hn => by rw [hg] at e; cases e⟩
  | @make κn ht0 hi0 hg hd hp hO =>
    subst hi0
    have hw : Region.wanted o (yielded l.toArray a.tmps) = true := by simp [Region.wanted, hg]
    unfold wpOpIn
    rw [hoi]
    show if Region.wanted o (yielded l.toArray a.tmps) = true then _ else _
    rw [if_pos hw]
    refine (wp_of_does (hO (envOf a) w m hlr trivial (hknow hw)) fun v w' ⟨m', hTo, hh⟩ => ⟨m', ?_⟩)
    rw [hp] at hTo
    have hst := st_setlast (hU.no hS) hTo
    refine ⟨inv_put hchk hsz h hi hS hready hTo.ext.le (by rw [hlof v ht0]; exact ⟨st_last hst, h.ctx.le.trans hTo.ext.le⟩) (fun t f ht => hnolink t f ht κn rfl) fun t κ' hk' _ => ?_, fun e => by simp at e, fun _ => ⟨[], ?_, fun k => ?_⟩⟩
    · rw [hk] at hk'; injection hk' with hk'; subst hk'
      exact ⟨fun _ => hh, fun gd e hn => by rw [hg] at e; cases e⟩
    · rw [hlof v ht0, show envOf (a.put o.dst v) p = v by rw [hd, envOf_put (hsz' p hd), if_pos rfl]]
      exact hst
    · rw [FU_none ins (fun x hx => ?_)]; rfl
      show (if x.1 = i then true else S x.1) = false
      rw [if_neg (hins x hx).2]
      cases hSx : S x.1 with
      | false => rfl
      | true => have := hshut x.1 i (hins x hx).1 hSx; rw [hS] at this; cases this
  | @put κn k v0 ht0 hm hg hd hp hO =>
    have hw : Region.wanted o (yielded l.toArray a.tmps) = true := by simp [Region.wanted, hg]
    have hSm : S im = true := by
      have he := (hins _ hm).1
      unfold edgeTo at he; rw [hi] at he
      obtain ⟨ed, hed, hb, hon⟩ := hasEdge_mem he
      exact hon ▸ hready ed hed hb
    obtain ⟨es, hst0, hes⟩ := hU.yes hSm
    unfold wpOpIn
    rw [hoi]
    show if Region.wanted o (yielded l.toArray a.tmps) = true then _ else _
    rw [if_pos hw]
    refine (wp_of_does (hO es (envOf a) w m hlr (hst0.loc.at_ (k := (Lof (valOf l (envOf a)) S tch L).length) (by simp)) (hknow hw)) fun v w' ⟨m', hTo, hh⟩ => ⟨m', ?_⟩)
    rw [hp] at hTo
    have hst := st_setlast hst0 hTo
    refine ⟨inv_put hchk hsz h hi hS hready hTo.ext.le (by rw [hlof v ht0]; exact ⟨st_last hst, h.ctx.le.trans hTo.ext.le⟩) (fun t f ht => hnolink t f ht κn rfl) fun t κ' hk' _ => ?_, fun e => ?_, fun _ => ⟨aset k v0 es, ?_, fun q => ?_⟩⟩
    · rw [hk] at hk'; injection hk' with hk'; subst hk'
      exact ⟨fun _ => hh, fun gd e hn => by rw [hg] at e; cases e⟩
    · have e : (if im = i then true else S im) = false := e
      rw [if_neg (fun e => (hins _ hm).2 e.symm), hSm] at e; cases e
    · rw [hlof v ht0, hpS hSm v]; exact hst
    · rw [FU_step hS ins hnd hnk hm q, alook_asetN, hes q]
  | @look κn ht0 hn hne hO =>
    simp only [Bool.and_eq_true, bne_iff_ne, ne_eq, List.all_eq_true] at hn
    have hall : ∀ x ∈ ins, S x.1 = true := fun x hx => reach_done hshut hready (hn.2 x hx).1.2
    have hSm : S im = true := by
      cases ins with
      | nil => cases hne
      | cons x r => exact reach_done hshut hready (hn.2 x (.head _)).2
    obtain ⟨es, hst0, hes⟩ := hU.yes hSm
    exact hplain κn rfl ht0 hn.1 (fun x hx => (hn.2 x hx).1.1) fun hw => hO (envOf a) w m hlr (hknow hw) ⟨es, hst0.loc.at_ (k := (Lof (valOf l (envOf a)) S tch L).length) (by simp), fun k => (hes k).trans (FU_all ins hall k)⟩
/-- A drawn region, by what stays true. -/
theorem region_by {Q : Exit → Act → World → Prop} {I : (Nat → Bool) → Act → World → Prop} {a0 : Act} {id : Nat} {w0 : World} (hm : P.follows .mixedOrders = true) (hchk : chk l = true)
    (step : ∀ S a w i o, I S a w → l[i]? = some o → S i = false → (∀ e ∈ o.after.toList, Region.binds .any e = true → S e.on = true) → wpOpIn (rndF rd) 0 P l.toArray Q i (fun a' w' => I (fun j => if j = i then true else S j) a' w') a w)
    (h0' : I (fun _ => false) a0 { w0 with drawn := w0.drawn + 1 }) (cont : ∀ a w S, (∀ i, i < l.length → S i = true) → I S a w → Q .normal a w) :
    (Code.region id l.toArray true).wpIn (rndF rd) 0 P Q a0 w0 := by
  refine wpIn_region_any hm ?_
  have key : ∀ (fuel : Nat) (listed : Array Bool) (a : Act) (w : World), listed.size = l.length → (listed.toList.countP (fun b => !b)) = fuel →
      I (fun j => listed.getD j false) a w → wpAnyIn (rndF rd) 0 P .any l.toArray Q fuel listed a w := by
    intro fuel
    have hreadyall : ∀ (listed : Array Bool), listed.size = l.length → Region.ready .any l.toArray listed = [] → ∀ i, i < l.length → listed.getD i false = true := by
      intro listed hl hr
      refine all_ready hchk fun i o ho hS => ?_
      have hi : i < l.length := (List.getElem?_eq_some_iff.1 ho).1
      have hni : i ∉ Region.ready .any l.toArray listed := by rw [hr]; simp
      simp only [Region.ready, List.mem_filter, List.mem_range, not_and, List.size_toArray] at hni
      have h1 := hni hi
      have hS' : listed.getD i true = false := by
        simp only [Array.getD_eq_getD_getElem?] at hS ⊢
        rw [Array.getElem?_eq_getElem (by omega)] at hS ⊢; exact hS
      have hoi : (l.toArray)[i]? = some o := by simpa using ho
      simp only [hS', hoi, Bool.not_false, Bool.true_and, Option.map_some, Option.getD_some, Bool.not_eq_true] at h1
      rw [← Array.all_toList] at h1
      rw [List.all_eq_false] at h1
      obtain ⟨e, he, hb⟩ := h1
      simp only [Bool.or_eq_true, Bool.not_eq_true', not_or, Bool.not_eq_false, Bool.not_eq_true] at hb
      exact ⟨e, he, hb.1, hb.2⟩
    induction fuel with
    | zero =>
      intro listed a w hl hc h
      have hall : ∀ i, i < l.length → listed.getD i false = true := by
        intro i hi
        rw [List.countP_eq_zero] at hc
        have := hc (listed[i]'(by omega)) (by simp)
        simp only [Array.getD_eq_getD_getElem?]
        rw [Array.getElem?_eq_getElem (by omega)]
        simpa using this
      refine ⟨?_, cont a w _ hall h⟩
      simp only [Region.ready, List.filter_eq_nil_iff, List.mem_range, List.size_toArray]
      intro i hi
      have := hall i hi
      simp only [Array.getD_eq_getD_getElem?] at this ⊢
      rw [Array.getElem?_eq_getElem (by omega)] at this ⊢
      simp only [Option.getD_some] at this ⊢
      simp [this]
    | succ fuel ih =>
      intro listed a w hl hc h
      refine ⟨fun hr => cont a w _ (hreadyall listed hl hr) h, fun i hi => ?_⟩
      simp only [Region.ready, List.mem_filter, List.mem_range, List.size_toArray, Bool.and_eq_true, Bool.not_eq_true'] at hi
      obtain ⟨hil, hun, hed⟩ := hi
      have ho : l[i]? = some l[i] := List.getElem?_eq_getElem hil
      have hoi : (l.toArray)[i]? = some l[i] := by simp
      have hun' : listed[i]? = some false := by
        simp only [Array.getD_eq_getD_getElem?] at hun
        rw [Array.getElem?_eq_getElem (by omega)] at hun ⊢
        simpa using hun
      have hs := step _ _ _ _ _ h ho (by simp [Array.getD_eq_getD_getElem?, hun']) fun e he hb => by
        rw [hoi] at hed
        simp only [Option.map_some, Option.getD_some, ← Array.all_toList, List.all_eq_true, Bool.or_eq_true, Bool.not_eq_true'] at hed
        rcases hed e he with h1 | h1
        · rw [hb] at h1; cases h1
        · exact h1
      refine wpOpIn_mono (fun a' w' h' => ih (listed.setIfInBounds i true) a' w' (by simpa using hl) ?_ ?_) hs
      · have hset : (listed.setIfInBounds i true).toList = listed.toList.set i true := Array.toList_setIfInBounds ..
        rw [hset]
        exact countP_set _ i fuel (by simpa using hun') hc
      · have : (fun j => if j = i then true else listed.getD j false) = fun j => (listed.setIfInBounds i true).getD j false := by
          funext j
          simp only [Array.getD_eq_getD_getElem?, Array.getElem?_setIfInBounds]
          by_cases hj : j = i
          · subst hj; simp [hl, hil]
          · rw [if_neg hj, if_neg (fun e => hj e.symm)]
        rwa [this] at h'
  have hrep : (List.replicate l.length false).countP (fun b => !b) = l.length := by rw [List.countP_replicate]; rfl
  have := key l.length (Array.replicate l.length false) a0 { w0 with drawn := w0.drawn + 1 } (by simp) (by simpa using hrep) (by
    have : (fun j => (Array.replicate l.length false).getD j false) = fun _ : Nat => false := by
      funext j; simp only [Array.getD_eq_getD_getElem?, Array.getElem?_replicate]; split <;> rfl
    rw [this]; exact h0')
  simpa using this
/-- A drawn region that fills a map in any order. -/
theorem region_uno {Q : Exit → Act → World → Prop} {n : FrN} {id : Nat} {a : Act} {w : World} {m : Mem} {fin : List Ent} {om : Oper} (enc : κ → Value) (im p : Nat) (ins : List (Nat × κ × Value))
    (hm : P.follows .mixedOrders = true) (hst : St G0 W mE L w m) (hfr : Fr n T a)
    (hchk : chk l = true) (htch : tchk l tch = true) (huc : uchk l im (ins.map (·.1)) = true) (hnk : (ins.map (·.2.1)).Nodup) (him : l[im]? = some om) (hpm : om.dst = some p) (hd : dchk n l = true)
    (hob : OblsU P l G0 W mE m L tch T enc im p ins 0 [] l fin)
    (cont : ∀ (a' : Act) (w' : World) (m' : Mem), St G0 W mE (Lfin (valOf l (envOf a')) tch L) w' m' → MLe m m' → FinK n fin T a' m' → Q .normal a' w') :
    (Code.region id l.toArray true).wpIn (rndF rd) 0 P Q a w := by
  obtain ⟨κs, hlen, _, hfin, hall⟩ := oblsU_at hob [] rfl (fun j => by simp) rfl
  simp only [Nat.zero_add] at hlen hfin hall
  have hob' : ∀ (j : Nat) (o : Oper), l[j]? = some o → ∃ κ, κs[j]? = some κ ∧ OblU P l G0 W mE m L tch T enc im p ins j (preAt l κs j) o κ :=
    fun j o ho => hall j o (by omega) ho (List.getElem?_eq_some_iff.1 ho).1
  have hst' : St G0 W mE L { w with drawn := w.drawn + 1 } m := hst.keep ⟨rfl, rfl, rfl, Nat.le_refl _, fun _ _ _ => rfl, ⟨hst.agree.cell, hst.agree.map⟩, MLe.refl _, fun _ _ _ => ⟨rfl, rfl⟩⟩
  have hlof : Lof (valOf l (envOf a)) (fun _ => false) tch L = L := lof_none tch L fun _ _ => rfl
  have hinv : Inv l κs G0 W mE m L tch a (fun _ => false) a { w with drawn := w.drawn + 1 } m :=
    ⟨⟨by rw [hlof]; exact hst', MLe.refl _⟩, rfl, rfl, (fun _ _ => rfl), fun _ _ _ _ _ _ h => (Bool.noConfusion h), fun _ _ _ _ _ _ h => (Bool.noConfusion h), fun _ _ _ h => (Bool.noConfusion h)⟩
  have hsz : ∀ (j : Nat) (o : Oper) (d : Nat), l[j]? = some o → o.dst = some d → d < a.tmps.size := fun j o d ho hdst => by
    rw [hfr.size]
    unfold dchk at hd
    rw [List.all_eq_true] at hd
    have := hd o (List.mem_of_getElem? ho)
    rw [hdst] at this
    simpa using this
  refine region_by (I := fun S a' w' => ∃ m', Inv l κs G0 W mE m L tch a S a' w' m' ∧ MapU G0 W mE (Lof (valOf l (envOf a')) S tch L) enc im p ins S (envOf a') w' m') hm hchk (fun S a' w' i o ⟨m', h, hU⟩ hi hS hr => ?_)
    ⟨m, hinv, by rw [hlof]; exact fun _ => hst'.more (r := .free) trivial List.nodup_nil (fun g hg => by cases hg), fun e => (Bool.noConfusion e)⟩ fun a' w' S hS ⟨m', h, _⟩ => ?_
  · exact invU_step hchk htch huc hnk him hpm hsz hob' hfr.at_ h hU hi hS hr
  · have htl : ∀ x ∈ tch, S x.1 = true := by
      have : ∀ tc : Tch, tchk l tc = true → ∀ x ∈ tc, x.1 < l.length := by
        intro tc
        induction tc with
        | nil => intro _ x hx; cases hx
        | cons y tc ih =>
          obtain ⟨s, k, r⟩ := y
          intro ht x hx
          obtain ⟨_, h2, h3, _⟩ := tchk_cons ht
          cases hx with
          | head => exact h3
          | tail _ hx => exact ih h2 x hx
      exact fun x hx => hS _ (this tch htch x hx)
    have hl' : Lof (valOf l (envOf a')) S tch L = Lfin (valOf l (envOf a')) tch L := lof_all tch L htl
    refine cont a' w' m' (by rw [← hl']; exact h.ctx.st) h.ctx.le ⟨h.defers.trans hfr.defers, h.size.trans hfr.size, fun t v hf hl => ?_, fun t g κ hf hg => ?_⟩
    · rw [hfin] at hf
      rw [h.same t fun j o ho hdst => ?_]
      · exact hfr.at_ t v hl
      · have hj := (List.getElem?_eq_some_iff.1 ho).1
        obtain ⟨κ, hk, _⟩ := hob' j o ho
        exact absurd hdst (find_preAt_none _ hf j o hj ho (by rw [hk]; rfl))
    · rw [hfin] at hf
      obtain ⟨j, o, hj, ho, hk, hdst, rfl⟩ := find_preAt _ hf
      exact (h.fact j o t κ ho hk (hS j hj) hdst).1 hg
/-- A lookup there. -/
theorem ob_lookupU {K : World → Mem → Prop} {m1 : Mem} {L1 : List Res} [hK : KC K m1 L1] {us : List Nat} {ch : List (Nat × Bool)} {pre : List Ent} {dst : Option Nat} {ty : TypeId} {pos : String} {af : Array Edge} {gd : Option (Nat × Bool)} {d : TypeDesc} {t kt et : TypeId} {x : Nat} {y : Operand} {k : κ} {z v : Value} {b : Bool} {F : List (κ × Value)}
    (hKe : Keys d enc) (hx : find pre x = some (none, .same p id)) (hu : has us x = true) (hy : ev us ch pre T y = some (enc k))
    (hm : P.underlying t = some (.map kt et)) (hd : P.underlying kt = some d) (hz : ∀ w, (zeroValue et).run P w = .ok z w)
    (hv : (match alook k F with | some u => (u, true) | none => (z, false)) = (v, b)) :
    ObL P K us ch pre T p enc F ⟨dst, .lookup t (.tmp x) y true, ty, pos, af, gd⟩ (.eq (.tuple #[v, .bool b])) := fun σ w m hk hn ⟨es, hr, hes⟩ => by
  suffices hs : (execOp (evalO σ) ⟨dst, .lookup t (.tmp x) y true, ty, pos, af, gd⟩).run P w = .ok (.value (.tuple #[v, .bool b])) w by
    unfold Does; rw [hs]; exact ⟨m, ExtG.refl _ (hK.agree hk), rfl⟩
  obtain ⟨g, ents, clock, e1, hh, he, _⟩ := hr
  have hxe : evalO σ (.tmp x) = .map (some g) := (hn.ent x none _ (has_mem hu) hx (fun _ e => by cases e)).trans e1
  have hf := findNow_enc hKe k ents.toList es 0 he
  have hget : (getObj g).run P w = .ok (.map ents clock) w := by simp [getObj, Sem.run, hh]
  rw [← hes k, alook_aidx k es 0] at hv
  cases ha : aidx k es 0 with
  | none =>
    rw [ha] at hf hv
    simp only [Option.map_none, Prod.mk.injEq] at hv
    obtain ⟨rfl, rfl⟩ := hv
    simp [execOp, hxe, hn.ev hy, Instr.lookup, run_underlying hm, Result.andThen, hget, run_checkKey hd (hKe.key k), run_findKey hd hf, hz]
  | some q =>
    rw [ha] at hf hv
    simp only [Option.map_some, Prod.mk.injEq] at hv
    obtain ⟨rfl, rfl⟩ := hv
    simp [execOp, hxe, hn.ev hy, Instr.lookup, run_underlying hm, Result.andThen, hget, run_checkKey hd (hKe.key k), run_findKey hd hf]
end
/-- A block of one's own that is written no more: it goes into the snapshot. -/
theorem St.freezeB {G0 : List Nat} {W : World} {mE : Mem} {L : List Res} {w : World} {m : Mem} {k g : Nat} {cs : Array Value} {e : TypeId} (h : St G0 W mE L w m) (hk : L[k]? = some (.blk (.pointer (some ⟨g, 0, none⟩)) (.cells cs e (0, 0)))) :
    ∃ m', MLe m m' ∧ St G0 W mE (L.set k .free) w m' ∧ CellsAt m' ⟨g, 0, none⟩ cs.toList := by
  obtain ⟨g', e1, hh, h6⟩ := h.loc.at_ hk
  simp only [Value.pointer.injEq, Option.some.injEq, Addr.mk.injEq] at e1
  obtain ⟨rfl, -⟩ := e1
  have ha := h.agree
  have hag : Agree w (m.add g cs) := ⟨fun b o u hu => by
    change (if b = g then cs[o]? else m b o) = some u at hu
    split at hu
    · rename_i hb; subst hb
      unfold World.cell?; simp only [hh]; simpa using hu
    · exact ha.cell b o u hu, ha.map⟩
  have hle : MLe m (m.add g cs) := ⟨fun b o u hu => by
    show (if b = g then cs[o]? else m b o) = some u
    split
    · rename_i hb; subst hb; rw [h6 o] at hu; cases hu
    · exact hu, fun _ _ h => h⟩
  refine ⟨m.add g cs, hle, h.touch hk ⟨⟨rfl, rfl, rfl, Nat.le_refl _, fun _ _ _ => rfl, hag, hle, fun b _ hb => ⟨by funext o; show (if b = g then cs[o]? else m b o) = m b o; rw [if_neg (fun e => hb (by simp [Res.blocks, ptrBlock, e]))], rfl⟩⟩, trivial, List.nodup_nil, fun g hg => by cases hg⟩, rfl, fun i u hu => ?_⟩
  show (if g = g then cs[0 + i]? else m g (0 + i)) = some u
  rw [if_pos rfl, Nat.zero_add]; simpa using hu
def numV : Nat → List (List Value) → List (Nat × Value)
  | _, [] => []
  | i, v :: r => (i, .agg v.toArray) :: numV (i + 1) r
theorem putL_mid : ∀ (vs z q p : List Value), vs.length = z.length → putL (p ++ (z ++ q)) p.length vs = p ++ (vs ++ q)
  | [], z, q, p, h => by
    obtain rfl : z = [] := List.eq_nil_of_length_eq_zero h.symm
    rfl
  | v :: vs, z, q, p, h => by
    cases z with
    | nil => cases h
    | cons y z =>
      have ih := putL_mid vs z q (p ++ [v]) (by simpa using h)
      rw [putL, show (p ++ (y :: z ++ q)).set p.length v = (p ++ [v]) ++ (z ++ q) by simp, show p.length + 1 = (p ++ [v]).length by simp, ih]
      simp
theorem fill_num {sz : Nat} : ∀ (vss : List (List Value)) (i : Nat) (p Z : List Value), p.length = i * sz → Z.length = vss.length * sz → (∀ v ∈ vss, v.length = sz) → fillL (fun i => some (i * sz, sz)) (p ++ Z) (numV i vss) = some (p ++ vss.flatten)
  | [], i, p, Z, _, hz, _ => by
    obtain rfl : Z = [] := List.eq_nil_of_length_eq_zero (by simpa using hz)
    simp [numV, fillL]
  | v :: r, i, p, Z, hp, hz, hv => by
    have hvl := hv v (.head _)
    have hzl : sz ≤ Z.length := by rw [hz, List.length_cons, Nat.succ_mul]; omega
    have hc : (Value.agg v.toArray).cells.toList = v := rfl
    have e1 : Nat.beq v.length sz = true := by rw [Nat.beq_eq]; exact hvl
    have e2 : Nat.ble (i * sz + v.length) (p ++ Z).length = true := Nat.ble_eq_true_of_le (by rw [List.length_append, hp]; omega)
    simp only [numV, fillL, hc]
    rw [e1, e2]
    simp only [Bool.not_true, Bool.or_self, cond_false]
    have hm := putL_mid v (Z.take sz) (Z.drop sz) p (by rw [List.length_take, hvl]; omega)
    rw [List.take_append_drop, hp] at hm
    rw [hm, ← List.append_assoc, fill_num r (i + 1) (p ++ v) (Z.drop sz) (by rw [List.length_append, hp, hvl, Nat.succ_mul]) (by rw [List.length_drop, hz, List.length_cons, Nat.succ_mul]; omega) (fun u hu => hv u (.tail _ hu))]
    simp
section
variable {P : Program} {K : World → Mem → Prop} {m0 : Mem} {L : List Res} {us : List Nat} {ch : List (Nat × Bool)} {pre : List Ent} {T : List (Nat × Value)}
variable {dst : Option Nat} {ty : TypeId} {pos : String} {af : Array Edge} {gd : Option (Nat × Bool)}
/-- A literal of any number of things of their own cells. -/
theorem ob_buildSliceN [hK : KC K m0 L] {t e : TypeId} {n sz : Nat} {xs : List (Nat × Operand)} {vs : List (Nat × Value)} {z : Value} (vss : List (List Value)) (hxs : EvPs us ch pre T xs vs) (hvs : vs = numV 0 vss) (ht : P.underlying t = some (.slice e))
    (hsz : ∀ w, (sizeOf e).run P w = .ok sz w) (hz : ∀ w, (zeroValue e).run P w = .ok z w) (hl : (vss.all fun v => Nat.beq v.length sz) = true) (hlen : Nat.beq vss.length n = true) (hzs : Nat.beq z.cells.size sz = true) (hn : Nat.ble (n * sz) 16777216 = true) (h0 : Nat.beq (n * sz) 0 = false) :
    Ob P K us ch pre T ⟨dst, .buildSlice t n xs.toArray, ty, pos, af, gd⟩ (.ex (MP.row n vss.flatten)) := by
  rw [Nat.beq_eq] at hlen
  refine ob_buildSlice hxs ht hsz hz (zero := z.cells.toList) rfl hn h0 ?_
  have h := fill_num (sz := sz) vss 0 [] ((List.range (n * sz)).map fun i => z.cells.toList.toArray[i % z.cells.toList.toArray.size]!) (by simp) (by simp [hlen]) (fun v hv => by
    have := List.all_eq_true.1 hl v hv
    rwa [Nat.beq_eq] at this)
  subst hvs
  simpa using h
end
end Go.Proofs.YtlihpgjabohebaaDoor
