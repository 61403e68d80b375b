/-
  One theorem for a region of operations: an obligation for each operation, said of what its own operands are known to be; then the region, drawn or not. Conditions: the closed test 'chk'.
-/
import Derived.Test.YtfphefkfbhjfdaaBase
import Derived.Orders
namespace Go.Proofs.Ytfphefkfbhjfdaa
set_option linter.all false
open Go.RowKit

/-- What is known of a value. -/
inductive Kn where
  | eq (v : Value)
  | ex (φ : MP)
def Kn.holds : Kn → Mem → Value → Prop
  | .eq c, _, v => v = c
  | .ex φ, m, v => φ.p m v
theorem Kn.mono {κ : Kn} {m m' : Mem} {v : Value} (hE : MLe m m') (h : κ.holds m v) : κ.holds m' v := by
  cases κ with
  | eq c => exact h
  | ex φ => exact φ.mono hE h
/-- What stands in a slot: something of which κ is known, or what stands in another slot. -/
inductive Ke where
  | val (κ : Kn)
  | same (t : Nat)
def Ke.holds : Ke → (Nat → Value) → Mem → Value → Prop
  | .val κ, _, m, v => κ.holds m v
  | .same t, σ, _, v => v = σ t
abbrev Ent := Option Nat × Option (Nat × Bool) × Ke
def gsat (σ : Nat → Value) (gd : Nat × Bool) : Prop := σ gd.1 = .bool gd.2
def find : List Ent → Nat → Option (Option (Nat × Bool) × Ke)
  | [], _ => none
  | (some d, g, κ) :: r, t => bif Nat.beq d t then some (g, κ) else find r t
  | (none, _, _) :: r, t => find r t
def look : List (Nat × Value) → Nat → Option Value
  | [], _ => none
  | (d, v) :: r, t => bif Nat.beq d t then some v else look r t
def gok : List (Nat × Bool) → Option (Nat × Bool) → Bool
  | _, none => true
  | [], some _ => false
  | (s, b) :: r, some (s', b') => bif Nat.beq s s' && (b == b') then true else gok r (some (s', b'))
def has : List Nat → Nat → Bool
  | [], _ => false
  | d :: r, t => bif Nat.beq d t then true else has r t
theorem has_mem {l : List Nat} {t : Nat} (h : has l t = true) : t ∈ l := by
  induction l with
  | nil => cases h
  | cons d r ih =>
    simp only [has] at h
    cases e : Nat.beq d t with
    | true => rw [Nat.beq_eq] at e; subst e; exact .head _
    | false => rw [e] at h; exact .tail _ (ih h)
theorem gok_mem {ch : List (Nat × Bool)} {gd : Nat × Bool} (h : gok ch (some gd) = true) : gd ∈ ch := by
  obtain ⟨s', b'⟩ := gd
  induction ch with
  | nil => cases h
  | cons x r ih =>
    obtain ⟨s, b⟩ := x
    simp only [gok] at h
    cases e : (Nat.beq s s' && (b == b')) with
    | true => simp at e; obtain ⟨rfl, rfl⟩ := e; exact .head _
    | false => rw [e] at h; exact .tail _ (ih h)

-- The closed side: which slots an operation looks at, its guards.
def tmpOf : Operand → List Nat
  | .tmp t => [t]
  | _ => []
def tmpsOf : List Operand → List Nat
  | [] => []
  | .tmp t :: r => t :: tmpsOf r
  | _ :: r => tmpsOf r
def optTmp : Option Operand → List Nat
  | some (.tmp t) => [t]
  | _ => []
def callTmps (c : Call) : List Nat :=
  (match c.callee with | .value f => tmpOf f | .invoke r _ => tmpOf r | .builtin _ => []) ++ tmpsOf c.args.toList
def opTmps : Op → List Nat
  | .move x | .assign x | .box _ x | .load _ x | .nilCheck x | .unOp _ _ x | .convert _ _ x | .sliceToArrayPointer _ x | .makeInterface _ x
  | .makeChan _ x | .fieldAddr _ x _ | .field _ x _ | .range _ x | .next x _ | .entry x | .typeAssert x _ _ _ | .extract x _ | .panic x | .recv _ x _ => tmpOf x
  | .pick c a b => tmpsOf [c, a, b]
  | .build _ ps | .buildSlice _ _ ps => tmpsOf (ps.toList.map (·.2))
  | .store _ a v | .binOp _ _ a v _ | .makeSlice _ a v | .indexAddr _ a v | .index _ a v | .lookup _ a v _ | .mapEntry _ a v | .send a v => tmpsOf [a, v]
  | .makeFunc _ first captured => tmpsOf first.toList ++ tmpsOf captured.toList
  | .makeMap _ r => optTmp r
  | .slice _ x l h m => tmpOf x ++ optTmp l ++ optTmp h ++ optTmp m
  | .mapUpdate _ m k v | .entryStore _ m k v | .insert _ m k v => tmpsOf [m, k, v]
  | .call c | .go c | .defer c => callTmps c
  | _ => []
def gslot (l : List Oper) (j : Nat) : Nat := match l[j]? with | some { dst := some d, .. } => d | _ => 0
def gOf (l : List Oper) : Option (Nat × Bool) → Option (Nat × Bool)
  | none => none
  | some (j, b) => some (gslot l j, b)
def guardAt (l : List Oper) (j : Nat) : Option (Nat × Bool) := match l[j]? with | some o => o.guard | none => none
def chainL (l : List Oper) : Nat → Option (Nat × Bool) → List (Nat × Bool)
  | 0, _ => []
  | _ + 1, none => []
  | n + 1, some (j, b) => (gslot l j, b) :: chainL l n (guardAt l j)
def usesL (l : List Oper) (o : Oper) : List Nat := opTmps o.op ++ (chainL l 12 o.guard).map (·.1)
def hasEdge (o : Oper) (j : Nat) : Bool := o.after.toList.any fun e => Region.binds .any e && e.on == j
/-- .. or it comes behind one that the guard names, and that one behind j. -/
def link (l : List Oper) : Nat → Oper → Nat → Bool
  | 0, o, j => hasEdge o j
  | n + 1, o, j => hasEdge o j || (match o.guard with | none => false | some (g, _) => hasEdge o g && (match l[g]? with | none => false | some og => link l n og j))
def chk1 (l : List Oper) (o : Oper) (i : Nat) : Bool :=
  (o.after.toList.all fun e => !Region.binds .any e || decide (e.on < i)) &&
  (match o.guard with | none => true | some (j, _) => hasEdge o j && (match l[j]? with | some { dst := some _, .. } => true | _ => false)) &&
  ((usesL l o).all fun t => l.zipIdx.all fun x => !(x.1.dst == some t) || x.2 == i || (if x.2 < i then link l 12 o x.2 else hasEdge x.1 i)) &&
  (l.zipIdx.all fun x => x.2 == i || o.dst == none || x.1.dst != o.dst)
def chk (l : List Oper) : Bool := l.zipIdx.all fun x => chk1 l x.1 x.2

abbrev Tch := List (Nat × Nat × (Value → Res))
/-- What an operation's slot holds; of one without a slot nothing. -/
def stTmp : Op → Option Nat
  | .store _ (.tmp t) (.tmp y) => some (bif Nat.ble t y then t else y)
  | .store _ (.tmp t) _ => some t
  | .insert _ (.tmp t) _ _ => some t
  | .mapUpdate _ (.tmp t) _ _ => some t
  | _ => none
/-- The slot whose value a step is known by: its own; of a store the one it stores through, if this region has written it before. -/
def slotOf (l : List Oper) (s : Nat) : Option Nat :=
  match l[s]? with
  | none => none
  | some o => match stTmp o.op with
    | some t => bif (l.take s).any (fun x => x.dst == some t) then some t else none
    | none => o.dst
/-- The value's slot of a store that is known by its value. -/
def valSt : Op → Option Nat
  | .store _ (.tmp t) (.tmp y) => bif Nat.ble t y then none else some y
  | _ => none
/-- Of a second such store, right behind a first one: the first one's slot. -/
def prevV (l : List Oper) (s : Nat) : Option Nat :=
  match l[s]? with
  | none => none
  | some o => match valSt o.op with
    | none => none
    | some _ => (List.range s).findSome? fun j => match l[j]? with
      | none => none
      | some oj => match valSt oj.op with
        | none => none
        | some _ => bif hasEdge o j then slotOf l j else none
def valOf (l : List Oper) (σ : Nat → Value) (s : Nat) : Value := match slotOf l s with
  | some d => (match prevV l s with | none => σ d | some d' => .tuple #[σ d, σ d'])
  | none => undef
def keepV : Option Nat → Value → Value
  | none, _ => undef
  | some _, v => v
def Lrest : Tch → List Res → List Res
  | [], L => L
  | (_, k, _) :: r, L => Lrest r (L.set k .free)
def Lof (V : Nat → Value) (S : Nat → Bool) : Tch → List Res → List Res
  | [], L => L
  | (s, k, r') :: r, L => Lof V S r (if S s then L.set k (r' (V s)) else L)
def Lfin (V : Nat → Value) : Tch → List Res → List Res
  | [], L => L
  | (s, k, r') :: r, L => Lfin V r (L.set k (r' (V s)))
/-- The resources that no step before step i can have changed. -/
def Lkeep (l : List Oper) (i : Nat) : Tch → List Res → List Res
  | [], L => L
  | (s, k, _) :: r, L => Lkeep l i r (bif (match l[s]? with | some o => hasEdge o i | none => false) then L else L.set k .free)
def Lsel (l : List Oper) (tch : Tch) (L : List Res) (i : Nat) : List Res := Lkeep l i tch L
def tchAt : Tch → Nat → Option (Nat × (Value → Res))
  | [], _ => none
  | (s, k, r') :: r, i => bif Nat.beq s i then some (k, r') else tchAt r i
/-- The next step that changes resource k. -/
def nextT : Tch → Nat → Option Nat
  | [], _ => none
  | (s, k', _) :: r, k => bif Nat.beq k' k then some s else nextT r k
/-- The last one before i. -/
def prevT : Tch → Nat → Nat → Option (Nat × (Value → Res)) → Option (Nat × (Value → Res))
  | [], _, _, acc => acc
  | (s, k', f) :: r, i, k, acc => bif Nat.beq s i then acc else prevT r i k (bif Nat.beq k' k then some (s, f) else acc)
def edgeTo (l : List Oper) (q s : Nat) : Bool := match l[q]? with | some o => hasEdge o s | none => false
def tchk (l : List Oper) : Tch → Bool
  | [] => true
  | (s, k, _) :: r => (decide (s < l.length)) && (r.all fun x => x.1 != s) && (match nextT r k with | some q => edgeTo l q s | none => true) && tchk l r
/-- What resource k is where step i begins. -/
def preRes (l : List Oper) (L : List Res) (tch : Tch) (i k : Nat) (σ : Nat → Value) : Option Res :=
  match prevT tch i k none with
  | some (p, f) => bif edgeTo l i p then some (f (valOf l σ p)) else none
  | none => L[k]?

/-- What is known where an operation stands: the slots 'us' alone. -/
structure Know (σ : Nat → Value) (m : Mem) (us : List Nat) (ch : List (Nat × Bool)) (pre : List Ent) (T : List (Nat × Value)) : Prop where
  old : ∀ t v, t ∈ us → find pre t = none → look T t = some v → σ t = v
  ent : ∀ t g κ, t ∈ us → find pre t = some (g, κ) → (∀ gd, g = some gd → gsat σ gd) → κ.holds σ m (σ t)
  gds : ∀ gd ∈ ch, gsat σ gd
def evT (us : List Nat) (ch : List (Nat × Bool)) (pre : List Ent) (T : List (Nat × Value)) (t : Nat) : Option Value :=
  bif has us t then
    match find pre t with
    | some (g, .val (.eq c)) => bif gok ch g then some c else none
    | some (_, _) => none
    | none => look T t
  else none
def ev (us : List Nat) (ch : List (Nat × Bool)) (pre : List Ent) (T : List (Nat × Value)) : Operand → Option Value
  | .tmp t => evT us ch pre T t
  | .const v => some v
  | .global g => some (.pointer (some ⟨g, 0, none⟩))
  | .func f => some (.func (.func f) #[] #[])
theorem Know.gd {σ : Nat → Value} {m : Mem} {us : List Nat} {ch : List (Nat × Bool)} {pre : List Ent} {T : List (Nat × Value)} (h : Know σ m us ch pre T)
    {g : Option (Nat × Bool)} (hg : gok ch g = true) : ∀ gd, g = some gd → gsat σ gd := fun gd e => by subst e; exact h.gds gd (gok_mem hg)
theorem Know.evT {σ : Nat → Value} {m : Mem} {us : List Nat} {ch : List (Nat × Bool)} {pre : List Ent} {T : List (Nat × Value)} (h : Know σ m us ch pre T)
    {t : Nat} {v : Value} (hv : evT us ch pre T t = some v) : σ t = v := by
  unfold Ytfphefkfbhjfdaa.evT at hv
  cases hu : has us t with
  | false => rw [hu] at hv; cases hv
  | true =>
    rw [hu] at hv
    simp only [cond_true] at hv
    have hm := has_mem hu
    split at hv
    · rename_i g c he
      cases hg : gok ch g with
      | false => rw [hg] at hv; cases hv
      | true =>
        rw [hg] at hv; simp only [cond_true, Option.some.injEq] at hv
        subst hv
        exact h.ent t g _ hm he (h.gd hg)
    · cases hv
    · rename_i he
      exact h.old t v hm he hv
theorem Know.ev {σ : Nat → Value} {m : Mem} {us : List Nat} {ch : List (Nat × Bool)} {pre : List Ent} {T : List (Nat × Value)} (h : Know σ m us ch pre T)
    {x : Operand} {v : Value} (hv : ev us ch pre T x = some v) : evalO σ x = v := by
  cases x with
  | tmp t => exact h.evT hv
  | const c => simpa [Ytfphefkfbhjfdaa.ev, evalO] using hv
  | global g => simpa [Ytfphefkfbhjfdaa.ev, evalO] using hv
  | func f => simpa [Ytfphefkfbhjfdaa.ev, evalO] using hv

/-- An operation's obligation. -/
def keepP (pre : List Ent) (o : Oper) (σ : Nat → Value) (v : Value) : Value :=
  match stTmp o.op with
  | some t => (match find pre t with | some _ => σ t | none => undef)
  | none => keepV o.dst v
def Ob (P : Program) (K : World → Mem → Prop) (us : List Nat) (ch : List (Nat × Bool)) (pre : List Ent) (T : List (Nat × Value)) (o : Oper) (κ : Kn) : Prop :=
  ∀ (σ : Nat → Value) (w : World) (m : Mem), K w m → Know σ m us ch pre T → Does P o σ w fun v w' => ∃ m', ExtG [] w m w' m' ∧ κ.holds m' v
/-- The same of one that changes a resource. -/
def ObT (P : Program) (K : World → Mem → Prop) (us : List Nat) (ch : List (Nat × Bool)) (pre : List Ent) (T : List (Nat × Value)) (r : (Nat → Value) → Res) (r' : Value → Res) (o : Oper) (κ : Kn) : Prop :=
  ∀ (σ : Nat → Value) (w : World) (m : Mem), K w m → (r σ).holds w m → Know σ m us ch pre T → Does P o σ w fun v w' => ∃ m', Touch (r σ) (r' (keepP pre o σ v)) w m w' m' ∧ κ.holds m' v
/-- The same of a second store that is known by its value, behind a first one (its value stands in d'). -/
def ObT2 (P : Program) (K : World → Mem → Prop) (us : List Nat) (ch : List (Nat × Bool)) (pre : List Ent) (T : List (Nat × Value)) (d' : Nat) (r : (Nat → Value) → Res) (r' : Value → Res) (o : Oper) (κ : Kn) : Prop :=
  ∀ (σ : Nat → Value) (w : World) (m : Mem), K w m → (r σ).holds w m → Know σ m us ch pre T → Does P o σ w fun v w' => ∃ m', Touch (r σ) (r' (.tuple #[keepP pre o σ v, σ d'])) w m w' m' ∧ κ.holds m' v
theorem keepP_cons {pre : List Ent} {t : Nat} {x y : Option (Nat × Bool) × Ke} {o : Oper} {σ : Nat → Value} {v : Value} (hf : find pre t = some x) : keepP ((some t, y) :: pre) o σ v = keepP pre o σ v := by
  unfold keepP
  cases stTmp o.op with
  | none => rfl
  | some t' =>
    simp only [find]
    cases e : Nat.beq t t' with
    | true => rw [Nat.beq_eq] at e; subst e; rw [hf]; rfl
    | false => rfl
def entOf (l : List Oper) (o : Oper) (κ : Ke) : Ent := (o.dst, gOf l o.guard, κ)
/-- The operation hands on what stands in slot t, which an operation before it has written. -/
def handsOn (l : List Oper) (o : Oper) (t : Nat) : Bool :=
  (match o.op with | .assign (.tmp t') => Nat.beq t' t | .move (.tmp t') => Nat.beq t' t | _ => false) && (match o.guard with | none => true | _ => false) && (match o.dst with | some _ => true | none => false) &&
  l.zipIdx.any fun x => x.1.dst == some t && hasEdge o x.2

structure Ctx (G0 : List Nat) (W : World) (mE m0 : Mem) (L : List Res) (w : World) (m : Mem) : Prop where
  st : St G0 W mE L w m
  le : MLe m0 m
theorem Ctx.agree {G0 : List Nat} {W : World} {mE m0 : Mem} {L : List Res} {w : World} {m : Mem} (h : Ctx G0 W mE m0 L w m) : Agree w m := h.st.ext.agree

inductive Obls (P : Program) (l : List Oper) (G0 : List Nat) (W : World) (mE m0 : Mem) (L : List Res) (tch : Tch) (T : List (Nat × Value)) : Nat → List Ent → List Oper → List Ent → Prop where
  | nil {i : Nat} {pre : List Ent} : Obls P l G0 W mE m0 L tch T i pre [] pre
  | cons {i : Nat} {pre : List Ent} {o : Oper} {os : List Oper} {κ : Kn} {fin : List Ent} (ht : tchAt tch i = none)
      (h : Ob P (Ctx G0 W mE m0 (Lsel l tch L i)) (usesL l o) (chainL l 12 o.guard) pre T o κ)
      (hs : Obls P l G0 W mE m0 L tch T (i + 1) (entOf l o (.val κ) :: pre) os fin) : Obls P l G0 W mE m0 L tch T i pre (o :: os) fin
  | consA {i : Nat} {pre : List Ent} {o : Oper} {os : List Oper} {fin : List Ent} (t : Nat) (ht : tchAt tch i = none) (h : handsOn l o t = true)
      (hs : Obls P l G0 W mE m0 L tch T (i + 1) (entOf l o (.same t) :: pre) os fin) : Obls P l G0 W mE m0 L tch T i pre (o :: os) fin
  | consT {i : Nat} {pre : List Ent} {o : Oper} {os : List Oper} {κ : Kn} {fin : List Ent} {k : Nat} {r : (Nat → Value) → Res} {r' : Value → Res} (ht : tchAt tch i = some (k, r')) (hkl : Nat.ble (k + 1) L.length = true) (hr : ∀ σ, preRes l L tch i k σ = some (r σ)) (hg : o.guard = none)
      (h : ObT P (Ctx G0 W mE m0 (Lrest tch L)) (usesL l o) (chainL l 12 o.guard) pre T r r' o κ)
      (hs : Obls P l G0 W mE m0 L tch T (i + 1) (entOf l o (.val κ) :: pre) os fin) (hp : prevV l i = none := by rfl) : Obls P l G0 W mE m0 L tch T i pre (o :: os) fin
  | consT2 {i : Nat} {pre : List Ent} {o : Oper} {os : List Oper} {κ : Kn} {fin : List Ent} {k d' : Nat} {r : (Nat → Value) → Res} {r' : Value → Res} (ht : tchAt tch i = some (k, r')) (hkl : Nat.ble (k + 1) L.length = true) (hr : ∀ σ, preRes l L tch i k σ = some (r σ)) (hg : o.guard = none)
      (hp : prevV l i = some d') (hsl : (slotOf l i).isSome = true)
      (h : ObT2 P (Ctx G0 W mE m0 (Lrest tch L)) (usesL l o) (chainL l 12 o.guard) pre T d' r r' o κ)
      (hs : Obls P l G0 W mE m0 L tch T (i + 1) (entOf l o (.val κ) :: pre) os fin) : Obls P l G0 W mE m0 L tch T i pre (o :: os) fin

section proof
variable {P : Program} {l : List Oper} {G0 : List Nat} {W : World} {mE m0 : Mem} {L : List Res} {tch : Tch} {T : List (Nat × Value)}

/-- The obligation of operation i, with what stands before it. -/
def OblAt (P : Program) (l : List Oper) (G0 : List Nat) (W : World) (mE m0 : Mem) (L : List Res) (tch : Tch) (T : List (Nat × Value)) (i : Nat) (pre : List Ent) (o : Oper) (ke : Ke) : Prop :=
  (∃ κ, ke = .val κ ∧ tchAt tch i = none ∧ Ob P (Ctx G0 W mE m0 (Lsel l tch L i)) (usesL l o) (chainL l 12 o.guard) pre T o κ) ∨
  (∃ κ k r r', ke = .val κ ∧ tchAt tch i = some (k, r') ∧ k < L.length ∧ (∀ σ, preRes l L tch i k σ = some (r σ)) ∧ o.guard = none ∧ ((prevV l i = none ∧ ObT P (Ctx G0 W mE m0 (Lrest tch L)) (usesL l o) (chainL l 12 o.guard) pre T r r' o κ) ∨ ∃ d', prevV l i = some d' ∧ (slotOf l i).isSome = true ∧ ObT2 P (Ctx G0 W mE m0 (Lrest tch L)) (usesL l o) (chainL l 12 o.guard) pre T d' r r' o κ)) ∨
  (∃ t, ke = .same t ∧ tchAt tch i = none ∧ handsOn l o t = true)
def preAt (l : List Oper) (κs : List Ke) : Nat → List Ent
  | 0 => []
  | i + 1 => (match l[i]?, κs[i]? with | some o, some κ => [entOf l o κ] | _, _ => []) ++ preAt l κs i
theorem obls_at {i : Nat} {pre : List Ent} {os : List Oper} {fin : List Ent} (h : Obls P l G0 W mE m0 L tch T i pre os fin) :
    ∀ (κs0 : List Ke), κs0.length = i → (∀ j, os[j]? = l[i + j]?) → pre = preAt l κs0 i →
    ∃ κs : List Ke, κs.length = i + os.length ∧ (∀ j, j < i → κs[j]? = κs0[j]?) ∧ fin = preAt l κs (i + os.length) ∧
      ∀ j o, i ≤ j → l[j]? = some o → j < i + os.length → ∃ κ, κs[j]? = some κ ∧ OblAt P l G0 W mE m0 L tch T j (preAt l κs j) o κ := by
  have pre_congr : ∀ (κs κs' : List Ke) (n : Nat), (∀ j, j < n → κs[j]? = κs'[j]?) → preAt l κs n = preAt l κs' n := by
    intro κs κs' n
    induction n with
    | zero => intro _; rfl
    | succ n ih => intro hh; simp only [preAt, hh n (by omega), ih (fun j hj => hh j (by omega))]
  induction h with
  | nil =>
    intro κs0 h0 _ hp
    exact ⟨κs0, by simpa using h0, fun _ _ => rfl, by simpa using hp, fun j o h1 _ h2 => by simp at h2; omega⟩
  | @cons i pre o os κ fin ht hob hs ih =>
    intro κs0 h0 hos hp
    have ho : l[i]? = some o := by simpa using (hos 0).symm
    have hk0 : (κs0 ++ [.val κ])[i]? = some (.val κ) := by rw [List.getElem?_append_right (by omega), h0]; simp
    have hlow : ∀ j, j < i → (κs0 ++ [.val κ])[j]? = κs0[j]? := fun j hj => by rw [List.getElem?_append_left (by omega)]
    obtain ⟨κs, hl, hlo, hf, hall⟩ := ih (κs0 ++ [.val κ]) (by simp [h0]) (fun j => by have := hos (j + 1); simpa [Nat.add_assoc, Nat.add_comm 1 j] using this)
      (by simp only [preAt, ho, hk0]; rw [pre_congr _ _ i hlow, ← hp]; rfl)
    refine ⟨κs, by simp [hl]; omega, fun j hj => (hlo j (by omega)).trans (hlow j hj), by rw [hf]; simp [Nat.add_assoc, Nat.add_comm 1], fun j o' h1 h2 h3 => ?_⟩
    by_cases hj : j = i
    · subst hj
      rw [ho] at h2; injection h2 with h2; subst h2
      refine ⟨.val κ, (hlo j (by omega)).trans hk0, .inl ⟨κ, rfl, ht, ?_⟩⟩
      rw [pre_congr κs κs0 j (fun q hq => (hlo q (by omega)).trans (hlow q hq)), ← hp]
      exact hob
    · exact hall j o' (by omega) h2 (by simp at h3; omega)
  | @consA i pre o os fin t ht hob hs ih =>
    intro κs0 h0 hos hp
    have ho : l[i]? = some o := by simpa using (hos 0).symm
    have hk0 : (κs0 ++ [.same t])[i]? = some (.same t) := by rw [List.getElem?_append_right (by omega), h0]; simp
    have hlow : ∀ j, j < i → (κs0 ++ [.same t])[j]? = κs0[j]? := fun j hj => by rw [List.getElem?_append_left (by omega)]
    obtain ⟨κs, hl, hlo, hf, hall⟩ := ih (κs0 ++ [.same t]) (by simp [h0]) (fun j => by have := hos (j + 1); simpa [Nat.add_assoc, Nat.add_comm 1 j] using this)
      (by simp only [preAt, ho, hk0]; rw [pre_congr _ _ i hlow, ← hp]; rfl)
    refine ⟨κs, by simp [hl]; omega, fun j hj => (hlo j (by omega)).trans (hlow j hj), by rw [hf]; simp [Nat.add_assoc, Nat.add_comm 1], fun j o' h1 h2 h3 => ?_⟩
    by_cases hj : j = i
    · subst hj
      rw [ho] at h2; injection h2 with h2; subst h2
      exact ⟨.same t, (hlo j (by omega)).trans hk0, .inr (.inr ⟨t, rfl, ht, hob⟩)⟩
    · exact hall j o' (by omega) h2 (by simp at h3; omega)
  | @consT i pre o os κ fin k r r' ht hkl hr hg hob hs hp ih =>
    intro κs0 h0 hos hpre
    have ho : l[i]? = some o := by simpa using (hos 0).symm
    have hk0 : (κs0 ++ [.val κ])[i]? = some (.val κ) := by rw [List.getElem?_append_right (by omega), h0]; simp
    have hlow : ∀ j, j < i → (κs0 ++ [.val κ])[j]? = κs0[j]? := fun j hj => by rw [List.getElem?_append_left (by omega)]
    obtain ⟨κs, hl, hlo, hf, hall⟩ := ih (κs0 ++ [.val κ]) (by simp [h0]) (fun j => by have := hos (j + 1); simpa [Nat.add_assoc, Nat.add_comm 1 j] using this)
      (by simp only [preAt, ho, hk0]; rw [pre_congr _ _ i hlow, ← hpre]; rfl)
    refine ⟨κs, by simp [hl]; omega, fun j hj => (hlo j (by omega)).trans (hlow j hj), by rw [hf]; simp [Nat.add_assoc, Nat.add_comm 1], fun j o' h1 h2 h3 => ?_⟩
    by_cases hj : j = i
    · subst hj
      rw [ho] at h2; injection h2 with h2; subst h2
      refine ⟨.val κ, (hlo j (by omega)).trans hk0, .inr (.inl ⟨κ, k, r, r', rfl, ht, Nat.le_of_ble_eq_true hkl, hr, hg, .inl ⟨hp, ?_⟩⟩)⟩
      rw [pre_congr κs κs0 j (fun q hq => (hlo q (by omega)).trans (hlow q hq)), ← hpre]
      exact hob
    · exact hall j o' (by omega) h2 (by simp at h3; omega)
  | @consT2 i pre o os κ fin k d' r r' ht hkl hr hg hp hsl hob hs ih =>
    intro κs0 h0 hos hpre
    have ho : l[i]? = some o := by simpa using (hos 0).symm
    have hk0 : (κs0 ++ [.val κ])[i]? = some (.val κ) := by rw [List.getElem?_append_right (by omega), h0]; simp
    have hlow : ∀ j, j < i → (κs0 ++ [.val κ])[j]? = κs0[j]? := fun j hj => by rw [List.getElem?_append_left (by omega)]
    obtain ⟨κs, hl, hlo, hf, hall⟩ := ih (κs0 ++ [.val κ]) (by simp [h0]) (fun j => by have := hos (j + 1); simpa [Nat.add_assoc, Nat.add_comm 1 j] using this)
      (by simp only [preAt, ho, hk0]; rw [pre_congr _ _ i hlow, ← hpre]; rfl)
    refine ⟨κs, by simp [hl]; omega, fun j hj => (hlo j (by omega)).trans (hlow j hj), by rw [hf]; simp [Nat.add_assoc, Nat.add_comm 1], fun j o' h1 h2 h3 => ?_⟩
    by_cases hj : j = i
    · subst hj
      rw [ho] at h2; injection h2 with h2; subst h2
      refine ⟨.val κ, (hlo j (by omega)).trans hk0, .inr (.inl ⟨κ, k, r, r', rfl, ht, Nat.le_of_ble_eq_true hkl, hr, hg, .inr ⟨d', hp, hsl, ?_⟩⟩)⟩
      rw [pre_congr κs κs0 j (fun q hq => (hlo q (by omega)).trans (hlow q hq)), ← hpre]
      exact hob
    · exact hall j o' (by omega) h2 (by simp at h3; omega)

theorem find_preAt {κs : List Ke} {t : Nat} : ∀ (i : Nat) {g : Option (Nat × Bool)} {κ : Ke}, find (preAt l κs i) t = some (g, κ) →
    ∃ j o, j < i ∧ l[j]? = some o ∧ κs[j]? = some κ ∧ o.dst = some t ∧ g = gOf l o.guard
  | 0, _, _, h => by cases h
  | i + 1, g, κ, h => by
    simp only [preAt] at h
    cases ho : l[i]? with
    | none => rw [ho] at h; obtain ⟨j, o, h1, h2⟩ := find_preAt i h; exact ⟨j, o, by omega, h2⟩
    | some o =>
      cases hk : κs[i]? with
      | none => rw [ho, hk] at h; obtain ⟨j, o, h1, h2⟩ := find_preAt i h; exact ⟨j, o, by omega, h2⟩
      | some κ' =>
        rw [ho, hk] at h
        simp only [entOf, List.cons_append, List.nil_append] at h
        cases hd : o.dst with
        | none => rw [hd] at h; simp only [find] at h; obtain ⟨j, o, h1, h2⟩ := find_preAt i h; exact ⟨j, o, by omega, h2⟩
        | some d =>
          rw [hd] at h; simp only [find] at h
          cases e : Nat.beq d t with
          | false => rw [e] at h; obtain ⟨j, o, h1, h2⟩ := find_preAt i h; exact ⟨j, o, by omega, h2⟩
          | true =>
            rw [e] at h; simp only [cond_true, Option.some.injEq, Prod.mk.injEq] at h
            rw [Nat.beq_eq] at e; subst e
            exact ⟨i, o, by omega, ho, by rw [hk, h.2], hd, h.1.symm⟩
theorem find_preAt_none {κs : List Ke} {t : Nat} : ∀ (i : Nat), find (preAt l κs i) t = none → ∀ j o, j < i → l[j]? = some o → (κs[j]?).isSome → o.dst ≠ some t
  | 0, _, _, _, h, _, _ => by omega
  | i + 1, h, j, o, hj, ho, hk => by
    simp only [preAt] at h
    have rest : find (preAt l κs i) t = none ∧ ∀ o', l[i]? = some o' → (κs[i]?).isSome → o'.dst ≠ some t := by
      cases ho' : l[i]? with
      | none => rw [ho'] at h; exact ⟨h, fun o' e => by cases e⟩
      | some o' =>
        cases hk' : κs[i]? with
        | none => rw [ho', hk'] at h; exact ⟨h, fun _ _ e => by simp at e⟩
        | some κ' =>
          rw [ho', hk'] at h
          simp only [entOf, List.cons_append, List.nil_append] at h
          cases hd : o'.dst with
          | none => rw [hd] at h; simp only [find] at h; exact ⟨h, fun o'' e _ => by injection e with e; subst e; rw [hd]; simp⟩
          | some d =>
            rw [hd] at h; simp only [find] at h
            cases e : Nat.beq d t with
            | true => rw [e] at h; cases h
            | false =>
              rw [e] at h
              refine ⟨h, fun o'' e' _ => ?_⟩
              injection e' with e'; subst e'; rw [hd]
              intro hh; injection hh with hh; subst hh; simp at e
    by_cases hji : j = i
    · subst hji; exact rest.2 o ho hk
    · exact find_preAt_none i rest.1 j o (by omega) ho hk

-- the touched resources
theorem lof_set {V : Nat → Value} {S : Nat → Bool} {k : Nat} {r' : Res} : ∀ (tch : Tch) (L : List Res), (∀ x ∈ tch, S x.1 = true → x.2.1 ≠ k) → (Lof V S tch L).set k r' = Lof V S tch (L.set k r')
  | [], _, _ => rfl
  | (s, k0, r0) :: r, L, h => by
    simp only [Lof]
    rw [lof_set r _ (fun x hx => h x (.tail _ hx))]
    cases hS : S s with
    | true =>
      have hne : k0 ≠ k := h _ (.head _) hS
      simp only [if_true]
      rw [List.set_comm _ _ hne]
    | false => rfl
theorem lof_congr {V V' : Nat → Value} {S S' : Nat → Bool} : ∀ (tch : Tch) (L : List Res), (∀ x ∈ tch, S x.1 = S' x.1 ∧ (S x.1 = true → V x.1 = V' x.1)) → Lof V S tch L = Lof V' S' tch L
  | [], _, _ => rfl
  | (s, k0, r0) :: r, L, h => by
    have h1 := h _ (.head _)
    have e : (if S s then L.set k0 (r0 (V s)) else L) = (if S' s then L.set k0 (r0 (V' s)) else L) := by
      have h11 : S s = S' s := h1.1
      cases hS : S s with
      | true => rw [← h11, hS, h1.2 hS]
      | false => rw [← h11, hS]; rfl
    simp only [Lof]
    rw [e]
    exact lof_congr r _ (fun x hx => h x (.tail _ hx))
theorem tchk_cons {s k : Nat} {r0 : Value → Res} {r : Tch} (h : tchk l ((s, k, r0) :: r) = true) : (∀ x ∈ r, x.1 ≠ s) ∧ tchk l r = true ∧ s < l.length ∧ ∀ q, nextT r k = some q → edgeTo l q s = true := by
  simp only [tchk, Bool.and_eq_true, decide_eq_true_eq, List.all_eq_true, bne_iff_ne, ne_eq] at h
  refine ⟨h.1.1.2, h.2, h.1.1.1, fun q hq => ?_⟩
  have := h.1.2
  rw [hq] at this
  exact this
/-- S holds with an operation also what it is linked to. -/
def Shut (l : List Oper) (S : Nat → Bool) : Prop := ∀ q s, edgeTo l q s = true → S q = true → S s = true
theorem chain_done {S : Nat → Bool} (hs : Shut l S) : ∀ (r : Tch) (s k : Nat) (r0 : Value → Res), tchk l ((s, k, r0) :: r) = true → (∃ x ∈ r, x.2.1 = k ∧ S x.1 = true) → S s = true
  | [], _, _, _, _, h => by obtain ⟨x, hx, _⟩ := h; cases hx
  | (q, k', f) :: r, s, k, r0, hc, h => by
    obtain ⟨_, hc', _, hn⟩ := tchk_cons hc
    by_cases hk : k' = k
    · subst hk
      have hq : S q = true := by
        obtain ⟨x, hx, hxk, hxs⟩ := h
        cases hx with
        | head => exact hxs
        | tail _ hx => exact chain_done hs r q k' f hc' ⟨x, hx, hxk, hxs⟩
      exact hs q s (hn q (by simp [nextT])) hq
    · have hb : Nat.beq k' k = false := by rw [← Bool.not_eq_true, Nat.beq_eq]; exact hk
      refine chain_done hs r s k r0 ?_ ?_
      · obtain ⟨h1, _, h3, _⟩ := tchk_cons hc
        obtain ⟨_, hc2, _, _⟩ := tchk_cons hc'
        simp only [tchk, Bool.and_eq_true, decide_eq_true_eq, List.all_eq_true, bne_iff_ne, ne_eq]
        refine ⟨⟨⟨h3, fun x hx => h1 x (.tail _ hx)⟩, ?_⟩, hc2⟩
        cases hq : nextT r k with
        | none => rfl
        | some q' => exact hn q' (by simp only [nextT, hb, cond_false]; exact hq)
      · obtain ⟨x, hx, hxk, hxs⟩ := h
        cases hx with
        | head => exact absurd hxk hk
        | tail _ hx => exact ⟨x, hx, hxk, hxs⟩
theorem lof_get {V : Nat → Value} {S : Nat → Bool} {k : Nat} : ∀ (r : Tch) (L : List Res), (∀ x ∈ r, S x.1 = true → x.2.1 ≠ k) → (Lof V S r L)[k]? = L[k]?
  | [], _, _ => rfl
  | (s1, k1, r1) :: r, L, hh => by
    simp only [Lof]
    rw [lof_get r _ (fun y hy => hh y (.tail _ hy))]
    cases hS : S s1 with
    | true => simp only [if_true]; rw [List.getElem?_set_ne (hh _ (.head _) hS)]
    | false => rfl
theorem lof_step {V V' : Nat → Value} {S : Nat → Bool} {i k : Nat} {r' : Value → Res} (hs : Shut l S) (hV : ∀ j, j ≠ i → S j = true → V j = V' j) : ∀ (tch : Tch) (L : List Res), tchk l tch = true → tchAt tch i = some (k, r') → S i = false →
    (Lof V S tch L).set k (r' (V' i)) = Lof V' (fun j => if j = i then true else S j) tch L
  | [], _, _, h, _ => by cases h
  | (s, k0, r0) :: r, L, hc, h, hS => by
    obtain ⟨hr, hc', _, _⟩ := tchk_cons hc
    simp only [tchAt] at h
    cases e : Nat.beq s i with
    | true =>
      rw [e] at h; simp only [cond_true, Option.some.injEq, Prod.mk.injEq] at h
      rw [Nat.beq_eq] at e; subst e; obtain ⟨rfl, rfl⟩ := h
      have hcg : ∀ L', Lof V S r L' = Lof V' (fun j => if j = s then true else S j) r L' := fun L' => lof_congr r L' fun x hx => ⟨by rw [if_neg (hr x hx)], hV _ (hr x hx)⟩
      have hno : ∀ x ∈ r, S x.1 = true → x.2.1 ≠ k0 := fun x hx hxs hxk => by
        have := chain_done hs r s k0 r0 hc ⟨x, hx, hxk, hxs⟩
        rw [hS] at this; cases this
      simp only [Lof, hS, if_true]
      rw [lof_set r _ hno, ← hcg]; simp
    | false =>
      rw [e] at h; simp only [cond_false] at h
      have hne : s ≠ i := fun hh => by subst hh; simp at e
      have h1 := lof_step hs hV r (if S s then L.set k0 (r0 (V s)) else L) hc' h hS
      simp only [Lof]
      rw [h1]; simp only [if_neg hne]
      cases hSs : S s with
      | true => rw [hV s hne hSs]
      | false => rfl
theorem prevT_some {k : Nat} : ∀ (r : Tch) (i : Nat) (x : Nat × (Value → Res)), prevT r i k (some x) ≠ none
  | [], _, _, h => by cases h
  | (s1, k1, f1) :: r, i, x, h => by
    simp only [prevT] at h
    cases e : Nat.beq s1 i with
    | true => rw [e] at h; cases h
    | false =>
      rw [e] at h; simp only [cond_false] at h
      cases e1 : Nat.beq k1 k with
      | true => rw [e1] at h; exact prevT_some r i _ h
      | false => rw [e1] at h; exact prevT_some r i _ h
/-- What a resource is when its next step comes up. -/
theorem lof_cur {V : Nat → Value} {S : Nat → Bool} {i k : Nat} {r' : Value → Res} (hs : Shut l S) (hS : S i = false) : ∀ (tch : Tch) (L : List Res) (acc : Option (Nat × (Value → Res))), tchk l tch = true → tchAt tch i = some (k, r') →
    (∀ p f, acc = some (p, f) → S p = true → L[k]? = some (f (V p)) ∨ L[k]? = none) →
    (∀ p f, prevT tch i k acc = some (p, f) → S p = true → (Lof V S tch L)[k]? = some (f (V p)) ∨ (Lof V S tch L)[k]? = none) ∧ (prevT tch i k acc = none → (Lof V S tch L)[k]? = L[k]?)
  | [], _, _, _, h, _ => by cases h
  | (s, k0, r0) :: r, L, acc, hc, h, ha => by
    obtain ⟨hr, hc', _, _⟩ := tchk_cons hc
    simp only [tchAt] at h
    cases e : Nat.beq s i with
    | true =>
      rw [e] at h; simp only [cond_true, Option.some.injEq, Prod.mk.injEq] at h
      rw [Nat.beq_eq] at e; subst e; obtain ⟨rfl, rfl⟩ := h
      have hno : ∀ x ∈ r, S x.1 = true → x.2.1 ≠ k0 := fun x hx hxs hxk => by
        have := chain_done hs r s k0 r0 hc ⟨x, hx, hxk, hxs⟩
        rw [hS] at this; cases this
      have hg : (Lof V S ((s, k0, r0) :: r) L)[k0]? = L[k0]? := by
        simp only [Lof, hS]; exact lof_get r L hno
      simp only [prevT, show Nat.beq s s = true by simp, cond_true]
      rw [hg]
      exact ⟨ha, fun _ => rfl⟩
    | false =>
      rw [e] at h; simp only [cond_false] at h
      simp only [prevT, e, cond_false]
      simp only [Lof]
      cases hk : Nat.beq k0 k with
      | true =>
        simp only [cond_true]
        rw [Nat.beq_eq] at hk; subst hk
        have := lof_cur hs hS r (if S s then L.set k0 (r0 (V s)) else L) (some (s, r0)) hc' h (fun p f e hp => by
          injection e with e; injection e with e1 e2; subst e1; subst e2
          rw [hp]; simp only [if_true]
          rw [List.getElem?_set]; simp only [if_true]
          split
          · exact .inl rfl
          · exact .inr rfl)
        exact ⟨this.1, fun hn => absurd hn (prevT_some r i _)⟩
      | false =>
        simp only [cond_false]
        have hne : k0 ≠ k := fun hh => by subst hh; simp at hk
        have hL : (if S s = true then L.set k0 (r0 (V s)) else L)[k]? = L[k]? := by
          split
          · rw [List.getElem?_set_ne hne]
          · rfl
        have := lof_cur hs hS r (if S s then L.set k0 (r0 (V s)) else L) acc hc' h (fun p f e hp => by rw [hL]; exact ha p f e hp)
        rw [hL] at this
        exact this
theorem lof_pre {V : Nat → Value} {S : Nat → Bool} {i k : Nat} {r' : Value → Res} {o : Oper} {r : Res} (hs : Shut l S) (hS : S i = false) (hi : l[i]? = some o)
    (hready : ∀ e ∈ o.after.toList, Region.binds .any e = true → S e.on = true) {tch : Tch} {L : List Res} (hc : tchk l tch = true) (ht : tchAt tch i = some (k, r')) {σ : Nat → Value} (hV : V = valOf l σ)
    (hr : preRes l L tch i k σ = some r) : (Lof V S tch L)[k]? = some r ∨ (Lof V S tch L)[k]? = none := by
  obtain ⟨h1, h2⟩ := lof_cur (V := V) hs hS tch L none hc ht (fun _ _ e => by cases e)
  unfold preRes at hr
  cases hp : prevT tch i k none with
  | none => rw [hp] at hr; left; rw [h2 hp]; exact hr
  | some x =>
    obtain ⟨p, f⟩ := x
    rw [hp] at hr
    simp only at hr
    cases he : edgeTo l i p with
    | false => rw [he] at hr; cases hr
    | true =>
      rw [he] at hr; simp only [cond_true, Option.some.injEq] at hr
      have hSp : S p = true := by
        unfold edgeTo at he; rw [hi] at he
        unfold hasEdge at he
        rw [List.any_eq_true] at he
        obtain ⟨e, hem, hb⟩ := he
        simp only [Bool.and_eq_true, beq_iff_eq] at hb
        rw [← hb.2]; exact hready e hem hb.1
      have := h1 p f hp hSp
      rw [hV] at this ⊢
      rw [hr] at this; exact this
theorem length_lof {V : Nat → Value} {S : Nat → Bool} : ∀ (tch : Tch) (L : List Res), (Lof V S tch L).length = L.length
  | [], _ => rfl
  | (s, k, f) :: r, L => by
    simp only [Lof]; rw [length_lof r]; split <;> simp
theorem lof_all {V : Nat → Value} {S : Nat → Bool} : ∀ (tch : Tch) (L : List Res), (∀ x ∈ tch, S x.1 = true) → Lof V S tch L = Lfin V tch L
  | [], _, _ => rfl
  | (s, k0, r0) :: r, L, h => by
    simp only [Lof, Lfin]
    rw [h _ (.head _)]
    exact lof_all r _ (fun x hx => h x (.tail _ hx))
theorem lof_none {V : Nat → Value} {S : Nat → Bool} : ∀ (tch : Tch) (L : List Res), (∀ x ∈ tch, S x.1 = false) → Lof V S tch L = L
  | [], _, _ => rfl
  | (s, k0, r0) :: r, L, h => by
    simp only [Lof]
    rw [h _ (.head _)]
    exact lof_none r _ (fun x hx => h x (.tail _ hx))
theorem set_beyond {α : Type _} {l : List α} {k : Nat} {x : α} (h : l[k]? = none) : l.set k x = l := by
  rw [List.getElem?_eq_none_iff] at h
  exact List.set_eq_of_length_le h
theorem st_free {w : World} {m : Mem} {k : Nat} {L : List Res} (h : St G0 W mE L w m) : St G0 W mE (L.set k .free) w m := by
  cases e : L[k]? with
  | none => rw [set_beyond e]; exact h
  | some r => exact h.drop_ k e
theorem lkeep_set {i k : Nat} : ∀ (tch : Tch) (L : List Res), (Lkeep l i tch L).set k .free = Lkeep l i tch (L.set k .free)
  | [], L => rfl
  | (s, k2, _) :: r, L => by
    simp only [Lkeep]
    rw [lkeep_set r]
    congr 1
    cases (match l[s]? with | some o => hasEdge o i | none => false) with
    | true => rfl
    | false =>
      simp only [cond_false]
      by_cases hk : k2 = k
      · subst hk; rfl
      · rw [List.set_comm _ _ hk]
theorem lkeep_of {V : Nat → Value} {S : Nat → Bool} {w : World} {m : Mem} {i : Nat} : ∀ (tch : Tch) (L : List Res), (∀ x ∈ tch, (match l[x.1]? with | some o => hasEdge o i | none => false) = true → S x.1 = false) → St G0 W mE (Lof V S tch L) w m → St G0 W mE (Lkeep l i tch L) w m
  | [], L, _, h => h
  | (s, k, r') :: r, L, hS, h => by
    simp only [Lof] at h
    have h1 := lkeep_of (i := i) r _ (fun x hx => hS x (.tail _ hx)) h
    simp only [Lkeep]
    have h0 := hS (s, k, r') (.head _)
    simp only at h0
    cases he : (match l[s]? with | some o => hasEdge o i | none => false) with
    | true =>
      rw [h0 he] at h1
      simp only [cond_true]
      exact h1
    | false =>
      simp only [cond_false]
      have h2 := st_free (k := k) h1
      rw [lkeep_set] at h2
      split at h2
      · rw [List.set_set] at h2; exact h2
      · exact h2
theorem lrest_set {k : Nat} {r' : Res} : ∀ (tch : Tch) (L : List Res), (∃ x ∈ tch, x.2.1 = k) → Lrest tch (L.set k r') = Lrest tch L
  | [], _, h => by obtain ⟨x, hx, _⟩ := h; cases hx
  | (s, k0, r0) :: r, L, h => by
    simp only [Lrest]
    by_cases hk : k0 = k
    · subst hk; rw [List.set_set]
    · rw [List.set_comm _ _ (fun e => hk e.symm)]
      obtain ⟨x, hx, hxk⟩ := h
      cases hx with
      | head => exact absurd hxk hk
      | tail _ hx => exact lrest_set r _ ⟨x, hx, hxk⟩
theorem lrest_of {V : Nat → Value} {S : Nat → Bool} {w : World} {m : Mem} : ∀ (tch : Tch) (L : List Res), St G0 W mE (Lof V S tch L) w m → St G0 W mE (Lrest tch L) w m := by
  have key : ∀ (tch : Tch) (L : List Res), St G0 W mE L w m → St G0 W mE (Lrest tch L) w m := by
    intro tch
    induction tch with
    | nil => intro L h; exact h
    | cons x r ih => intro L h; exact ih _ (st_free h)
  have eq : ∀ (tch : Tch) (L : List Res) (tch' : Tch), (∀ x ∈ tch, ∃ y ∈ tch', y.2.1 = x.2.1) → Lrest tch' (Lof V S tch L) = Lrest tch' L := by
    intro tch
    induction tch with
    | nil => intro L tch' _; rfl
    | cons x r ih =>
      intro L tch' h
      obtain ⟨s, k0, r0⟩ := x
      simp only [Lof]
      rw [ih _ tch' (fun y hy => h y (.tail _ hy))]
      split
      · obtain ⟨y, hy, hk⟩ := h _ (.head _)
        exact lrest_set tch' _ ⟨y, hy, hk⟩
      · rfl
  intro tch L h
  rw [← eq tch L tch (fun x hx => ⟨x, hx, rfl⟩)]
  exact key tch _ h
theorem tchAt_mem {i k : Nat} {r' : Value → Res} : ∀ {tch : Tch}, tchAt tch i = some (k, r') → (i, k, r') ∈ tch
  | [], h => by cases h
  | (s, k0, r0) :: r, h => by
    simp only [tchAt] at h
    cases e : Nat.beq s i with
    | true => rw [e] at h; simp only [cond_true, Option.some.injEq, Prod.mk.injEq] at h; rw [Nat.beq_eq] at e; subst e; rw [h.1, h.2]; exact .head _
    | false => rw [e] at h; exact .tail _ (tchAt_mem h)
theorem tchAt_none {i : Nat} : ∀ {tch : Tch}, tchAt tch i = none → ∀ x ∈ tch, x.1 ≠ i
  | [], _, x, hx => by cases hx
  | (s, k0, r0) :: r, h, x, hx => by
    simp only [tchAt] at h
    cases e : Nat.beq s i with
    | true => rw [e] at h; cases h
    | false =>
      rw [e] at h
      cases hx with
      | head => intro hh; subst hh; simp at e
      | tail _ hx => exact tchAt_none h x hx

/-- The state of a region when just the operations of S are done. -/
structure Inv (l : List Oper) (κs : List Ke) (G0 : List Nat) (W : World) (mE m0 : Mem) (L : List Res) (tch : Tch) (a0 : Act) (S : Nat → Bool) (a : Act) (w : World) (m : Mem) : Prop where
  ctx : Ctx G0 W mE m0 (Lof (valOf l (envOf a)) S tch L) w m
  defers : a.defers = a0.defers
  size : a.tmps.size = a0.tmps.size
  same : ∀ t, (∀ j o, l[j]? = some o → o.dst = some t → S j = false) → envOf a t = envOf a0 t
  fact : ∀ j o t κ, l[j]? = some o → κs[j]? = some κ → S j = true → o.dst = some t →
    ((∀ gd, gOf l o.guard = some gd → gsat (envOf a) gd) → κ.holds (envOf a) m (envOf a t)) ∧ (∀ gd, gOf l o.guard = some gd → ¬ gsat (envOf a) gd → envOf a t = undef)
  same' : ∀ j o t, l[j]? = some o → κs[j]? = some (.same t) → S j = true → ∃ q oq, l[q]? = some oq ∧ oq.dst = some t ∧ S q = true ∧ q ≠ j
  shut : ∀ j o, l[j]? = some o → S j = true → ∀ e ∈ o.after.toList, Region.binds .any e = true → S e.on = true

theorem envOf_put {a : Act} {d t : Nat} {v : Value} (hd : d < a.tmps.size) : envOf (a.put (some d) v) t = if d = t then v else envOf a t := by
  simp only [envOf, Act.put]
  by_cases h : d = t
  · subst h; simp [hd]
  · rw [if_neg h]
    simp only [Array.getD_eq_getD_getElem?]
    rw [Array.getElem?_setIfInBounds_ne h]
theorem envOf_put_none {a : Act} {t : Nat} {v : Value} : envOf (a.put none v) t = envOf a t := rfl
theorem put_size {a : Act} {d : Option Nat} {v : Value} : (a.put d v).tmps.size = a.tmps.size := by cases d <;> simp [Act.put]
theorem put_defers {a : Act} {d : Option Nat} {v : Value} : (a.put d v).defers = a.defers := by cases d <;> simp [Act.put]
theorem yielded_bool {ops : Array Oper} {a : Act} {j d : Nat} {o : Oper} (ho : ops[j]? = some o) (hd : o.dst = some d) (b : Bool) : (yielded ops a.tmps j == some b) = true ↔ envOf a d = .bool b := by
  simp only [yielded, ho, Option.bind_some, hd, envOf, Array.getD_eq_getD_getElem?]
  cases h : a.tmps[d]? with
  | none => simp [undef]
  | some v => cases v <;> simp

theorem chk_at (h : chk l = true) {i : Nat} {o : Oper} (ho : l[i]? = some o) : chk1 l o i = true := by
  unfold chk at h
  rw [List.all_eq_true] at h
  exact h (o, i) (List.mem_zipIdx_iff_getElem?.2 ho)
theorem hasEdge_mem {o : Oper} {j : Nat} (h : hasEdge o j = true) : ∃ e ∈ o.after.toList, Region.binds .any e = true ∧ e.on = j := by
  unfold hasEdge at h
  rw [List.any_eq_true] at h
  obtain ⟨e, he, hb⟩ := h
  simp only [Bool.and_eq_true, beq_iff_eq] at hb
  exact ⟨e, he, hb⟩
structure Good (l : List Oper) (o : Oper) (i : Nat) : Prop where
  low : ∀ e ∈ o.after.toList, Region.binds .any e = true → e.on < i
  guard : ∀ j b, o.guard = some (j, b) → hasEdge o j = true ∧ ∃ oj d, l[j]? = some oj ∧ oj.dst = some d
  uses : ∀ t ∈ usesL l o, ∀ j oj, l[j]? = some oj → oj.dst = some t → j = i ∨ (j < i ∧ link l 12 o j = true) ∨ (i < j ∧ hasEdge oj i = true)
  once : ∀ j oj d, l[j]? = some oj → o.dst = some d → oj.dst = some d → j = i
theorem good_at (h : chk l = true) {i : Nat} {o : Oper} (ho : l[i]? = some o) : Good l o i := by
  have hc := chk_at h ho
  unfold chk1 at hc
  simp only [Bool.and_eq_true, List.all_eq_true] at hc
  obtain ⟨⟨⟨h1, h2⟩, h3⟩, h4⟩ := hc
  refine ⟨fun e he hb => ?_, fun j b hg => ?_, fun t ht j oj hj hd => ?_, fun j oj d hj hd hd' => ?_⟩
  · have := h1 e he; rw [hb] at this; simpa using this
  · rw [hg] at h2
    simp only [Bool.and_eq_true] at h2
    refine ⟨h2.1, ?_⟩
    have h22 := h2.2
    cases hl : l[j]? with
    | none => rw [hl] at h22; cases h22
    | some oj =>
      rw [hl] at h22
      cases hd : oj.dst with
      | none => obtain ⟨d0, op, ty, ps, af, gd⟩ := oj; simp only at hd; subst hd; cases h22
      | some d => exact ⟨oj, d, rfl, hd⟩
  · have := h3 t ht (oj, j) (List.mem_zipIdx_iff_getElem?.2 hj)
    simp only [hd, beq_self_eq_true, Bool.not_true, Bool.false_or, Bool.or_eq_true, beq_iff_eq] at this
    rcases this with this | this
    · exact .inl this
    · split at this
      · rename_i hlt; exact .inr (.inl ⟨hlt, this⟩)
      · rename_i hlt
        by_cases e : j = i
        · exact .inl e
        · exact .inr (.inr ⟨by omega, this⟩)
  · have := h4 (oj, j) (List.mem_zipIdx_iff_getElem?.2 hj)
    simp only [hd, hd', Bool.or_eq_true, beq_iff_eq, bne_iff_ne, ne_eq, not_true_eq_false, or_false, reduceCtorEq] at this
    exact this
theorem gslot_of {j d : Nat} {oj : Oper} (hj : l[j]? = some oj) (hd : oj.dst = some d) : gslot l j = d := by
  obtain ⟨d0, op, ty, ps, af, gd⟩ := oj
  simp only at hd; subst hd
  simp only [gslot, hj]
theorem chain_sat {κs : List Ke} {a0 : Act} {S : Nat → Bool} {a : Act} {w : World} {m : Mem} (hchk : chk l = true) (hκ : ∀ (j : Nat) (o : Oper), l[j]? = some o → (κs[j]?).isSome)
    (h : Inv l κs G0 W mE m0 L tch a0 S a w m) : ∀ (n : Nat) (g : Option (Nat × Bool)), (∀ j b, g = some (j, b) → S j = true ∧ (∃ oj d, l[j]? = some oj ∧ oj.dst = some d) ∧ gsat (envOf a) (gslot l j, b)) →
      ∀ gd ∈ chainL l n g, gsat (envOf a) gd
  | 0, _, _, gd, hgd => by cases hgd
  | n + 1, none, _, gd, hgd => by cases hgd
  | n + 1, some (j, b), hg, gd, hgd => by
    obtain ⟨hS, ⟨oj, d, hj, hd⟩, hs⟩ := hg j b rfl
    simp only [chainL, List.mem_cons] at hgd
    rcases hgd with rfl | hgd
    · exact hs
    · refine chain_sat hchk hκ h n _ (fun j' b' e => ?_) gd hgd
      have hgj : oj.guard = some (j', b') := by simpa [guardAt, hj] using e
      obtain ⟨he, oj', d', hj', hd'⟩ := (good_at hchk hj).guard j' b' hgj
      obtain ⟨ed, hed, hb, hon⟩ := hasEdge_mem he
      refine ⟨hon ▸ h.shut j oj hj hS ed hed hb, ⟨oj', d', hj', hd'⟩, ?_⟩
      obtain ⟨κ, hk⟩ := Option.isSome_iff_exists.1 (hκ j oj hj)
      have hf := (h.fact j oj d κ hj hk hS hd).2 (gslot l j', b') (by rw [hgj]; rfl)
      by_cases hh : gsat (envOf a) (gslot l j', b')
      · exact hh
      · have hu := hf hh
        rw [gslot_of hj hd] at hs
        unfold gsat at hs
        simp only at hs
        rw [hu] at hs
        cases hs
theorem inv_put {κs : List Ke} {a0 : Act} {S : Nat → Bool} {a : Act} {w : World} {m : Mem} {i : Nat} {o : Oper} {w' : World} {m' : Mem} {v : Value}
    (hchk : chk l = true) (hsz : ∀ (j : Nat) (o : Oper) (d : Nat), l[j]? = some o → o.dst = some d → d < a0.tmps.size)
    (h : Inv l κs G0 W mE m0 L tch a0 S a w m) (hi : l[i]? = some o) (hS : S i = false) (hready : ∀ e ∈ o.after.toList, Region.binds .any e = true → S e.on = true)
    (hle : MLe m m')
    (hctx : Ctx G0 W mE m0 (Lof (valOf l (envOf (a.put o.dst v))) (fun j => if j = i then true else S j) tch L) w' m')
    (hlink : ∀ t, κs[i]? = some (.same t) → ∃ q oq, l[q]? = some oq ∧ oq.dst = some t ∧ S q = true)
    (hfact : ∀ t κ, κs[i]? = some κ → o.dst = some t → ((∀ gd, gOf l o.guard = some gd → gsat (envOf a) gd) → κ.holds (envOf a) m' v) ∧ (∀ gd, gOf l o.guard = some gd → ¬ gsat (envOf a) gd → v = undef)) :
    Inv l κs G0 W mE m0 L tch a0 (fun j => if j = i then true else S j) (a.put o.dst v) w' m' := by
  have hgi := good_at hchk hi
  have hother : ∀ t, o.dst ≠ some t → envOf (a.put o.dst v) t = envOf a t := fun t ht => by
    cases hd : o.dst with
    | none => rfl
    | some d =>
      rw [envOf_put (by rw [h.size]; exact hsz i o d hi hd), if_neg (fun e => ht (by rw [hd, e]))]
  have hself : ∀ t, o.dst = some t → envOf (a.put o.dst v) t = v := fun t ht => by
    rw [ht, envOf_put (by rw [h.size]; exact hsz i o t hi ht), if_pos rfl]
  have hne' : ∀ q oq u, l[q]? = some oq → oq.dst = some u → S q = true → envOf (a.put o.dst v) u = envOf a u := fun q oq u hq hqd hSq =>
    hother u fun hh => by
      have := hgi.once q oq u hq hh hqd
      subst this; rw [hS] at hSq; cases hSq
  have hks : ∀ (κ : Ke) (m : Mem) (v' : Value), (∀ u, κ = .same u → envOf (a.put o.dst v) u = envOf a u) → κ.holds (envOf a) m v' → κ.holds (envOf (a.put o.dst v)) m v' := fun κ m v' hu hh => by
    cases κ with
    | val κ => exact hh
    | same u => exact hh.trans (hu u rfl).symm
  have hkm : ∀ (κ : Ke) (v' : Value), κ.holds (envOf a) m v' → κ.holds (envOf a) m' v' := fun κ v' hh => by
    cases κ with
    | val κ => exact Kn.mono hle hh
    | same u => exact hh
  have hgd : ∀ j oj, l[j]? = some oj → (j = i ∨ S j = true) → ∀ gd, gOf l oj.guard = some gd → (gsat (envOf (a.put o.dst v)) gd ↔ gsat (envOf a) gd) := by
    intro j oj hj hjS gd e
    cases hg : oj.guard with
    | none => rw [hg] at e; cases e
    | some jb =>
      obtain ⟨jg, b⟩ := jb
      rw [hg] at e; simp only [gOf, Option.some.injEq] at e; subst e
      obtain ⟨he, og, dg, hjg, hdg⟩ := (good_at hchk hj).guard jg b hg
      unfold gsat
      simp only
      rw [gslot_of hjg hdg]
      have hne : jg ≠ i := by
        rintro rfl
        obtain ⟨ed, hed, hb, hon⟩ := hasEdge_mem he
        rcases hjS with rfl | hjS
        · have := (good_at hchk hj).low ed hed hb; omega
        · have := h.shut j oj hj hjS ed hed hb; rw [hon, hS] at this; cases this
      rw [hother dg (fun hh => hne (hgi.once jg og dg hjg hh hdg))]
  refine ⟨hctx, put_defers.trans h.defers, put_size.trans h.size, fun t ht => ?_, fun j oj t κ hj hk hSj hd => ?_, fun j oj t hj hk hSj => ?_, fun j oj hj hSj e he hb => ?_⟩
  · rw [hother t (fun hh => by have := ht i o hi hh; simp at this)]
    exact h.same t fun j oj hj hd => by
      have this : (if j = i then true else S j) = false := ht j oj hj hd
      split at this
      · cases this
      · exact this
  · have hSj : (if j = i then true else S j) = true := hSj
    by_cases hji : j = i
    · subst hji
      rw [hi] at hj; injection hj with hj; subst hj
      obtain ⟨f1, f2⟩ := hfact t κ hk hd
      rw [hself t hd]
      exact ⟨fun hg => hks κ m' v (fun u hu => by subst hu; obtain ⟨q, oq, hq, hqd, hSq⟩ := hlink u hk; exact hne' q oq u hq hqd hSq) <| f1 fun gd e => (hgd j o hi (.inl rfl) gd e).1 (hg gd e), fun gd e hn => f2 gd e fun hh => hn ((hgd j o hi (.inl rfl) gd e).2 hh)⟩
    · rw [if_neg hji] at hSj
      obtain ⟨f1, f2⟩ := h.fact j oj t κ hj hk hSj hd
      rw [hother t (fun hh => hji (hgi.once j oj t hj hh hd))]
      exact ⟨fun hg => hks κ m' _ (fun u hu => by subst hu; obtain ⟨q, oq, hq, hqd, hSq, _⟩ := h.same' j oj u hj hk hSj; exact hne' q oq u hq hqd hSq) <| hkm κ _ (f1 fun gd e => (hgd j oj hj (.inr hSj) gd e).1 (hg gd e)), fun gd e hn => f2 gd e fun hh => hn ((hgd j oj hj (.inr hSj) gd e).2 hh)⟩
  · have hSj : (if j = i then true else S j) = true := hSj
    by_cases hji : j = i
    · subst hji
      obtain ⟨q, oq, hq, hqd, hSq⟩ := hlink t hk
      exact ⟨q, oq, hq, hqd, by rw [hSq]; split <;> rfl, fun e => by subst e; rw [hS] at hSq; cases hSq⟩
    · rw [if_neg hji] at hSj
      obtain ⟨q, oq, hq, hqd, hSq, hne⟩ := h.same' j oj t hj hk hSj
      exact ⟨q, oq, hq, hqd, by rw [hSq]; split <;> rfl, hne⟩
  · have hSj : (if j = i then true else S j) = true := hSj
    show (if e.on = i then true else S e.on) = true
    split
    · rfl
    · by_cases hji : j = i
      · subst hji
        rw [hi] at hj; injection hj with hj; subst hj
        exact hready e he hb
      · rw [if_neg hji] at hSj
        exact h.shut j oj hj hSj e he hb
theorem link_done {S : Nat → Bool} (hsh : ∀ (j : Nat) (o : Oper), l[j]? = some o → S j = true → ∀ e ∈ o.after.toList, Region.binds .any e = true → S e.on = true) : ∀ (n : Nat) (o : Oper) (j : Nat), (∀ e ∈ o.after.toList, Region.binds .any e = true → S e.on = true) → link l n o j = true → S j = true
  | 0, o, j, hr, h => by
    obtain ⟨ed, hed, hb, hon⟩ := hasEdge_mem h
    exact hon ▸ hr ed hed hb
  | n + 1, o, j, hr, h => by
    simp only [link, Bool.or_eq_true] at h
    rcases h with h | h
    · obtain ⟨ed, hed, hb, hon⟩ := hasEdge_mem h
      exact hon ▸ hr ed hed hb
    · cases hg : o.guard with
      | none => rw [hg] at h; cases h
      | some gb =>
        obtain ⟨g, b⟩ := gb
        rw [hg] at h
        simp only [Bool.and_eq_true] at h
        obtain ⟨h1, h2⟩ := h
        obtain ⟨ed, hed, hb, hon⟩ := hasEdge_mem h1
        have hSg : S g = true := hon ▸ hr ed hed hb
        cases hl : l[g]? with
        | none => rw [hl] at h2; cases h2
        | some og =>
          rw [hl] at h2
          exact link_done hsh n og j (hsh g og hl hSg) h2
theorem stTmp_uses {o : Oper} {t : Nat} (h : stTmp o.op = some t) : t ∈ usesL l o := by
  obtain ⟨d0, op, ty, ps, af, gd⟩ := o
  unfold stTmp at h
  simp only at h
  split at h <;> first
    | (injection h with h; subst h; refine List.mem_append_left _ ?_; simp [opTmps, tmpsOf]; done)
    | (rename_i t y; injection h with h; subst h; refine List.mem_append_left _ ?_; cases Nat.ble t y <;> simp [opTmps, tmpsOf]; done)
    | cases h
theorem slot_other {i j : Nat} {o : Oper} {S : Nat → Bool} (hchk : chk l = true) (hi : l[i]? = some o) (hsh : ∀ (j : Nat) (o : Oper), l[j]? = some o → S j = true → ∀ e ∈ o.after.toList, Region.binds .any e = true → S e.on = true) (hSi : S i = false) (hSj : S j = true) (hne : j ≠ i) :
    ∀ d, slotOf l j = some d → o.dst ≠ some d := by
  intro d hd hod
  unfold slotOf at hd
  cases hj : l[j]? with
  | none => rw [hj] at hd; cases hd
  | some oj =>
    rw [hj] at hd
    simp only at hd
    cases ht : stTmp oj.op with
    | none =>
      rw [ht] at hd
      exact hne ((good_at hchk hi).once j _ d hj hod hd)
    | some t =>
      rw [ht] at hd
      simp only at hd
      cases hany : (l.take j).any (fun x => x.dst == some t) with
      | false => rw [hany] at hd; cases hd
      | true =>
        rw [hany] at hd; simp only [cond_true, Option.some.injEq] at hd; subst hd
        rcases (good_at hchk hj).uses t (stTmp_uses ht) i o hi hod with h1 | ⟨_, h1⟩ | ⟨h1, _⟩
        · exact hne h1.symm
        · have := link_done hsh 12 oj i (hsh j oj hj hSj) h1
          rw [hSi] at this; cases this
        · rw [List.any_eq_true] at hany
          obtain ⟨x, hx, hxd⟩ := hany
          obtain ⟨p, hp, hpx⟩ := List.mem_iff_getElem.1 hx
          rw [List.length_take] at hp
          rw [List.getElem_take] at hpx
          have hlp : l[p]? = some x := by rw [List.getElem?_eq_getElem (by omega), hpx]
          have := (good_at hchk hi).once p x t hlp hod (by simpa using hxd)
          omega
theorem prevV_at {j d' : Nat} (h : prevV l j = some d') : ∃ q oj, l[j]? = some oj ∧ hasEdge oj q = true ∧ q < j ∧ slotOf l q = some d' := by
  unfold prevV at h
  cases hj : l[j]? with
  | none => rw [hj] at h; cases h
  | some oj =>
    rw [hj] at h
    simp only at h
    split at h
    · cases h
    · obtain ⟨q, hq, h2⟩ := List.exists_of_findSome?_eq_some h
      refine ⟨q, oj, rfl, ?_⟩
      split at h2
      · cases h2
      · split at h2
        · cases h2
        · cases he : hasEdge oj q with
          | false => rw [he] at h2; cases h2
          | true => rw [he] at h2; exact ⟨rfl, List.mem_range.1 hq, h2⟩
theorem val_other {a : Act} {i j : Nat} {o : Oper} {v : Value} {S : Nat → Bool} (hchk : chk l = true) (hi : l[i]? = some o) (hsz : ∀ d, o.dst = some d → d < a.tmps.size) (hsh : ∀ (j : Nat) (o : Oper), l[j]? = some o → S j = true → ∀ e ∈ o.after.toList, Region.binds .any e = true → S e.on = true) (hSi : S i = false) (hSj : S j = true) (hne : j ≠ i) :
    valOf l (envOf a) j = valOf l (envOf (a.put o.dst v)) j := by
  have same : ∀ d, o.dst ≠ some d → envOf a d = envOf (a.put o.dst v) d := fun d hd => by
    cases ho : o.dst with
    | none => rfl
    | some d' =>
      rw [envOf_put (hsz d' ho), if_neg]
      rintro rfl
      exact hd ho
  unfold valOf
  cases hs : slotOf l j with
  | none => rfl
  | some d =>
    simp only
    have h1 := same d (slot_other hchk hi hsh hSi hSj hne d hs)
    cases hp : prevV l j with
    | none => exact h1
    | some d' =>
      simp only
      obtain ⟨q, oj, hj, he, hq, hsq⟩ := prevV_at hp
      obtain ⟨ed, hed, hb, hon⟩ := hasEdge_mem he
      have hSq : S q = true := hon ▸ hsh j oj hj hSj ed hed hb
      have hqi : q ≠ i := fun e => by subst e; rw [hSi] at hSq; cases hSq
      rw [h1, same d' (slot_other hchk hi hsh hSi hSq hqi d' hsq)]
theorem val_self0 {κs : List Ke} {a : Act} {i : Nat} {o : Oper} {v : Value} (hchk : chk l = true) (hκ : ∀ (j : Nat) (o : Oper), l[j]? = some o → (κs[j]?).isSome) (hi : l[i]? = some o) (hsz : ∀ d, o.dst = some d → d < a.tmps.size) :
    (match slotOf l i with | some d => envOf (a.put o.dst v) d | none => undef) = keepP (preAt l κs i) o (envOf a) v := by
  unfold slotOf keepP
  rw [hi]
  simp only
  cases ht : stTmp o.op with
  | none =>
    simp only
    cases hd : o.dst with
    | none => rfl
    | some d => simp only [keepV]; rw [envOf_put (hsz d hd), if_pos rfl]
  | some t =>
    simp only
    cases hany : (l.take i).any (fun x => x.dst == some t) with
    | false =>
      simp only [cond_false]
      cases hf : find (preAt l κs i) t with
      | none => rfl
      | some x =>
        obtain ⟨g, κ⟩ := x
        obtain ⟨j, oj, hlt, hj, _, hd, _⟩ := find_preAt i hf
        have : (l.take i).any (fun x => x.dst == some t) = true := by
          rw [List.any_eq_true]
          exact ⟨oj, List.mem_of_getElem? (i := j) (by rw [List.getElem?_take_of_lt hlt]; exact hj), by simp [hd]⟩
        rw [hany] at this; cases this
    | true =>
      simp only [cond_true]
      rw [List.any_eq_true] at hany
      obtain ⟨x, hx, hxd⟩ := hany
      obtain ⟨p, hp, hpx⟩ := List.mem_iff_getElem.1 hx
      rw [List.length_take] at hp
      rw [List.getElem_take] at hpx
      have hlp : l[p]? = some x := by rw [List.getElem?_eq_getElem (by omega), hpx]
      have hxd : x.dst = some t := by simpa using hxd
      have hod : o.dst ≠ some t := fun e => by
        have := (good_at hchk hi).once p x t hlp e hxd
        omega
      cases hf : find (preAt l κs i) t with
      | none => exact absurd hxd (find_preAt_none i hf p x (by omega) hlp (hκ p x hlp))
      | some x =>
        simp only
        cases hd : o.dst with
        | none => rfl
        | some d => rw [envOf_put (hsz d hd), if_neg]; rintro rfl; exact hod hd
theorem val_self {κs : List Ke} {a : Act} {i : Nat} {o : Oper} {v : Value} (hchk : chk l = true) (hκ : ∀ (j : Nat) (o : Oper), l[j]? = some o → (κs[j]?).isSome) (hi : l[i]? = some o) (hsz : ∀ d, o.dst = some d → d < a.tmps.size) (hp : prevV l i = none) :
    valOf l (envOf (a.put o.dst v)) i = keepP (preAt l κs i) o (envOf a) v := by
  rw [← val_self0 hchk hκ hi hsz]
  unfold valOf
  rw [hp]
theorem val_self2 {κs : List Ke} {a : Act} {i d' : Nat} {o : Oper} {v : Value} {S : Nat → Bool} (hchk : chk l = true) (hκ : ∀ (j : Nat) (o : Oper), l[j]? = some o → (κs[j]?).isSome) (hi : l[i]? = some o) (hsz : ∀ d, o.dst = some d → d < a.tmps.size) (hp : prevV l i = some d') (hsl : (slotOf l i).isSome = true) :
    valOf l (envOf (a.put o.dst v)) i = .tuple #[keepP (preAt l κs i) o (envOf a) v, envOf a d'] := by
  have h0 := val_self0 (v := v) hchk hκ hi hsz
  unfold valOf
  rw [hp]
  obtain ⟨d, hd⟩ := Option.isSome_iff_exists.1 hsl
  rw [hd] at h0 ⊢
  simp only at h0 ⊢
  rw [h0]
  obtain ⟨q, oj, hj, he, hq, hsq⟩ := prevV_at hp
  have hdst : o.dst ≠ some d' := by
    obtain ⟨oq, hoq⟩ : ∃ oq, l[q]? = some oq := by
      cases h : l[q]? with
      | none => unfold slotOf at hsq; rw [h] at hsq; cases hsq
      | some oq => exact ⟨oq, rfl⟩
    intro hod
    have hvo : valSt o.op ≠ none := by
      intro e
      unfold prevV at hp
      rw [hi] at hp
      simp only [e] at hp
      cases hp
    -- the slot that is written before is not this one's
    unfold slotOf at hsq
    rw [hoq] at hsq
    simp only at hsq
    cases ht : stTmp oq.op with
    | none =>
      rw [ht] at hsq
      have := (good_at hchk hi).once q oq d' hoq hod hsq
      omega
    | some t =>
      rw [ht] at hsq
      simp only at hsq
      cases hany : (l.take q).any (fun x => x.dst == some t) with
      | false => rw [hany] at hsq; cases hsq
      | true =>
        rw [hany] at hsq; simp only [cond_true, Option.some.injEq] at hsq; subst hsq
        rw [List.any_eq_true] at hany
        obtain ⟨x, hx, hxd⟩ := hany
        obtain ⟨p, hp', hpx⟩ := List.mem_iff_getElem.1 hx
        rw [List.length_take] at hp'
        rw [List.getElem_take] at hpx
        have hlp : l[p]? = some x := by rw [List.getElem?_eq_getElem (by omega), hpx]
        have := (good_at hchk hi).once p x t hlp hod (by simpa using hxd)
        omega
  have h2 : envOf (a.put o.dst v) d' = envOf a d' := by
    cases ho : o.dst with
    | none => rfl
    | some d0 => rw [envOf_put (hsz d0 ho), if_neg]; rintro rfl; exact hdst ho
  rw [h2]
theorem inv_step {Q : Exit → Act → World → Prop} {κs : List Ke} {a0 : Act} {S : Nat → Bool} {a : Act} {w : World} {m : Mem} {i : Nat} {o : Oper}
    (hchk : chk l = true) (htch : tchk l tch = true) (hsz : ∀ (j : Nat) (o : Oper) (d : Nat), l[j]? = some o → o.dst = some d → d < a0.tmps.size)
    (hob : ∀ (j : Nat) (o : Oper), l[j]? = some o → ∃ κ, κs[j]? = some κ ∧ OblAt P l G0 W mE m0 L tch T j (preAt l κs j) o κ)
    (hT : ∀ t v, look T t = some v → envOf a0 t = v) 
    (h : Inv l κs G0 W mE m0 L tch a0 S a w m) (hi : l[i]? = some o) (hS : S i = false) (hready : ∀ e ∈ o.after.toList, Region.binds .any e = true → S e.on = true) :
    wpOp P l.toArray Q i (fun a' w' => ∃ m', Inv l κs G0 W mE m0 L tch a0 (fun j => if j = i then true else S j) a' w' m') a w := by
  have hgi := good_at hchk hi
  have hκ : ∀ j o, l[j]? = some o → (κs[j]?).isSome := fun j o hj => by obtain ⟨κ, hk, _⟩ := hob j o hj; rw [hk]; rfl
  have hoi : (l.toArray)[i]? = some o := by simpa using hi
  obtain ⟨κ, hk, hobl⟩ := hob i o hi
  -- what its guard says
  have hwanted : Region.wanted o (yielded l.toArray a.tmps) = true → ∀ j b, o.guard = some (j, b) → S j = true ∧ (∃ oj d, l[j]? = some oj ∧ oj.dst = some d) ∧ gsat (envOf a) (gslot l j, b) := by
    intro hw j b hg
    obtain ⟨he, oj, d, hj, hd⟩ := hgi.guard j b hg
    obtain ⟨ed, hed, hb, hon⟩ := hasEdge_mem he
    refine ⟨hon ▸ hready ed hed hb, ⟨oj, d, hj, hd⟩, ?_⟩
    simp only [Region.wanted, hg] at hw
    have := (yielded_bool (ops := l.toArray) (a := a) (by simpa using hj) hd b).1 hw
    unfold gsat
    simp only
    rw [gslot_of hj hd]; exact this
  have hunwanted : Region.wanted o (yielded l.toArray a.tmps) ≠ true → (∃ gd, gOf l o.guard = some gd) ∧ ∀ gd, gOf l o.guard = some gd → ¬ gsat (envOf a) gd := by
    intro hw
    cases hg : o.guard with
    | none => exact absurd (by simp [Region.wanted, hg]) hw
    | some jb =>
      obtain ⟨j, b⟩ := jb
      obtain ⟨he, oj, d, hj, hd⟩ := hgi.guard j b hg
      refine ⟨⟨_, rfl⟩, fun gd e => ?_⟩
      simp only [gOf, Option.some.injEq] at e; subst e
      intro hh
      unfold gsat at hh
      simp only at hh
      rw [gslot_of hj hd] at hh
      exact hw (by simp only [Region.wanted, hg]; exact (yielded_bool (ops := l.toArray) (a := a) (by simpa using hj) hd b).2 hh)
  have hknow : Region.wanted o (yielded l.toArray a.tmps) = true → Know (envOf a) m (usesL l o) (chainL l 12 o.guard) (preAt l κs i) T := by
    intro hw
    refine ⟨fun t v ht hf hl => ?_, fun t g κ' ht hf hg => ?_, chain_sat hchk hκ h 12 _ (hwanted hw)⟩
    · rw [h.same t fun j oj hj hd => ?_]
      · exact hT t v hl
      · rcases hgi.uses t ht j oj hj hd with rfl | ⟨hlt, _⟩ | ⟨hlt, he⟩
        · exact hS
        · exact absurd hd (find_preAt_none i hf j oj hlt hj (hκ j oj hj))
        · obtain ⟨ed, hed, hb, hon⟩ := hasEdge_mem he
          cases hSj : S j with
          | false => rfl
          | true => have := h.shut j oj hj hSj ed hed hb; rw [hon, hS] at this; cases this
    · obtain ⟨j, oj, hlt, hj, hkj, hd, rfl⟩ := find_preAt i hf
      rcases hgi.uses t ht j oj hj hd with rfl | ⟨_, he⟩ | ⟨hlt', _⟩
      · omega
      · exact (h.fact j oj t κ' hj hkj (link_done h.shut 12 o j hready he) hd).1 hg
      · omega
  unfold wpOp
  rw [hoi]
  show if Region.wanted o (yielded l.toArray a.tmps) = true then _ else _
  have hlink : ∀ t, κs[i]? = some (.same t) → ∃ q oq, l[q]? = some oq ∧ oq.dst = some t ∧ S q = true := fun t ht => by
    rw [hk] at ht; injection ht with ht; subst ht
    rcases hobl with ⟨_, e, _⟩ | ⟨_, _, _, _, e, _⟩ | ⟨t', e, _, hh⟩
    · cases e
    · cases e
    · injection e with e; subst e
      unfold handsOn at hh
      simp only [Bool.and_eq_true, List.any_eq_true] at hh
      obtain ⟨_, x, hx, hd, he⟩ := hh
      obtain ⟨ed, hed, hb, hon⟩ := hasEdge_mem he
      exact ⟨x.2, x.1, List.mem_zipIdx_iff_getElem?.1 hx, by simpa using hd, hon ▸ hready ed hed hb⟩
  rcases hobl with ⟨κ', rfl, ht, hO⟩ | ⟨κ', k, r, r', rfl, ht, hkl, hr, hg, hO⟩ | ⟨t0, rfl, ht, hh⟩
  · have hctx : ∀ v w' m', ExtG [] w m w' m' → Ctx G0 W mE m0 (Lof (valOf l (envOf (a.put o.dst v))) (fun j => if j = i then true else S j) tch L) w' m' := fun v w' m' hE => by
      rw [← lof_congr (V := valOf l (envOf a)) (S := S) tch L (fun x hx => ⟨by rw [if_neg (tchAt_none ht x hx)], fun hSx => val_other hchk hi (fun d hd => by rw [h.size]; exact hsz i o d hi hd) h.shut hS hSx (tchAt_none ht x hx)⟩)]
      exact ⟨h.ctx.st.keep hE, h.ctx.le.trans hE.le⟩
    split
    · rename_i hw
      refine .inl (wp_of_does (hO (envOf a) w m ?_ (hknow hw)) fun v w' ⟨m', hE, hh⟩ => ⟨m', inv_put hchk hsz h hi hS hready hE.le (hctx v w' m' hE) hlink fun t κ' hk' _ => ?_⟩)
      · unfold Lsel
        refine ⟨lkeep_of tch L (fun x hx he => ?_) h.ctx.st, h.ctx.le⟩
        cases hs : l[x.1]? with
        | none => rw [hs] at he; cases he
        | some os =>
          rw [hs] at he
          obtain ⟨ed, hed, hb, hon⟩ := hasEdge_mem he
          cases hSs : S x.1 with
          | false => rfl
          | true => have := h.shut x.1 os hs hSs ed hed hb; rw [hon, hS] at this; cases this
      · rw [hk] at hk'; injection hk' with hk'; subst hk'
        refine ⟨fun _ => hh, fun gd e hn => absurd ?_ hn⟩
        cases hg : o.guard with
        | none => rw [hg] at e; cases e
        | some jb =>
          obtain ⟨j, b⟩ := jb
          rw [hg] at e; simp only [gOf, Option.some.injEq] at e; subst e
          exact (hwanted hw j b hg).2.2
    · rename_i hw
      obtain ⟨⟨gd0, hgd0⟩, hns⟩ := hunwanted hw
      exact ⟨m, inv_put hchk hsz h hi hS hready (MLe.refl _) (hctx undef w m (ExtG.refl [] h.ctx.agree)) hlink fun t κ' _ _ =>
        ⟨fun hall => absurd (hall gd0 hgd0) (hns gd0 hgd0), fun _ _ _ => rfl⟩⟩
  · have hw : Region.wanted o (yielded l.toArray a.tmps) = true := by simp [Region.wanted, hg]
    rw [if_pos hw]
    have hsz' : ∀ d, o.dst = some d → d < a.tmps.size := fun d hd => by rw [h.size]; exact hsz i o d hi hd
    have hshut : Shut l S := fun q s he hq => by
      unfold edgeTo at he
      cases hlq : l[q]? with
      | none => rw [hlq] at he; cases he
      | some oq =>
        rw [hlq] at he
        obtain ⟨ed, hed, hb, hon⟩ := hasEdge_mem he
        rw [← hon]; exact h.shut q oq hlq hq ed hed hb
    have hst := fun v => lof_step (V := valOf l (envOf a)) (V' := valOf l (envOf (a.put o.dst v))) (S := S) hshut (fun j hj hSj => val_other hchk hi hsz' h.shut hS hSj hj) tch L htch ht hS
    have hrk : (Lof (valOf l (envOf a)) S tch L)[k]? = some (r (envOf a)) := by
      rcases lof_pre (V := valOf l (envOf a)) hshut hS hi hready htch ht rfl (hr (envOf a)) with h1 | h1
      · exact h1
      · rw [List.getElem?_eq_none_iff, length_lof] at h1; omega
    rcases hO with ⟨hp, hO⟩ | ⟨d', hp, hsl, hO⟩
    · refine .inl (wp_of_does (hO (envOf a) w m ⟨lrest_of tch L h.ctx.st, h.ctx.le⟩ (h.ctx.st.loc.at_ hrk) (hknow hw)) fun v w' ⟨m', hT', hh⟩ => ⟨m', ?_⟩)
      refine inv_put hchk hsz h hi hS hready hT'.ext.le ?_ hlink fun t κ' hk' _ => ?_
      · rw [← hst v, val_self hchk hκ hi hsz' hp]
        exact ⟨h.ctx.st.touch hrk hT', h.ctx.le.trans hT'.ext.le⟩
      · rw [hk] at hk'; injection hk' with hk'; subst hk'
        exact ⟨fun _ => hh, fun gd e hn => by rw [hg] at e; cases e⟩
    · refine .inl (wp_of_does (hO (envOf a) w m ⟨lrest_of tch L h.ctx.st, h.ctx.le⟩ (h.ctx.st.loc.at_ hrk) (hknow hw)) fun v w' ⟨m', hT', hh⟩ => ⟨m', ?_⟩)
      refine inv_put hchk hsz h hi hS hready hT'.ext.le ?_ hlink fun t κ' hk' _ => ?_
      · rw [← hst v, val_self2 (S := S) hchk hκ hi hsz' hp hsl]
        exact ⟨h.ctx.st.touch hrk hT', h.ctx.le.trans hT'.ext.le⟩
      · rw [hk] at hk'; injection hk' with hk'; subst hk'
        exact ⟨fun _ => hh, fun gd e hn => by rw [hg] at e; cases e⟩
  · have hctx : Ctx G0 W mE m0 (Lof (valOf l (envOf (a.put o.dst (envOf a t0)))) (fun j => if j = i then true else S j) tch L) w m := by
      rw [← lof_congr (V := valOf l (envOf a)) (S := S) tch L (fun x hx => ⟨by rw [if_neg (tchAt_none ht x hx)], fun hSx => val_other hchk hi (fun d hd => by rw [h.size]; exact hsz i o d hi hd) h.shut hS hSx (tchAt_none ht x hx)⟩)]
      exact ⟨h.ctx.st, h.ctx.le⟩
    have hg : o.guard = none := by
      unfold handsOn at hh; simp only [Bool.and_eq_true] at hh
      cases hg : o.guard with
      | none => rfl
      | some x => rw [hg] at hh; cases hh.1.1.2
    have hdoes : Does P o (envOf a) w fun v w' => v = envOf a t0 ∧ w' = w := by
      unfold handsOn at hh; simp only [Bool.and_eq_true] at hh
      have h1 := hh.1.1.1
      obtain ⟨d0, op, ty, ps, af, gd⟩ := o
      simp only at h1
      split at h1
      · rw [Nat.beq_eq] at h1; subst h1; exact ⟨rfl, rfl⟩
      · rw [Nat.beq_eq] at h1; subst h1; exact ⟨rfl, rfl⟩
      · cases h1
    rw [if_pos (by simp [Region.wanted, hg])]
    refine .inl (wp_of_does hdoes fun v w' hv => ⟨m, ?_⟩)
    obtain ⟨rfl, rfl⟩ := hv
    refine inv_put hchk hsz h hi hS hready (MLe.refl _) hctx hlink fun t κ' hk' _ => ?_
    rw [hk] at hk'; injection hk' with hk'; subst hk'
    exact ⟨fun _ => rfl, fun gd e hn => by rw [hg] at e; cases e⟩

def dchk (n : Nat) (l : List Oper) : Bool := l.all fun o => match o.dst with | some d => decide (d < n) | none => true

/-- A frame of which T is known. -/
structure Fr (n : Nat) (T : List (Nat × Value)) (a : Act) : Prop where
  defers : a.defers = []
  size : a.tmps.size = n
  at_ : ∀ t v, look T t = some v → envOf a t = v

/-- What is known behind a region. -/
structure FinK (n : Nat) (fin : List Ent) (T : List (Nat × Value)) (a : Act) (m : Mem) : Prop where
  defers : a.defers = []
  size : a.tmps.size = n
  old : ∀ t v, find fin t = none → look T t = some v → envOf a t = v
  ent : ∀ t g κ, find fin t = some (g, κ) → (∀ gd, g = some gd → gsat (envOf a) gd) → κ.holds (envOf a) m (envOf a t)

theorem all_ready {S : Nat → Bool} (hchk : chk l = true) (h : ∀ i o, l[i]? = some o → S i = false → ∃ e ∈ o.after.toList, Region.binds .any e = true ∧ S e.on = false) : ∀ i, i < l.length → S i = true := by
  intro i
  induction i using Nat.strongRecOn with
  | _ i ih =>
    intro hi
    cases hS : S i with
    | true => rfl
    | false =>
      have ho : l[i]? = some l[i] := List.getElem?_eq_getElem hi
      obtain ⟨e, he, hb, hn⟩ := h i _ ho hS
      have hlt := (good_at hchk ho).low e he hb
      rw [ih e.on hlt (by omega)] at hn
      cases hn

theorem countP_set : ∀ (xs : List Bool) (i n : Nat), xs[i]? = some false → xs.countP (fun b => !b) = n + 1 → (xs.set i true).countP (fun b => !b) = n
  | [], i, _, h, _ => by simp at h
  | b :: xs, 0, n, h, hc => by simp at h; subst h; simpa using hc
  | true :: xs, i + 1, n, h, hc => by
    simp at h
    have := countP_set xs i n h (by simpa using hc)
    simpa using this
  | false :: xs, i + 1, 0, h, hc => by
    simp at h hc
    exact absurd (List.mem_of_getElem? h) hc
  | false :: xs, i + 1, n + 1, h, hc => by
    simp at h
    have := countP_set xs i n h (by simpa using hc)
    simpa using this

theorem region_core_ops {Q : Exit → Act → World → Prop} {κs : List Ke} {a0 : Act} {w0 : World} {m1 : Mem}
    (hchk : chk l = true) (htch : tchk l tch = true) (hsz : ∀ (j : Nat) (o : Oper) (d : Nat), l[j]? = some o → o.dst = some d → d < a0.tmps.size)
    (hob : ∀ (j : Nat) (o : Oper), l[j]? = some o → ∃ κ, κs[j]? = some κ ∧ OblAt P l G0 W mE m0 L tch T j (preAt l κs j) o κ)
    (hT : ∀ t v, look T t = some v → envOf a0 t = v) 
    (h0 : Inv l κs G0 W mE m0 L tch a0 (fun _ => false) a0 w0 m1)
    (cont : ∀ a w m S, (∀ i, i < l.length → S i = true) → Inv l κs G0 W mE m0 L tch a0 S a w m → Q .normal a w) :
    wpOps P l.toArray Q (List.range l.toArray.size) a0 w0 := by
  have step := @inv_step P l G0 W mE m0 L tch T Q κs a0
  have key : ∀ (n k : Nat), k + n = l.length → ∀ a w m, Inv l κs G0 W mE m0 L tch a0 (fun j => decide (j < k)) a w m → wpOps P l.toArray Q (List.range' k n) a w := by
    intro n
    induction n with
    | zero =>
      intro k hk a w m h
      simp only [List.range'_zero, wpOps]
      exact cont a w m _ (fun i hi => by simp; omega) h
    | succ n ih =>
      intro k hk a w m h
      rw [List.range'_succ, wpOps_cons]
      have hk' : k < l.length := by omega
      have ho : l[k]? = some l[k] := List.getElem?_eq_getElem hk'
      have hs := step hchk htch hsz hob hT h ho (by simp) fun e he hb => by
        have := (good_at hchk ho).low e he hb; simpa using this
      refine wpOp_mono (fun a' w' ⟨m', h'⟩ => ih (k + 1) (by omega) a' w' m' ?_) hs
      · have : (fun j => if j = k then true else decide (j < k)) = fun j => decide (j < k + 1) := by
          funext j; by_cases hj : j = k
          · subst hj; simp
          · simp [hj]; omega
        rwa [this] at h'
  have := key l.length 0 (by omega) a0 w0 m1 (by
    have : (fun j => decide (j < 0)) = fun _ : Nat => false := by funext j; simp
    rw [this]; exact h0)
  rw [List.range_eq_range']
  simpa using this
theorem region_core {Q : Exit → Act → World → Prop} {κs : List Ke} {a0 : Act} {id : Nat} {draw : Bool} {w0 : World} {m1 : Mem}
    (hm : draw = true → P.follows .mixedOrders = true)
    (hchk : chk l = true) (htch : tchk l tch = true) (hsz : ∀ (j : Nat) (o : Oper) (d : Nat), l[j]? = some o → o.dst = some d → d < a0.tmps.size)
    (hob : ∀ (j : Nat) (o : Oper), l[j]? = some o → ∃ κ, κs[j]? = some κ ∧ OblAt P l G0 W mE m0 L tch T j (preAt l κs j) o κ)
    (hT : ∀ t v, look T t = some v → envOf a0 t = v) 
    (h0 : Inv l κs G0 W mE m0 L tch a0 (fun _ => false) a0 w0 m1) (h0' : Inv l κs G0 W mE m0 L tch a0 (fun _ => false) a0 { w0 with drawn := w0.drawn + 1 } m1)
    (cont : ∀ a w m S, (∀ i, i < l.length → S i = true) → Inv l κs G0 W mE m0 L tch a0 S a w m → Q .normal a w) :
    (Code.region id l.toArray draw).wp P Q a0 w0 := by
  have step := @inv_step P l G0 W mE m0 L tch T Q κs a0
  cases draw with
  | false =>
    refine wp_region ?_
    have key : ∀ (n k : Nat), k + n = l.length → ∀ a w m, Inv l κs G0 W mE m0 L tch a0 (fun j => decide (j < k)) a w m → wpOps P l.toArray Q (List.range' k n) a w := by
      intro n
      induction n with
      | zero =>
        intro k hk a w m h
        simp only [List.range'_zero, wpOps]
        exact cont a w m _ (fun i hi => by simp; omega) h
      | succ n ih =>
        intro k hk a w m h
        rw [List.range'_succ, wpOps_cons]
        have hk' : k < l.length := by omega
        have ho : l[k]? = some l[k] := List.getElem?_eq_getElem hk'
        have hs := step hchk htch hsz hob hT h ho (by simp) fun e he hb => by
          have := (good_at hchk ho).low e he hb; simpa using this
        refine wpOp_mono (fun a' w' ⟨m', h'⟩ => ih (k + 1) (by omega) a' w' m' ?_) hs
        · have : (fun j => if j = k then true else decide (j < k)) = fun j => decide (j < k + 1) := by
            funext j; by_cases hj : j = k
            · subst hj; simp
            · simp [hj]; omega
          rwa [this] at h'
    have := key l.length 0 (by omega) a0 w0 m1 (by
      have : (fun j => decide (j < 0)) = fun _ : Nat => false := by funext j; simp
      rw [this]; exact h0)
    rw [List.range_eq_range']
    simpa using this
  | true =>
    refine wp_region_any (hm rfl) ?_
    have key : ∀ (fuel : Nat) (listed : Array Bool) (a : Act) (w : World) (m : Mem), listed.size = l.length → (listed.toList.countP (fun b => !b)) = fuel →
        Inv l κs G0 W mE m0 L tch a0 (fun j => listed.getD j false) a w m → wpAny P .any l.toArray Q fuel listed a w := by
      intro fuel
      have hreadyall : ∀ (listed : Array Bool), listed.size = l.length → Region.ready .any l.toArray listed = [] → ∀ i, i < l.length → listed.getD i false = true := by
        intro listed hl hr
        refine all_ready hchk fun i o ho hS => ?_
        have hi : i < l.length := (List.getElem?_eq_some_iff.1 ho).1
        have hni : i ∉ Region.ready .any l.toArray listed := by rw [hr]; simp
        simp only [Region.ready, List.mem_filter, List.mem_range, not_and, List.size_toArray] at hni
        have h1 := hni hi
        have hS' : listed.getD i true = false := by
          simp only [Array.getD_eq_getD_getElem?] at hS ⊢
          rw [Array.getElem?_eq_getElem (by omega)] at hS ⊢; exact hS
        have hoi : (l.toArray)[i]? = some o := by simpa using ho
        simp only [hS', hoi, Bool.not_false, Bool.true_and, Option.map_some, Option.getD_some, Bool.not_eq_true] at h1
        rw [← Array.all_toList] at h1
        rw [List.all_eq_false] at h1
        obtain ⟨e, he, hb⟩ := h1
        simp only [Bool.or_eq_true, Bool.not_eq_true', not_or, Bool.not_eq_false, Bool.not_eq_true] at hb
        exact ⟨e, he, hb.1, hb.2⟩
      induction fuel with
      | zero =>
        intro listed a w m hl hc h
        have hall : ∀ i, i < l.length → listed.getD i false = true := by
          intro i hi
          rw [List.countP_eq_zero] at hc
          have := hc (listed[i]'(by omega)) (by simp)
          simp only [Array.getD_eq_getD_getElem?]
          rw [Array.getElem?_eq_getElem (by omega)]
          simpa using this
        refine ⟨?_, cont a w m _ hall h⟩
        simp only [Region.ready, List.filter_eq_nil_iff, List.mem_range, List.size_toArray]
        intro i hi
        have := hall i hi
        simp only [Array.getD_eq_getD_getElem?] at this ⊢
        rw [Array.getElem?_eq_getElem (by omega)] at this ⊢
        simp only [Option.getD_some] at this ⊢
        simp [this]
      | succ fuel ih =>
        intro listed a w m hl hc h
        refine ⟨fun hr => cont a w m _ (hreadyall listed hl hr) h, fun i hi => ?_⟩
        simp only [Region.ready, List.mem_filter, List.mem_range, List.size_toArray, Bool.and_eq_true, Bool.not_eq_true'] at hi
        obtain ⟨hil, hun, hed⟩ := hi
        have ho : l[i]? = some l[i] := List.getElem?_eq_getElem hil
        have hoi : (l.toArray)[i]? = some l[i] := by simp
        have hun' : listed[i]? = some false := by
          simp only [Array.getD_eq_getD_getElem?] at hun
          rw [Array.getElem?_eq_getElem (by omega)] at hun ⊢
          simpa using hun
        have hs := step hchk htch hsz hob hT h ho (by simp [Array.getD_eq_getD_getElem?, hun']) fun e he hb => by
          rw [hoi] at hed
          simp only [Option.map_some, Option.getD_some, ← Array.all_toList, List.all_eq_true, Bool.or_eq_true, Bool.not_eq_true'] at hed
          rcases hed e he with h1 | h1
          · rw [hb] at h1; cases h1
          · exact h1
        refine wpOp_mono (fun a' w' ⟨m', h'⟩ => ih (listed.setIfInBounds i true) a' w' m' (by simpa using hl) ?_ ?_) hs
        · have hset : (listed.setIfInBounds i true).toList = listed.toList.set i true := Array.toList_setIfInBounds ..
          rw [hset]
          exact countP_set _ i fuel (by simpa using hun') hc
        · have : (fun j => if j = i then true else listed.getD j false) = fun j => (listed.setIfInBounds i true).getD j false := by
            funext j
            simp only [Array.getD_eq_getD_getElem?, Array.getElem?_setIfInBounds]
            by_cases hj : j = i
            · subst hj; simp [hl, hil]
            · rw [if_neg hj, if_neg (fun e => hj e.symm)]
          rwa [this] at h'
    have hrep : (List.replicate l.length false).countP (fun b => !b) = l.length := by rw [List.countP_replicate]; rfl
    have := key l.length (Array.replicate l.length false) a0 { w0 with drawn := w0.drawn + 1 } m1 (by simp) (by simpa using hrep) (by
      have : (fun j => (Array.replicate l.length false).getD j false) = fun _ : Nat => false := by
        funext j; simp only [Array.getD_eq_getD_getElem?, Array.getElem?_replicate]; split <;> rfl
      rw [this]; exact h0')
    simpa using this
/-- What the resources are, by the values of the steps that changed them. -/
inductive FinL (V : Nat → Value) : Tch → List Res → List Res → Prop where
  | nil {L : List Res} : FinL V [] L L
  | cons {s k : Nat} {f : Value → Res} {r : Tch} {L L' : List Res} {v : Value} (h : V s = v) (hs : FinL V r (L.set k (f v)) L') : FinL V ((s, k, f) :: r) L L'
theorem St.fin {V : Nat → Value} {tch : Tch} {L L' : List Res} {w : World} {m : Mem} (h : St G0 W mE (Lfin V tch L) w m) (hf : FinL V tch L L') : St G0 W mE L' w m := by
  induction hf with
  | nil => exact h
  | cons hv _ ih => subst hv; exact ih h
theorem lrest_nil (L : List Res) : Lrest [] L = L := rfl
/-- A region, drawn or not: an obligation an operation. -/
theorem region_any {Q : Exit → Act → World → Prop} {n id : Nat} {draw : Bool} {a : Act} {w : World} {m : Mem} {fin : List Ent} {W : World} {mE : Mem} {G0 : List Nat} {L : List Res} {tch : Tch}
    (hm : draw = true → P.follows .mixedOrders = true) (hst : St G0 W mE L w m) (hfr : Fr n T a)
    (hchk : chk l = true) (htch : tchk l tch = true) (hd : dchk n l = true)
    (hob : Obls P l G0 W mE m L tch T 0 [] l fin)
    (cont : ∀ (a' : Act) (w' : World) (m' : Mem), St G0 W mE (Lfin (valOf l (envOf a')) tch L) w' m' → MLe m m' → FinK n fin T a' m' → Q .normal a' w') :
    (Code.region id l.toArray draw).wp P Q a w := by
  obtain ⟨κs, hlen, _, hfin, hall⟩ := obls_at hob [] rfl (fun j => by simp) rfl
  simp only [Nat.zero_add] at hlen hfin hall
  have hob' : ∀ (j : Nat) (o : Oper), l[j]? = some o → ∃ κ, κs[j]? = some κ ∧ OblAt P l G0 W mE m L tch T j (preAt l κs j) o κ :=
    fun j o ho => hall j o (by omega) ho (List.getElem?_eq_some_iff.1 ho).1
  have hlof : Lof (valOf l (envOf a)) (fun _ => false) tch L = L := lof_none tch L fun _ _ => rfl
  have hinv : ∀ w1 : World, St G0 W mE L w1 m → Inv l κs G0 W mE m L tch a (fun _ => false) a w1 m := fun w1 hst1 =>
    ⟨⟨by rw [hlof]; exact hst1, MLe.refl _⟩, rfl, rfl, (fun _ _ => rfl), fun _ _ _ _ _ _ h => (Bool.noConfusion h), fun _ _ _ _ _ h => (Bool.noConfusion h), fun _ _ _ h => (Bool.noConfusion h)⟩
  have hst' : St G0 W mE L { w with drawn := w.drawn + 1 } m := hst.keep ⟨rfl, rfl, rfl, Nat.le_refl _, fun _ _ _ => rfl, ⟨hst.agree.cell, hst.agree.map⟩, MLe.refl _, fun _ _ _ => ⟨rfl, rfl⟩⟩
  refine region_core hm hchk htch (fun j o d ho hdst => ?_) hob' hfr.at_ (hinv w hst) (hinv _ hst') fun a' w' m' S hS h => ?_
  · rw [hfr.size]
    unfold dchk at hd
    rw [List.all_eq_true] at hd
    have := hd o (List.mem_of_getElem? ho)
    rw [hdst] at this
    simpa using this
  · have htl : ∀ x ∈ tch, S x.1 = true := by
      have : ∀ tc : Tch, tchk l tc = true → ∀ x ∈ tc, x.1 < l.length := by
        intro tc
        induction tc with
        | nil => intro _ x hx; cases hx
        | cons y tc ih =>
          obtain ⟨s, k, r⟩ := y
          intro ht x hx
          obtain ⟨_, h2, h3, _⟩ := tchk_cons ht
          cases hx with
          | head => exact h3
          | tail _ hx => exact ih h2 x hx
      exact fun x hx => hS _ (this tch htch x hx)
    have hl' : Lof (valOf l (envOf a')) S tch L = Lfin (valOf l (envOf a')) tch L := lof_all tch L htl
    refine cont a' w' m' (by rw [← hl']; exact h.ctx.st) h.ctx.le ⟨h.defers.trans hfr.defers, h.size.trans hfr.size, fun t v hf hl => ?_, fun t g κ hf hg => ?_⟩
    · rw [hfin] at hf
      rw [h.same t fun j o ho hdst => ?_]
      · exact hfr.at_ t v hl
      · have hj := (List.getElem?_eq_some_iff.1 ho).1
        obtain ⟨κ, hk, _⟩ := hob' j o ho
        exact absurd hdst (find_preAt_none _ hf j o hj ho (by rw [hk]; rfl))
    · rw [hfin] at hf
      obtain ⟨j, o, hj, ho, hk, hdst, rfl⟩ := find_preAt _ hf
      exact (h.fact j o t κ ho hk (hS j hj) hdst).1 hg

theorem region_ops {Q : Exit → Act → World → Prop} {n : Nat} {a : Act} {w : World} {m : Mem} {fin : List Ent} {W : World} {mE : Mem} {G0 : List Nat} {L : List Res} {tch : Tch}
    (hst : St G0 W mE L w m) (hfr : Fr n T a)
    (hchk : chk l = true) (htch : tchk l tch = true) (hd : dchk n l = true)
    (hob : Obls P l G0 W mE m L tch T 0 [] l fin)
    (cont : ∀ (a' : Act) (w' : World) (m' : Mem), St G0 W mE (Lfin (valOf l (envOf a')) tch L) w' m' → MLe m m' → FinK n fin T a' m' → Q .normal a' w') :
    wpOps P l.toArray Q (List.range l.toArray.size) a w := by
  obtain ⟨κs, hlen, _, hfin, hall⟩ := obls_at hob [] rfl (fun j => by simp) rfl
  simp only [Nat.zero_add] at hlen hfin hall
  have hob' : ∀ (j : Nat) (o : Oper), l[j]? = some o → ∃ κ, κs[j]? = some κ ∧ OblAt P l G0 W mE m L tch T j (preAt l κs j) o κ :=
    fun j o ho => hall j o (by omega) ho (List.getElem?_eq_some_iff.1 ho).1
  have hlof : Lof (valOf l (envOf a)) (fun _ => false) tch L = L := lof_none tch L fun _ _ => rfl
  have hinv : ∀ w1 : World, St G0 W mE L w1 m → Inv l κs G0 W mE m L tch a (fun _ => false) a w1 m := fun w1 hst1 =>
    ⟨⟨by rw [hlof]; exact hst1, MLe.refl _⟩, rfl, rfl, (fun _ _ => rfl), fun _ _ _ _ _ _ h => (Bool.noConfusion h), fun _ _ _ _ _ h => (Bool.noConfusion h), fun _ _ _ h => (Bool.noConfusion h)⟩
  have hst' : St G0 W mE L { w with drawn := w.drawn + 1 } m := hst.keep ⟨rfl, rfl, rfl, Nat.le_refl _, fun _ _ _ => rfl, ⟨hst.agree.cell, hst.agree.map⟩, MLe.refl _, fun _ _ _ => ⟨rfl, rfl⟩⟩
  refine region_core_ops hchk htch (fun j o d ho hdst => ?_) hob' hfr.at_ (hinv w hst) fun a' w' m' S hS h => ?_
  · rw [hfr.size]
    unfold dchk at hd
    rw [List.all_eq_true] at hd
    have := hd o (List.mem_of_getElem? ho)
    rw [hdst] at this
    simpa using this
  · have htl : ∀ x ∈ tch, S x.1 = true := by
      have : ∀ tc : Tch, tchk l tc = true → ∀ x ∈ tc, x.1 < l.length := by
        intro tc
        induction tc with
        | nil => intro _ x hx; cases hx
        | cons y tc ih =>
          obtain ⟨s, k, r⟩ := y
          intro ht x hx
          obtain ⟨_, h2, h3, _⟩ := tchk_cons ht
          cases hx with
          | head => exact h3
          | tail _ hx => exact ih h2 x hx
      exact fun x hx => hS _ (this tch htch x hx)
    have hl' : Lof (valOf l (envOf a')) S tch L = Lfin (valOf l (envOf a')) tch L := lof_all tch L htl
    refine cont a' w' m' (by rw [← hl']; exact h.ctx.st) h.ctx.le ⟨h.defers.trans hfr.defers, h.size.trans hfr.size, fun t v hf hl => ?_, fun t g κ hf hg => ?_⟩
    · rw [hfin] at hf
      rw [h.same t fun j o ho hdst => ?_]
      · exact hfr.at_ t v hl
      · have hj := (List.getElem?_eq_some_iff.1 ho).1
        obtain ⟨κ, hk, _⟩ := hob' j o ho
        exact absurd hdst (find_preAt_none _ hf j o hj ho (by rw [hk]; rfl))
    · rw [hfin] at hf
      obtain ⟨j, o, hj, ho, hk, hdst, rfl⟩ := find_preAt _ hf
      exact (h.fact j o t κ ho hk (hS j hj) hdst).1 hg

/-- The same operations, each behind all before it: so a region that is not drawn is gone through. -/
def seqd (l : List Oper) : List Oper := l.zipIdx.map fun x => { x.1 with after := ((List.range x.2).map fun j => ⟨j, .data⟩).toArray }
theorem seqd_get (l : List Oper) (i : Nat) : (seqd l)[i]? = (l[i]?).map fun o => { o with after := ((List.range i).map fun j => ⟨j, .data⟩).toArray } := by
  unfold seqd
  rw [List.getElem?_map, List.getElem?_zipIdx]
  cases l[i]? <;> simp
theorem wpOp_seqd (l : List Oper) (Q : Exit → Act → World → Prop) (i : Nat) (K : Act → World → Prop) (a : Act) (w : World) : wpOp P (seqd l).toArray Q i K a w ↔ wpOp P l.toArray Q i K a w := by
  have hy : ∀ tmps, yielded (seqd l).toArray tmps = yielded l.toArray tmps := fun tmps => by
    funext j
    unfold yielded
    simp only [List.getElem?_toArray, seqd_get]
    cases l[j]? <;> rfl
  unfold wpOp
  simp only [List.getElem?_toArray, seqd_get, hy]
  cases l[i]? with
  | none => exact Iff.rfl
  | some o => obtain ⟨d0, op, ty, ps, af, gd⟩ := o; exact Iff.rfl
theorem wpOps_seqd (l : List Oper) (Q : Exit → Act → World → Prop) : ∀ (ks : List Nat) (a : Act) (w : World), wpOps P (seqd l).toArray Q ks a w → wpOps P l.toArray Q ks a w
  | [], _, _, h => h
  | k :: ks, a, w, h => by
    rw [wpOps_cons] at h ⊢
    exact wpOp_mono (fun a' w' h' => wpOps_seqd l Q ks a' w' h') ((wpOp_seqd l Q k _ a w).1 h)
/-- A region that is not drawn: in the order in which it stands. -/
theorem region_seq {Q : Exit → Act → World → Prop} {n id : Nat} {a : Act} {w : World} {m : Mem} {fin : List Ent} {W : World} {mE : Mem} {G0 : List Nat} {L : List Res} {tch : Tch} {l : List Oper}
    (hst : St G0 W mE L w m) (hfr : Fr n T a)
    (hchk : chk (seqd l) = true) (htch : tchk (seqd l) tch = true) (hd : dchk n (seqd l) = true)
    (hob : Obls P (seqd l) G0 W mE m L tch T 0 [] (seqd l) fin)
    (cont : ∀ (a' : Act) (w' : World) (m' : Mem), St G0 W mE (Lfin (valOf (seqd l) (envOf a')) tch L) w' m' → MLe m m' → FinK n fin T a' m' → Q .normal a' w') :
    (Code.region id l.toArray false).wp P Q a w := by
  have h := region_ops hst hfr hchk htch hd hob cont
  have hs : (seqd l).toArray.size = l.toArray.size := by simp [seqd]
  rw [hs] at h
  exact wp_region (wpOps_seqd l Q _ a w h)
inductive Keep (fin : List Ent) (T : List (Nat × Value)) : List (Nat × Value) → Prop where
  | nil : Keep fin T []
  | new {t : Nat} {v : Value} {T' : List (Nat × Value)} (h : find fin t = some (none, .val (.eq v))) (hs : Keep fin T T') : Keep fin T ((t, v) :: T')
  | old {t : Nat} {v : Value} {T' : List (Nat × Value)} (h : find fin t = none) (h' : look T t = some v) (hs : Keep fin T T') : Keep fin T ((t, v) :: T')
theorem Fr.cons {n t : Nat} {v : Value} {a : Act} (h : Fr n T a) (hv : envOf a t = v) : Fr n ((t, v) :: T) a := by
  refine ⟨h.defers, h.size, fun t' v' e => ?_⟩
  simp only [look] at e
  cases hb : Nat.beq t t' with
  | true => rw [hb] at e; simp only [cond_true, Option.some.injEq] at e; rw [Nat.beq_eq] at hb; subst hb; exact hv.trans e
  | false => rw [hb] at e; exact h.at_ t' v' e
theorem FinK.fr {n : Nat} {fin : List Ent} {T' : List (Nat × Value)} {a : Act} {m : Mem} (h : FinK n fin T a m) (hk : Keep fin T T') : Fr n T' a := by
  induction hk with
  | nil => exact ⟨h.defers, h.size, fun t v e => by cases e⟩
  | new h1 _ ih => exact ih.cons (h.ent _ _ _ h1 (fun _ e => by cases e))
  | old h1 h2 _ ih => exact ih.cons (h.old _ _ h1 h2)
theorem FinK.same {n : Nat} {fin : List Ent} {a : Act} {m : Mem} (h : FinK n fin T a m) (t : Nat) {u : Nat} {v : Value} (hf : find fin t = some (none, .same u)) (hv : envOf a u = v) : envOf a t = v :=
  (h.ent t _ _ hf (fun _ e => by cases e)).trans hv
theorem FinK.ex {n : Nat} {fin : List Ent} {a : Act} {m : Mem} (h : FinK n fin T a m) (t : Nat) {φ : MP} (hf : find fin t = some (none, .val (.ex φ))) : φ.p m (envOf a t) :=
  h.ent t _ _ hf (fun _ e => by cases e)
end proof
end Go.Proofs.Ytfphefkfbhjfdaa
