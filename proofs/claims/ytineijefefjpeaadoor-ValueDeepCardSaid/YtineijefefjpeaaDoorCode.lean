/-
  Entry and end of a function, calls, and the plain operations on numbers, strings, pointers and slices. Conditions: those of each lemma; no program occurs here.
-/
import Derived.Test.YtineijefefjpeaaDoorOps
import Derived.Deep.LoopGhost
namespace Go.Proofs.YtineijefefjpeaaDoor
set_option linter.all false
open Go.RowKit

abbrev Str := List UInt8
@[reducible] def S (l : Str) : Value := .string ⟨l.toArray⟩
theorem string_S (s : ByteArray) : Value.string s = S s.data.toList := by
  cases s; simp [S]
theorem S_toList (l : Str) : (⟨l.toArray⟩ : ByteArray).toList = l := by rw [ByteArray.toList_eq]
theorem S_size (l : Str) : (⟨l.toArray⟩ : ByteArray).size = l.length := by simp [ByteArray.size]
theorem S_app (a b : Str) : (⟨a.toArray⟩ : ByteArray) ++ ⟨b.toArray⟩ = ⟨(a ++ b).toArray⟩ := by
  apply ByteArray.ext; simp [ByteArray.data_append]

def numbered : Nat → List Value → List (Nat × Value)
  | _, [] => []
  | i, v :: r => (i, v) :: numbered (i + 1) r
theorem look_numbered : ∀ (vs : List Value) (i t : Nat) (v : Value), look (numbered i vs) t = some v → i ≤ t ∧ vs[t - i]? = some v
  | [], _, _, _, h => by cases h
  | u :: vs, i, t, v, h => by
    simp only [numbered, look] at h
    cases e : Nat.beq i t with
    | true => rw [e] at h; rw [Nat.beq_eq] at e; subst e; simp at h; simp [h]
    | false =>
      rw [e] at h
      obtain ⟨h1, h2⟩ := look_numbered vs (i + 1) t v h
      refine ⟨by omega, ?_⟩
      have : t - i = (t - (i + 1)) + 1 := by omega
      rw [this, List.getElem?_cons_succ]; exact h2

section
variable {P : Program}

theorem st_enter {G0 : List Nat} {w : World} {m : Mem} {L : List Res} (ha : Agree w m) (hL : Loc G0 w.heap.size L w m) : St G0 w m L w m := ⟨ExtG.refl _ ha, hL⟩
theorem loc_nil (G0 : List Nat) (B0 : Nat) (w : World) (m : Mem) : Loc G0 B0 [] w m := ⟨by simp, List.nodup_nil, by simp⟩
/-- The post of a function's body. -/
abbrev Post (P : Program) (fn : Func) (G0 : List Nat) (w : World) (m : Mem) (φ : World → Mem → Value → Prop) : Exit → Act → World → Prop :=
  bodyPost P fn fun e w' => ∃ v m', e = .returned v ∧ ExtG G0 w m w' m' ∧ φ w' m' v
theorem fn_enter {f : FuncId} {fn : Func} {c : Code} {n : Nat} {vs : List Value} {G0 : List Nat} {w : World} {m : Mem} {φ : World → Mem → Value → Prop} (hf : P.funcs[f]? = some fn) (hb : fn.body = some c) (hn : fn.ntmps = n)
    (hlen : Nat.ble vs.length n = true) (h : ∀ a, Fr n (numbered 0 vs) a → c.wp P (Post P fn G0 w m φ) a w) : FnG P f vs.toArray G0 w m φ := by
  have hl : vs.length ≤ n := Nat.le_of_ble_eq_true hlen
  refine calls_of_wp hf hb (h _ ⟨rfl, by simp [hn]; omega, fun t v e => ?_⟩)
  obtain ⟨_, h2⟩ := look_numbered vs 0 t v e
  simp only [Nat.sub_zero] at h2
  have hlt : t < vs.length := (List.getElem?_eq_some_iff.1 h2).1
  simp only [envOf, Array.getD_eq_getD_getElem?]
  rw [Array.getElem?_append_left (by simpa using hlt)]
  simp [h2]

/-- What a function hands back. -/
inductive ResIs (P : Program) (w : World) (T : List (Nat × Value)) : List ResultVar → List Value → Prop where
  | nil : ResIs P w T [] []
  | tmp {t : Nat} {v : Value} {rs : List ResultVar} {vs : List Value} (h : look T t = some v) (hs : ResIs P w T rs vs) : ResIs P w T (.tmp t :: rs) (v :: vs)
  | cell {t : Nat} {ty : TypeId} {p : Addr} {v : Value} {rs : List ResultVar} {vs : List Value} (h : look T t = some (.pointer (some p))) (hv : (loadVar ty p).run P w = .ok v w) (hs : ResIs P w T rs vs) : ResIs P w T (.cell t ty :: rs) (v :: vs)
def bundle : List Value → Value
  | [v] => v
  | vs => .tuple vs.toArray
theorem mapM_res {T : List (Nat × Value)} {w : World} {F : ResultVar → Sem Value} (h1 : ∀ t v, look T t = some v → (F (.tmp t)).run P w = .ok v w)
    (h2 : ∀ t ty p v, look T t = some (.pointer (some p)) → (loadVar ty p).run P w = .ok v w → (F (.cell t ty)).run P w = .ok v w) {rs : List ResultVar} {vs : List Value} (h : ResIs P w T rs vs) :
    (rs.mapM F).run P w = .ok vs w := by
  induction h with
  | nil => simp
  | tmp h _ ih => rw [List.mapM_cons, Sem.run_bind, h1 _ _ h]; simp [ih]
  | cell h hv _ ih => rw [List.mapM_cons, Sem.run_bind, h2 _ _ _ _ h hv]; simp [ih]
theorem bundle_eq (vs : List Value) : (if h : vs.toArray.size = 1 then vs.toArray[0] else Value.tuple vs.toArray) = bundle vs := by
  match vs with
  | [] => rfl
  | [v] => rfl
  | v :: u :: r => simp [bundle]
theorem results_run {fn : Func} {T : List (Nat × Value)} {n : Nat} {a : Act} {w : World} {rs : List ResultVar} {vs : List Value} (hr : fn.results = rs.toArray) (hfr : Fr n T a) (h : ResIs P w T rs vs) :
    (results fn a.tmps).run P w = .ok (bundle vs) w := by
  unfold results
  rw [hr, Sem.run_bind, List.mapM_toArray]
  have key := fun (F : ResultVar → Sem Value) h1 h2 => mapM_res (P := P) (F := F) h1 h2 h
  rw [← bundle_eq vs]
  generalize hF : (fun x => _ : ResultVar → Sem Value) = F
  have k := key F (fun t v e => ?_) (fun t ty p v e hv => ?_)
  · simp [k]
  · have := hfr.at_ _ _ e
    simp only [envOf] at this
    rw [← hF]; simp only [this]; rfl
  · have := hfr.at_ _ _ e
    simp only [envOf] at this
    rw [← hF]; simp only [this, asAddr]; simp [hv]
theorem fn_ret {fn : Func} {G0 : List Nat} {W : World} {mE : Mem} {L : List Res} {φ : World → Mem → Value → Prop} {T : List (Nat × Value)} {n : Nat} {a : Act} {w : World} {m : Mem} {rs : List ResultVar} {vs : List Value}
    (hst : St G0 W mE L w m) (hfr : Fr n T a) (hr : fn.results = rs.toArray) (h : ResIs P w T rs vs) (hφ : φ w m (bundle vs)) : Post P fn G0 W mE φ .ret a w :=
  ⟨hfr.defers, _, results_run hr hfr h, _, m, rfl, hst.ext, hφ⟩
theorem load_blk {w : World} {g : Nat} {t e : TypeId} {cs : List Value} {fz : Nat × Nat} (h : w.heap[g]? = some (.cells cs.toArray e fz)) (ha : ∀ w, (isAgg t).run P w = .ok true w)
    (hz : ∀ w, (sizeOf t).run P w = .ok cs.length w) : (loadVar t ⟨g, 0, none⟩).run P w = .ok (.agg cs.toArray) w := by
  have hl := loadCells_run (P := P) (w := w) (a := ⟨g, 0, none⟩) (vs := cs) fun j v e => cell_blk h e
  simp [loadVar, ha, hz, hl]
theorem load_blk1 {w : World} {g : Nat} {t e : TypeId} {v : Value} {cs : List Value} {fz : Nat × Nat} (h : w.heap[g]? = some (.cells cs.toArray e fz)) (hv : cs[0]? = some v) (ha : ∀ w, (isAgg t).run P w = .ok false w) : (loadVar t ⟨g, 0, none⟩).run P w = .ok v w := by
  have hl := cell_blk h hv
  rw [addr_add0] at hl
  simp [loadVar, ha, hl]

/-- A region that changes no resource. -/
theorem region_plain {Q : Exit → Act → World → Prop} {n id : Nat} {draw : Bool} {l : List Oper} {T : List (Nat × Value)} {a : Act} {w : World} {m : Mem} {fin : List Ent} {W : World} {mE : Mem} {G0 : List Nat} {L : List Res}
    (hm : draw = true → P.follows .mixedOrders = true) (hst : St G0 W mE L w m) (hfr : Fr n T a) (hchk : chk l = true) (hd : dchk n l = true)
    (hob : Obls P l G0 W mE m L [] T 0 [] l fin)
    (cont : ∀ (a' : Act) (w' : World) (m' : Mem), St G0 W mE L w' m' → MLe m m' → FinK n fin T a' m' → Q .normal a' w') :
    (Code.region id l.toArray draw).wp P Q a w := region_any (tch := []) hm hst hfr hchk rfl hd hob cont
theorem then_ret {K : Act → World → Prop} {Q : Exit → Act → World → Prop} {a : Act} {w : World} (h : Q .ret a w) : Exit.then K Q .ret a w := h
theorem block_ret {i : Nat} {Q : Exit → Act → World → Prop} {a : Act} {w : World} (h : Q .ret a w) : Exit.inBlock i Q .ret a w := h
theorem seq_any {x y : Code} {Q : Exit → Act → World → Prop} {a : Act} {w : World} (h : ∀ K : Act → World → Prop, (∀ a w, y.wp P Q a w → K a w) → x.wp P (Exit.then K Q) a w) : (Code.seq x y).wp P Q a w := wp_seq_k h
theorem cond_any {n : Nat} {T : List (Nat × Value)} {c : Operand} {t : Nat} {x y : Code} {b : Bool} {Q : Exit → Act → World → Prop} {a : Act} {w : World} (hfr : Fr n T a) (hc : c = .tmp t) (hb : look T t = some (.bool b))
    (h1 : b = true → x.wp P Q a w) (h2 : b = false → y.wp P Q a w) : (Code.cond c x y).wp P Q a w :=
  wp_cond_split (by subst hc; exact hfr.at_ t _ hb) h1 h2

variable {K : World → Mem → Prop} {m0 : Mem} {L : List Res} {us : List Nat} {ch : List (Nat × Bool)} {pre : List Ent} {T : List (Nat × Value)}
variable {dst : Option Nat} {ty : TypeId} {pos : String} {af : Array Edge} {gd : Option (Nat × Bool)}

-- calls
inductive Evs (us : List Nat) (ch : List (Nat × Bool)) (pre : List Ent) (T : List (Nat × Value)) : List Operand → List Value → Prop where
  | nil : Evs us ch pre T [] []
  | cons {x : Operand} {v : Value} {xs : List Operand} {vs : List Value} (h : ev us ch pre T x = some v) (hs : Evs us ch pre T xs vs) : Evs us ch pre T (x :: xs) (v :: vs)
theorem Evs.map {σ : Nat → Value} {m : Mem} {xs : List Operand} {vs : List Value} (h : Evs us ch pre T xs vs) (hn : Know σ m us ch pre T) : xs.map (evalO σ) = vs := by
  induction h with
  | nil => rfl
  | cons h1 _ ih => simp [hn.ev h1, ih]
theorem call_run {σ : Nat → Value} {w : World} {m : Mem} {f : Operand} {fid : FuncId} {cap : List Value} {xs : List Operand} {vs : List Value} {ats : Array TypeId} (hn : Know σ m us ch pre T) (hf : ev us ch pre T f = some (.func (.func fid) #[] cap.toArray))
    (hxs : Evs us ch pre T xs vs) (hc : ∀ args w, (callFunc fid args).run P w = .ok (.enter fid args) w) :
    (execOp (evalO σ) ⟨dst, .call { callee := .value f, args := xs.toArray, argTypes := ats }, ty, pos, af, gd⟩).run P w = .ok (.enter fid (vs ++ cap).toArray) w := by
  simp [execOp, resolve, Deferred.ofValue, hn.ev hf, hxs.map hn, invoke, hc]
theorem ob_call {f : Operand} {fid : FuncId} {cap : List Value} {xs : List Operand} {vs : List Value} {ats : Array TypeId} {φ : MP} (hf : ev us ch pre T f = some (.func (.func fid) #[] cap.toArray))
    (hxs : Evs us ch pre T xs vs) (hc : ∀ args w, (callFunc fid args).run P w = .ok (.enter fid args) w) (h : ∀ w m, K w m → FnV P fid (vs ++ cap).toArray w m fun _ => φ.p) :
    Ob P K us ch pre T ⟨dst, .call { callee := .value f, args := xs.toArray, argTypes := ats }, ty, pos, af, gd⟩ (.ex φ) := fun σ w m hk hn => by
  unfold Does
  rw [call_run hn hf hxs hc]
  exact Calls.mono (h w m hk) fun e w' ⟨v, m', e1, hE, hv⟩ => ⟨v, e1, m', hE, hv⟩
theorem ob_callE {f : Operand} {fid : FuncId} {cap : List Value} {xs : List Operand} {vs : List Value} {ats : Array TypeId} {c : Value} (hf : ev us ch pre T f = some (.func (.func fid) #[] cap.toArray))
    (hxs : Evs us ch pre T xs vs) (hc : ∀ args w, (callFunc fid args).run P w = .ok (.enter fid args) w) (h : ∀ w m, K w m → FnV P fid (vs ++ cap).toArray w m fun _ _ v => v = c) :
    Ob P K us ch pre T ⟨dst, .call { callee := .value f, args := xs.toArray, argTypes := ats }, ty, pos, af, gd⟩ (.eq c) := fun σ w m hk hn => by
  unfold Does
  rw [call_run hn hf hxs hc]
  exact Calls.mono (h w m hk) fun e w' ⟨v, m', e1, hE, hv⟩ => ⟨v, e1, m', hE, hv⟩
theorem ob_callT {f : Operand} {fid : FuncId} {cap : List Value} {xs : List Operand} {vs : List Value} {ats : Array TypeId} {κ : Kn} {r : (Nat → Value) → Res} {r' : Value → Res} (hf : ev us ch pre T f = some (.func (.func fid) #[] cap.toArray))
    (hxs : Evs us ch pre T xs vs) (hc : ∀ args w, (callFunc fid args).run P w = .ok (.enter fid args) w)
    (h : ∀ σ w m, K w m → (r σ).holds w m → Know σ m us ch pre T → Calls P fid (vs ++ cap).toArray w fun e w' => ∃ v m', e = .returned v ∧ Touch (r σ) (r' (keepV dst v)) w m w' m' ∧ κ.holds m' v) :
    ObT P K us ch pre T r r' ⟨dst, .call { callee := .value f, args := xs.toArray, argTypes := ats }, ty, pos, af, gd⟩ κ := fun σ w m hk hr hn => by
  unfold Does
  rw [call_run hn hf hxs hc]
  exact Calls.mono (h σ w m hk hr hn) fun e w' ⟨v, m', e1, hE, hv⟩ => ⟨v, e1, m', hE, hv⟩

section img
theorem know_cons {σ : Nat → Value} {m : Mem} {t : Nat} {c : Value} (hn : Know σ m us ch pre T) (hc : σ t = c) : Know σ m us ch ((some t, none, .val (.eq c)) :: pre) T := by
  refine ⟨fun t' v ht hf hl => ?_, fun t' g κ ht hf hg => ?_, hn.gds⟩
  · simp only [find] at hf
    cases e : Nat.beq t t' with
    | true => rw [e] at hf; cases hf
    | false => rw [e] at hf; exact hn.old t' v ht hf hl
  · simp only [find] at hf
    cases e : Nat.beq t t' with
    | true =>
      rw [e] at hf; simp only [cond_true, Option.some.injEq, Prod.mk.injEq] at hf
      rw [Nat.beq_eq] at e; subst e; rw [← hf.2]; exact hc
    | false => rw [e] at hf; exact hn.ent t' g κ ht hf hg
variable {φ : MP} {g : Option (Nat × Bool)}
/-- An operand of which only 'there is y' is known; the answer does not hang on y. -/
theorem ob_imgE {o : Oper} {κ : Kn} (t : Nat) (hu : has us t = true) (hf : find pre t = some (g, .val (.ex φ))) (hg : gok ch g = true)
    (h : ∀ y, Ob P (KAnd K (φ.r y)) us ch ((some t, none, .val (.eq (φ.f y))) :: pre) T o κ) : Ob P K us ch pre T o κ := fun σ w m hk hn => by
  obtain ⟨y, e, hy⟩ : φ.p m (σ t) := hn.ent t g _ (has_mem hu) hf (hn.gd hg)
  exact h y σ w m ⟨hk, hy⟩ (know_cons hn e)
/-- .. the answer is made of y. -/
theorem ob_imgV {o : Oper} {κ : φ.α → Value} (t : Nat) (hu : has us t = true) (hf : find pre t = some (g, .val (.ex φ))) (hg : gok ch g = true)
    (h : ∀ y, Ob P (KAnd K (φ.r y)) us ch ((some t, none, .val (.eq (φ.f y))) :: pre) T o (.eq (κ y))) : Ob P K us ch pre T o (.ex ⟨φ.α, κ, φ.r, φ.mono'⟩) := fun σ w m hk hn => by
  obtain ⟨y, e, hy⟩ : φ.p m (σ t) := hn.ent t g _ (has_mem hu) hf (hn.gd hg)
  exact Does.mono (h y σ w m ⟨hk, hy⟩ (know_cons hn e)) fun v w' ⟨m', hE, hv⟩ => ⟨m', hE, y, hv, φ.mono' hE.le hy⟩
/-- .. the answer is made of y and of something more. -/
theorem ob_imgI {o : Oper} {ψ : φ.α → MP} (t : Nat) (hu : has us t = true) (hf : find pre t = some (g, .val (.ex φ))) (hg : gok ch g = true)
    (h : ∀ y, Ob P (KAnd K (φ.r y)) us ch ((some t, none, .val (.eq (φ.f y))) :: pre) T o (.ex (ψ y))) :
    Ob P K us ch pre T o (.ex ⟨(y : φ.α) × (ψ y).α, fun z => (ψ z.1).f z.2, fun z m => φ.r z.1 m ∧ (ψ z.1).r z.2 m, fun hm hz => ⟨φ.mono' hm hz.1, (ψ _).mono' hm hz.2⟩⟩) := fun σ w m hk hn => by
  obtain ⟨y, e, hy⟩ : φ.p m (σ t) := hn.ent t g _ (has_mem hu) hf (hn.gd hg)
  exact Does.mono (h y σ w m ⟨hk, hy⟩ (know_cons hn e)) fun v w' ⟨m', hE, z, hv, hz⟩ => ⟨m', hE, ⟨y, z⟩, hv, φ.mono' hE.le hy, hz⟩
/-- The same of one that changes a resource. -/
theorem ob_imgT {o : Oper} {κ : Kn} {r : (Nat → Value) → Res} {r' : Value → Res} (t : Nat) (hu : has us t = true) (hf : find pre t = some (g, .val (.ex φ))) (hg : gok ch g = true)
    (h : ∀ y, ObT P (KAnd K (φ.r y)) us ch ((some t, none, .val (.eq (φ.f y))) :: pre) T r r' o κ) : ObT P K us ch pre T r r' o κ := fun σ w m hk hr hn => by
  obtain ⟨y, e, hy⟩ : φ.p m (σ t) := hn.ent t g _ (has_mem hu) hf (hn.gd hg)
  have := h y σ w m ⟨hk, hy⟩ hr (know_cons hn e)
  simp only [keepP_cons hf] at this
  exact this
/-- .. and what it leaves in a block is made of y. -/
theorem ob_imgTX {o : Oper} {κ : Kn} {r : (Nat → Value) → Res} {v : Value → Value} {e : TypeId} {C : φ.α → List Value} (t : Nat) (hu : has us t = true) (hf : find pre t = some (g, .val (.ex φ))) (hg : gok ch g = true)
    (h : ∀ y, ObT P (KAnd K (φ.r y)) us ch ((some t, none, .val (.eq (φ.f y))) :: pre) T r (fun x => .blk (v x) (.cells (C y).toArray e)) o κ) : ObT P K us ch pre T r (fun x => .blkx (v x) e ⟨φ.α, fun y => .agg (C y).toArray, φ.r, φ.mono'⟩) o κ := fun σ w m hk hr hn => by
  obtain ⟨y, e, hy⟩ : φ.p m (σ t) := hn.ent t g _ (has_mem hu) hf (hn.gd hg)
  refine Does.mono (h y σ w m ⟨hk, hy⟩ hr (know_cons hn e)) fun v w' ⟨m', hT, hv⟩ => ?_
  rw [keepP_cons hf] at hT
  refine ⟨m', ⟨hT.ext, ?_, hT.nodup, hT.where_⟩, hv⟩
  obtain ⟨g, e, hh, hm⟩ := hT.now
  exact ⟨g, _, e, hh, hm, y, rfl, φ.mono' hT.ext.le hy⟩
end img
/-- A block of which only 'there is y' is known. -/
theorem St.unx {G0 : List Nat} {W : World} {mE : Mem} {L : List Res} {w : World} {m : Mem} {k : Nat} {v : Value} {e : TypeId} {ψ : MP} {C : ψ.α → List Value}
    (h : St G0 W mE L w m) (hk : L[k]? = some (.blkx v e ψ)) (hC : ∀ y, ψ.f y = .agg (C y).toArray) : ∃ y, ψ.r y m ∧ St G0 W mE (L.set k (.blk v (.cells (C y).toArray e))) w m := by
  obtain ⟨g, cs, rfl, hh, hm, y, hcs, hy⟩ := h.loc.at_ hk
  rw [hC] at hcs
  injection hcs with hcs; subst hcs
  refine ⟨y, hy, h.touch hk ⟨ExtG.refl _ h.agree, ⟨g, rfl, hh, hm⟩, by simp [Res.blocks, ptrBlock], fun g hg => .inl hg⟩⟩

-- numbers
def InI64 (x : Int) : Prop := -9223372036854775808 ≤ x ∧ x ≤ 9223372036854775807
theorem wrap_in {x : Int} (h : InI64 x) : IntKind.i64.wrap x = x := by
  obtain ⟨h1, h2⟩ := h
  rw [IntKind.wrap_i64]; omega
theorem ob_bin [KC K m0 L] {op : BinOp} {t yt : TypeId} {x y : Operand} {a b v : Value} (hx : ev us ch pre T x = some a) (hy : ev us ch pre T y = some b)
    (hr : ∀ w, (do eqGuard op t x y a b; binOp op t a b : Sem Value).run P w = .ok v w) : Ob P K us ch pre T ⟨dst, .binOp op t x y yt, ty, pos, af, gd⟩ (.eq v) :=
  ob_val fun σ w m _ hn => by
    have := hr w
    simp only [execOp, hn.ev hx, hn.ev hy]
    rw [Sem.run_bind, this]; rfl
theorem ob_add [KC K m0 L] {t yt : TypeId} {x y : Operand} {a b : Int} (hx : ev us ch pre T x = some (.int .i64 a)) (hy : ev us ch pre T y = some (.int .i64 b)) (h : InI64 (a + b)) :
    Ob P K us ch pre T ⟨dst, .binOp .add t x y yt, ty, pos, af, gd⟩ (.eq (.int .i64 (a + b))) := ob_bin hx hy fun w => by simp [eqGuard, binOp, Op.intArith, wrap_in h]
theorem ob_sub [KC K m0 L] {t yt : TypeId} {x y : Operand} {a b : Int} (hx : ev us ch pre T x = some (.int .i64 a)) (hy : ev us ch pre T y = some (.int .i64 b)) (h : InI64 (a - b)) :
    Ob P K us ch pre T ⟨dst, .binOp .sub t x y yt, ty, pos, af, gd⟩ (.eq (.int .i64 (a - b))) := ob_bin hx hy fun w => by simp [eqGuard, binOp, Op.intArith, wrap_in h]
theorem ob_mul [KC K m0 L] {t yt : TypeId} {x y : Operand} {a b : Int} (hx : ev us ch pre T x = some (.int .i64 a)) (hy : ev us ch pre T y = some (.int .i64 b)) (h : InI64 (a * b)) :
    Ob P K us ch pre T ⟨dst, .binOp .mul t x y yt, ty, pos, af, gd⟩ (.eq (.int .i64 (a * b))) := ob_bin hx hy fun w => by simp [eqGuard, binOp, Op.intArith, wrap_in h]
theorem ob_addW [KC K m0 L] {t yt : TypeId} {x y : Operand} {k : IntKind} {a b : Int} (hx : ev us ch pre T x = some (.int k a)) (hy : ev us ch pre T y = some (.int k b)) :
    Ob P K us ch pre T ⟨dst, .binOp .add t x y yt, ty, pos, af, gd⟩ (.eq (.int k (k.wrap (a + b)))) := ob_bin hx hy fun w => by simp [eqGuard, binOp, Op.intArith]
theorem ob_subW [KC K m0 L] {t yt : TypeId} {x y : Operand} {k : IntKind} {a b : Int} (hx : ev us ch pre T x = some (.int k a)) (hy : ev us ch pre T y = some (.int k b)) :
    Ob P K us ch pre T ⟨dst, .binOp .sub t x y yt, ty, pos, af, gd⟩ (.eq (.int k (k.wrap (a - b)))) := ob_bin hx hy fun w => by simp [eqGuard, binOp, Op.intArith]
theorem ob_mulW [KC K m0 L] {t yt : TypeId} {x y : Operand} {k : IntKind} {a b : Int} (hx : ev us ch pre T x = some (.int k a)) (hy : ev us ch pre T y = some (.int k b)) :
    Ob P K us ch pre T ⟨dst, .binOp .mul t x y yt, ty, pos, af, gd⟩ (.eq (.int k (k.wrap (a * b)))) := ob_bin hx hy fun w => by simp [eqGuard, binOp, Op.intArith]
theorem ob_quo [KC K m0 L] {t yt : TypeId} {x y : Operand} {a b : Int} (hx : ev us ch pre T x = some (.int .i64 a)) (hy : ev us ch pre T y = some (.int .i64 b)) (hb : b ≠ 0) (h : InI64 (a.tdiv b)) :
    Ob P K us ch pre T ⟨dst, .binOp .quo t x y yt, ty, pos, af, gd⟩ (.eq (.int .i64 (a.tdiv b))) := ob_bin hx hy fun w => by simp [eqGuard, binOp, Op.intDiv, wrap_in h, hb]
theorem ob_quoW [KC K m0 L] {t yt : TypeId} {x y : Operand} {k : IntKind} {a b : Int} (hx : ev us ch pre T x = some (.int k a)) (hy : ev us ch pre T y = some (.int k b)) (hb : b ≠ 0) :
    Ob P K us ch pre T ⟨dst, .binOp .quo t x y yt, ty, pos, af, gd⟩ (.eq (.int k (k.wrap (a.tdiv b)))) := ob_bin hx hy fun w => by simp [eqGuard, binOp, Op.intDiv, hb]
theorem ob_rem [KC K m0 L] {t yt : TypeId} {x y : Operand} {k : IntKind} {a b : Int} (hx : ev us ch pre T x = some (.int k a)) (hy : ev us ch pre T y = some (.int k b)) (hb : b ≠ 0) :
    Ob P K us ch pre T ⟨dst, .binOp .rem t x y yt, ty, pos, af, gd⟩ (.eq (.int k (a.tmod b))) := ob_bin hx hy fun w => by simp [eqGuard, binOp, Op.intDiv, hb]
theorem ob_eql [KC K m0 L] {t yt : TypeId} {x y : Operand} {k : IntKind} {a b : Int} (hx : ev us ch pre T x = some (.int k a)) (hy : ev us ch pre T y = some (.int k b)) :
    Ob P K us ch pre T ⟨dst, .binOp .eql t x y yt, ty, pos, af, gd⟩ (.eq (.bool (decide (a = b)))) := ob_bin hx hy fun w => by simp [eqGuard, binOp, Op.intCmp]; rfl
theorem ob_neq [KC K m0 L] {t yt : TypeId} {x y : Operand} {k : IntKind} {a b : Int} (hx : ev us ch pre T x = some (.int k a)) (hy : ev us ch pre T y = some (.int k b)) :
    Ob P K us ch pre T ⟨dst, .binOp .neq t x y yt, ty, pos, af, gd⟩ (.eq (.bool (!decide (a = b)))) := ob_bin hx hy fun w => by simp [eqGuard, binOp, Op.intCmp]; rfl
theorem ob_lss [KC K m0 L] {t yt : TypeId} {x y : Operand} {k : IntKind} {a b : Int} (hx : ev us ch pre T x = some (.int k a)) (hy : ev us ch pre T y = some (.int k b)) :
    Ob P K us ch pre T ⟨dst, .binOp .lss t x y yt, ty, pos, af, gd⟩ (.eq (.bool (decide (a < b)))) := ob_bin hx hy fun w => by simp [eqGuard, binOp, Op.intCmp]
theorem ob_leq [KC K m0 L] {t yt : TypeId} {x y : Operand} {k : IntKind} {a b : Int} (hx : ev us ch pre T x = some (.int k a)) (hy : ev us ch pre T y = some (.int k b)) :
    Ob P K us ch pre T ⟨dst, .binOp .leq t x y yt, ty, pos, af, gd⟩ (.eq (.bool (decide (a ≤ b)))) := ob_bin hx hy fun w => by simp [eqGuard, binOp, Op.intCmp]
theorem ob_gtr [KC K m0 L] {t yt : TypeId} {x y : Operand} {k : IntKind} {a b : Int} (hx : ev us ch pre T x = some (.int k a)) (hy : ev us ch pre T y = some (.int k b)) :
    Ob P K us ch pre T ⟨dst, .binOp .gtr t x y yt, ty, pos, af, gd⟩ (.eq (.bool (decide (b < a)))) := ob_bin hx hy fun w => by simp [eqGuard, binOp, Op.intCmp]
theorem ob_geq [KC K m0 L] {t yt : TypeId} {x y : Operand} {k : IntKind} {a b : Int} (hx : ev us ch pre T x = some (.int k a)) (hy : ev us ch pre T y = some (.int k b)) :
    Ob P K us ch pre T ⟨dst, .binOp .geq t x y yt, ty, pos, af, gd⟩ (.eq (.bool (decide (b ≤ a)))) := ob_bin hx hy fun w => by simp [eqGuard, binOp, Op.intCmp]
-- strings
theorem ob_sadd [KC K m0 L] {t yt : TypeId} {x y : Operand} {a b : Str} (hx : ev us ch pre T x = some (S a)) (hy : ev us ch pre T y = some (S b)) (h : a.length + b.length ≤ 9223372036854775807) :
    Ob P K us ch pre T ⟨dst, .binOp .add t x y yt, ty, pos, af, gd⟩ (.eq (S (a ++ b))) := ob_bin hx hy fun w => by
  have hn : ¬ ((((⟨a.toArray⟩ : ByteArray).size + (⟨b.toArray⟩ : ByteArray).size : Nat) : Int) > IntKind.i64.max) := by
    rw [S_size, S_size]; have : IntKind.i64.max = 9223372036854775807 := by decide
    rw [this]; omega
  simp only [eqGuard, binOp, Op.stringOp]
  rw [if_neg hn, S_app]; rfl
theorem ob_seql [KC K m0 L] {t yt : TypeId} {x y : Operand} {a b : Str} (hx : ev us ch pre T x = some (S a)) (hy : ev us ch pre T y = some (S b)) :
    Ob P K us ch pre T ⟨dst, .binOp .eql t x y yt, ty, pos, af, gd⟩ (.eq (.bool (decide (a = b)))) := ob_bin hx hy fun w => by
  simp only [eqGuard, binOp, Op.stringOp, S_toList]; rw [show (a == b) = decide (a = b) from by rw [Bool.eq_iff_iff]; simp]; rfl
theorem ob_sneq [KC K m0 L] {t yt : TypeId} {x y : Operand} {a b : Str} (hx : ev us ch pre T x = some (S a)) (hy : ev us ch pre T y = some (S b)) :
    Ob P K us ch pre T ⟨dst, .binOp .neq t x y yt, ty, pos, af, gd⟩ (.eq (.bool (!decide (a = b)))) := ob_bin hx hy fun w => by
  simp only [eqGuard, binOp, Op.stringOp, S_toList]; rw [show (a == b) = decide (a = b) from by rw [Bool.eq_iff_iff]; simp]; rfl
theorem ob_slss [KC K m0 L] {t yt : TypeId} {x y : Operand} {a b : Str} (hx : ev us ch pre T x = some (S a)) (hy : ev us ch pre T y = some (S b)) :
    Ob P K us ch pre T ⟨dst, .binOp .lss t x y yt, ty, pos, af, gd⟩ (.eq (.bool (Op.bytesLess a b))) := ob_bin hx hy fun w => by
  simp only [eqGuard, binOp, Op.stringOp, S_toList]; rfl
-- bools
theorem ob_beql [KC K m0 L] {t yt : TypeId} {x y : Operand} {a b : Bool} (hx : ev us ch pre T x = some (.bool a)) (hy : ev us ch pre T y = some (.bool b)) (ht : P.underlying t = some .bool) :
    Ob P K us ch pre T ⟨dst, .binOp .eql t x y yt, ty, pos, af, gd⟩ (.eq (.bool (a == b))) := ob_bin hx hy fun w => by
  rw [Sem.run_bind, show (eqGuard .eql t x y (.bool a) (.bool b)).run P w = .ok () w from by simp [eqGuard]]; exact run_eql_bool w t a b ht
theorem ob_bneq [KC K m0 L] {t yt : TypeId} {x y : Operand} {a b : Bool} (hx : ev us ch pre T x = some (.bool a)) (hy : ev us ch pre T y = some (.bool b)) (ht : P.underlying t = some .bool) :
    Ob P K us ch pre T ⟨dst, .binOp .neq t x y yt, ty, pos, af, gd⟩ (.eq (.bool (!(a == b)))) := ob_bin hx hy fun w => by
  rw [Sem.run_bind, show (eqGuard .neq t x y (.bool a) (.bool b)).run P w = .ok () w from by simp [eqGuard]]; exact run_neq_bool w t a b ht
theorem ob_not [KC K m0 L] {t : TypeId} {x : Operand} {a : Bool} (hx : ev us ch pre T x = some (.bool a)) : Ob P K us ch pre T ⟨dst, .unOp .not t x, ty, pos, af, gd⟩ (.eq (.bool !a)) :=
  ob_val fun σ w m _ hn => by simp only [execOp, hn.ev hx]; rfl
/-- 'a && b': b is looked at under a alone. -/
theorem ob_and [hK : KC K m0 L] {sc ta : Nat} {x y : Bool} (hc : evT us ch pre T sc = some (.bool x)) (hu : has us ta = true) (ha : find pre ta = some (some (sc, true), .val (.eq (.bool y)))) :
    Ob P K us ch pre T ⟨dst, .pick (.tmp sc) (.tmp ta) (.const (.bool false)), ty, pos, af, gd⟩ (.eq (.bool (x && y))) :=
  ob_val fun σ w m _ hn => by
    have h1 := hn.evT hc
    cases x with
    | false => simp [execOp, evalO, h1, asBool]
    | true =>
      have h2 : σ ta = .bool y := hn.ent ta _ _ (has_mem hu) ha (fun gd e => by injection e with e; subst e; exact h1)
      simp [execOp, evalO, h1, h2, asBool]
theorem ob_or [hK : KC K m0 L] {sc ta : Nat} {x y : Bool} (hc : evT us ch pre T sc = some (.bool x)) (hu : has us ta = true) (ha : find pre ta = some (some (sc, false), .val (.eq (.bool y)))) :
    Ob P K us ch pre T ⟨dst, .pick (.tmp sc) (.const (.bool true)) (.tmp ta), ty, pos, af, gd⟩ (.eq (.bool (x || y))) :=
  ob_val fun σ w m _ hn => by
    have h1 := hn.evT hc
    cases x with
    | true => simp [execOp, evalO, h1, asBool]
    | false =>
      have h2 : σ ta = .bool y := hn.ent ta _ _ (has_mem hu) ha (fun gd e => by injection e with e; subst e; exact h1)
      simp [execOp, evalO, h1, h2, asBool]
-- pointers and nil
theorem ob_pnil [KC K m0 L] {t e yt : TypeId} {x : Operand} {o : Option Addr} (hx : ev us ch pre T x = some (.pointer o)) (ht : P.underlying t = some (.pointer e)) :
    Ob P K us ch pre T ⟨dst, .binOp .eql t x (.const (.pointer none)) yt, ty, pos, af, gd⟩ (.eq (.bool o.isNone)) := ob_bin hx (y := .const (.pointer none)) rfl fun w => by
  rw [Sem.run_bind, show (eqGuard .eql t x (.const (.pointer none)) (.pointer o) (.pointer none)).run P w = .ok () w from by simp [eqGuard]]; exact run_eql_pointer_nil w t o (by simp [Program.pointee, ht])
theorem ob_pnnil [KC K m0 L] {t e yt : TypeId} {x : Operand} {o : Option Addr} (hx : ev us ch pre T x = some (.pointer o)) (ht : P.underlying t = some (.pointer e)) :
    Ob P K us ch pre T ⟨dst, .binOp .neq t x (.const (.pointer none)) yt, ty, pos, af, gd⟩ (.eq (.bool !o.isNone)) := ob_bin hx (y := .const (.pointer none)) rfl fun w => by
  rw [Sem.run_bind, show (eqGuard .neq t x (.const (.pointer none)) (.pointer o) (.pointer none)).run P w = .ok () w from by simp [eqGuard]]; exact run_neq_pointer_nil w t o (by simp [Program.pointee, ht])
-- parts of values
theorem ob_extract [KC K m0 L] {x : Operand} {i : Nat} {vs : List Value} {v : Value} (hx : ev us ch pre T x = some (.tuple vs.toArray)) (hv : vs[i]? = some v) : Ob P K us ch pre T ⟨dst, .extract x i, ty, pos, af, gd⟩ (.eq v) :=
  ob_val fun σ w m _ hn => by simp [execOp, hn.ev hx, Instr.extract, hv]
theorem ob_makeFunc [KC K m0 L] {fn : Fn} {xs : List Operand} {vs : List Value} (hxs : Evs us ch pre T xs vs) : Ob P K us ch pre T ⟨dst, .makeFunc fn #[] xs.toArray, ty, pos, af, gd⟩ (.eq (.func fn #[] vs.toArray)) :=
  ob_val fun σ w m _ hn => by simp [execOp, Instr.makeFunc, hxs.map hn]
theorem ob_field1 [KC K m0 L] {t : TypeId} {x : Operand} {i : Nat} {fs : Array Field} {f : Field} {vs : List Value} {v : Value} (hx : ev us ch pre T x = some (.agg vs.toArray)) (hs : P.underlying t = some (.struct fs)) (hf : fs[i]? = some f)
    (ha : ∀ w, (isAgg f.type).run P w = .ok false w) (hv : vs[f.offset]? = some v) : Ob P K us ch pre T ⟨dst, .field t x i, ty, pos, af, gd⟩ (.eq v) :=
  ob_val fun σ w m _ hn => by simp [execOp, hn.ev hx, Instr.field, run_underlying hs, hf, asAgg, part, ha, hv]
theorem ob_fieldS [KC K m0 L] {t : TypeId} {x : Operand} {i n : Nat} {fs : Array Field} {f : Field} {vs us' : List Value} (hx : ev us ch pre T x = some (.agg vs.toArray)) (hs : P.underlying t = some (.struct fs)) (hf : fs[i]? = some f)
    (ha : ∀ w, (isAgg f.type).run P w = .ok true w) (hz : ∀ w, (sizeOf f.type).run P w = .ok n w) (hv : (vs.drop f.offset).take n = us') : Ob P K us ch pre T ⟨dst, .field t x i, ty, pos, af, gd⟩ (.eq (.agg us'.toArray)) :=
  ob_val fun σ w m _ hn => by
    simp [execOp, hn.ev hx, Instr.field, run_underlying hs, hf, asAgg, part, ha, hz, hv]
inductive EvPs (us : List Nat) (ch : List (Nat × Bool)) (pre : List Ent) (T : List (Nat × Value)) : List (Nat × Operand) → List (Nat × Value) → Prop where
  | nil : EvPs us ch pre T [] []
  | cons {i : Nat} {x : Operand} {v : Value} {xs : List (Nat × Operand)} {vs : List (Nat × Value)} (h : ev us ch pre T x = some v) (hs : EvPs us ch pre T xs vs) : EvPs us ch pre T ((i, x) :: xs) ((i, v) :: vs)
theorem EvPs.map {σ : Nat → Value} {m : Mem} {xs : List (Nat × Operand)} {vs : List (Nat × Value)} (h : EvPs us ch pre T xs vs) (hn : Know σ m us ch pre T) : (xs.map fun x => (x.1, evalO σ x.2)) = vs := by
  induction h with
  | nil => rfl
  | cons h1 _ ih => simp [hn.ev h1, ih]
theorem ob_build [KC K m0 L] {t : TypeId} {xs : List (Nat × Operand)} {vs : List (Nat × Value)} {cs : List Value} (hxs : EvPs us ch pre T xs vs) (hr : ∀ w, (Instr.build t vs.toArray).run P w = .ok (.agg cs.toArray) w) :
    Ob P K us ch pre T ⟨dst, .build t xs.toArray, ty, pos, af, gd⟩ (.eq (.agg cs.toArray)) :=
  ob_val fun σ w m _ hn => by
    have : (xs.toArray.map fun (i, x) => (i, evalO σ x)) = vs.toArray := by rw [← hxs.map hn]; simp
    simp only [execOp, this]
    rw [Sem.run_bind, hr]; rfl
end
end Go.Proofs.YtineijefefjpeaaDoor
