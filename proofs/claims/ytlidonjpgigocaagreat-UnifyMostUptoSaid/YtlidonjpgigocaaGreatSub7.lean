/-
  Substitutions, known by what they say of each. Conditions: those of each theorem.
-/
import Derived.Test.YtlidonjpgigocaaGreatKeys7
namespace Go.Proofs.YtlidonjpgigocaaGreat
set_option linter.all false
set_option maxRecDepth 4000
open Go.RowKit
theorem foldl_apart {α : Type} (f : α → α) : ∀ (l o : List (Int × α)), (o.map Prod.fst).Nodup → ((l.foldl (fun o p => rset p.1 (f p.2) o) o).map Prod.fst).Nodup
  | [], _, h => h
  | p :: l, o, h => foldl_apart f l _ (rset_apart h)
theorem thenR_apart {a b : Sub} (h : Apart b) : Apart (thenR a b) := ⟨foldl_apart _ _ _ h.1, foldl_apart _ _ _ h.2⟩
/-- What is said, known by what it says of each. -/
def SubQ (m : Mem) (U : Sub) (vs : List Value) : Prop := ∃ u, SubR m u vs ∧ SameL u U ∧ Apart u ∧ Apart U
theorem SubQ.mono {m m' : Mem} {U : Sub} {vs : List Value} (h : SubQ m U vs) (hm : MLe m m') : SubQ m' U vs := by obtain ⟨u, h1, h2⟩ := h; exact ⟨u, h1.mono hm, h2⟩
theorem SubQ.one {m : Mem} {U : Sub} {vs : List Value} (h : SubQ m U vs) : vs.all (·.oneCell') = true := by obtain ⟨u, h1, _⟩ := h; exact h1.one
theorem SubQ.val {m : Mem} {U : Sub} {vs : List Value} (h : SubQ m U vs) : ∃ q, vs = subV q := by obtain ⟨u, ⟨o1, o2, e, _⟩, _⟩ := h; exact ⟨(o1, o2), e⟩
theorem SubQ.apart {m : Mem} {U : Sub} {vs : List Value} (h : SubQ m U vs) : Apart U := by obtain ⟨u, _, _, _, h⟩ := h; exact h
def MP.subQ (U : Sub) : MP := MP.mem (fun q : QQ => .agg (subV q).toArray) (fun q m => SubQ m U (subV q)) fun hm h => h.mono hm
theorem SameL.refl (a : Sub) : SameL a a := ⟨fun _ => rfl, fun _ => rfl⟩
theorem SameL.trans {a b c : Sub} (h : SameL a b) (k : SameL b c) : SameL a c := ⟨fun n => (h.1 n).trans (k.1 n), fun n => (h.2 n).trans (k.2 n)⟩
theorem noneU_c {w : World} {m : Mem} (hA : Agree w m) : FnV Tryz.prog 10 #[] w m fun _ m v => (MP.subQ noneS).p m v :=
  FnG.mono (none_c hA) fun _ _ _ _ ⟨q, e, h⟩ => ⟨q, e, _, h, SameL.refl _, ⟨List.nodup_nil, List.nodup_nil⟩, ⟨List.nodup_nil, List.nodup_nil⟩⟩
theorem setTypeU_c {w : World} {m : Mem} {U : Sub} {n : Int} {t : Ty} {vs vt : List Value} (hA : Agree w m) (hs : SubQ m U vs) (ht : TyR m t vt) (hb : wdT t ≤ 1000000000) :
    FnV Tryz.prog 26 #[.agg vs.toArray, .int .i64 n, .agg vt.toArray] w m fun _ m v => (MP.subQ ⟨aset n t U.ts, U.rs⟩).p m v := by
  obtain ⟨u, h1, h2, h3, h4⟩ := hs
  exact FnG.mono (setType_c (n := n) hA h1 ht (by omega)) fun _ _ _ _ ⟨q, e, h⟩ => ⟨q, e, _, h, ⟨fun k => by dsimp only; rw [alook_aset, alook_aset, h2.1], h2.2⟩, ⟨aset_apart h3.1, h3.2⟩, ⟨aset_apart h4.1, h4.2⟩⟩
theorem setRowU_c {w : World} {m : Mem} {U : Sub} {n : Int} {r : Rw} {vs vt : List Value} (hA : Agree w m) (hs : SubQ m U vs) (ht : RwR m r vt) (hb : r.labels.length ≤ 1000000000) :
    FnV Tryz.prog 24 #[.agg vs.toArray, .int .i64 n, .agg vt.toArray] w m fun _ m v => (MP.subQ ⟨U.ts, aset n r U.rs⟩).p m v := by
  obtain ⟨u, h1, h2, h3, h4⟩ := hs
  exact FnG.mono (setRow_c (n := n) hA h1 ht (by omega)) fun _ _ _ _ ⟨q, e, h⟩ => ⟨q, e, _, h, ⟨h2.1, fun k => by dsimp only; rw [alook_aset, alook_aset, h2.2]⟩, ⟨h3.1, aset_apart h3.2⟩, ⟨h4.1, aset_apart h4.2⟩⟩
theorem thenU_c {w : World} {m : Mem} {U V : Sub} {vs vt : List Value} (hA : Agree w m) (hs : SubQ m U vs) (ht : SubQ m V vt) (hu : SubW 300000000 U) (hv : SubW 300000000 V) :
    FnV Tryz.prog 85 #[.agg vs.toArray, .agg vt.toArray] w m fun _ m v => (MP.subQ (thenR U V)).p m v := by
  obtain ⟨u, h1, h2, h3, h4⟩ := hs; obtain ⟨v, k1, k2, k3, k4⟩ := ht
  exact FnG.mono (then_c hA h1 k1 h3.1 h3.2 (h2.w hu) (k2.w hv) k3) fun _ _ _ _ ⟨y, e, h, hT, hP⟩ => ⟨y.2, e, y.1, h, then_same hT (thenR_over h4) h2 k2, hP, thenR_apart k4⟩
theorem applyU_c {w : World} {m : Mem} {U : Sub} {vs vt : List Value} (t : Ty) (hA : Agree w m) (hs : SubQ m U vs) (ht : TyR m t vt) (hw : SubW 400000000 U) (hb : wdT t ≤ 400000000) :
    FnV Tryz.prog 17 #[.agg vs.toArray, .agg vt.toArray] w m fun _ m v => (MP.ty (applyT U t)).p m v := by
  obtain ⟨u, h1, h2, _⟩ := hs
  have := apply_c t hA h1 ht (h2.w hw) hb
  rw [applyT_same h2] at this; exact this
theorem applyRU_c {w : World} {m : Mem} {U : Sub} {r : Rw} {vs vt : List Value} (hA : Agree w m) (hs : SubQ m U vs) (ht : RwR m r vt) (hw : SubW 400000000 U) (hb : r.labels.length ≤ 400000000) :
    FnV Tryz.prog 21 #[.agg vs.toArray, .agg vt.toArray] w m fun _ m v => (MP.rw (applyR U r)).p m v := by
  obtain ⟨u, h1, h2, _⟩ := hs
  have := applyR_c (r := r) hA h1 ht (h2.w hw) hb
  rw [applyR_same h2] at this; exact this
theorem typeU_c {w : World} {m : Mem} {U : Sub} {n : Int} {vs : List Value} {x : Ty} {b : Bool} (hA : Agree w m) (hs : SubQ m U vs) (hx : x = (alook n U.ts).getD zeroTy) (hb : b = (alook n U.ts).isSome) (hw : SubW 400000000 U) :
    FnV Tryz.prog 83 #[.agg vs.toArray, .int .i64 n] w m fun _ m v => (MP.tyb x b).p m v := by
  obtain ⟨u, h1, h2, _⟩ := hs
  subst hx; subst hb; rw [← h2.1]; exact type_c hA h1 fun t h => Nat.le_trans ((h2.w hw).1 _ _ h) (by omega)
theorem rowU_c {w : World} {m : Mem} {U : Sub} {n : Int} {vs : List Value} {x : Rw} {b : Bool} (hA : Agree w m) (hs : SubQ m U vs) (hx : x = (alook n U.rs).getD zeroRw) (hb : b = (alook n U.rs).isSome) (hw : SubW 400000000 U) :
    FnV Tryz.prog 31 #[.agg vs.toArray, .int .i64 n] w m fun _ m v => (MP.rwb x b).p m v := by
  obtain ⟨u, h1, h2, _⟩ := hs
  subst hx; subst hb; rw [← h2.2]; exact row_c hA h1 fun t h => Nat.le_trans ((h2.w hw).2 _ _ h) (by omega)

theorem SameL.mem {a b : Sub} (h : SameL a b) (v : Int) : (v ∈ a.ts.map Prod.fst ↔ v ∈ b.ts.map Prod.fst) ∧ (v ∈ a.rs.map Prod.fst ↔ v ∈ b.rs.map Prod.fst) := by
  have h1 := alook_none (k := v) (l := a.ts); have h2 := alook_none (k := v) (l := b.ts); have h3 := alook_none (k := v) (l := a.rs); have h4 := alook_none (k := v) (l := b.rs)
  rw [h.1 v] at h1; rw [h.2 v] at h3
  exact ⟨⟨fun x => Decidable.byContradiction fun y => h1.1 (h2.2 y) x, fun x => Decidable.byContradiction fun y => h2.1 (h1.2 y) x⟩, ⟨fun x => Decidable.byContradiction fun y => h3.1 (h4.2 y) x, fun x => Decidable.byContradiction fun y => h4.1 (h3.2 y) x⟩⟩
theorem SameL.perm {a b : Sub} (h : SameL a b) (ha : Apart a) (hb : Apart b) : (a.ts.map Prod.fst).Perm (b.ts.map Prod.fst) ∧ (a.rs.map Prod.fst).Perm (b.rs.map Prod.fst) :=
  ⟨(List.perm_ext_iff_of_nodup ha.1 hb.1).2 fun v => (h.mem v).1, (List.perm_ext_iff_of_nodup ha.2 hb.2).2 fun v => (h.mem v).2⟩
def MP.keys2 (a b : List Int) : MP := MP.mem (fun y : (List Int × Option Addr × Nat) × (List Int × Option Addr × Nat) => .tuple #[.slice y.1.2.1 y.1.1.length y.1.2.2, .slice y.2.2.1 y.2.1.length y.2.2.2]) (fun y m => (Ints m y.1.2.1 y.1.1.length y.1.2.2 y.1.1 ∧ y.1.1.Perm a) ∧ (Ints m y.2.2.1 y.2.1.length y.2.2.2 y.2.1 ∧ y.2.1.Perm b)) fun hm h => ⟨⟨h.1.1.mono hm, h.1.2⟩, ⟨h.2.1.mono hm, h.2.2⟩⟩

set_option maxHeartbeats 400000 in
theorem vars7_c {w : World} {m : Mem} {s : Sub} {vs_s : List Value} (hA : Agree w m) (h_s : SubR m s vs_s) (hn : Apart s) (hi : ∀ p ∈ s.ts, InI64 p.1) (hj : ∀ p ∈ s.rs, InI64 p.1) (hl : s.ts.length ≤ 1000000000 ∧ s.rs.length ≤ 1000000000) : FnV Tryz.prog 80 #[.agg vs_s.toArray] w m (fun _ m v => (MP.keys2 (s.ts.map Prod.fst) (s.rs.map Prod.fst)).p m v) := by
  obtain ⟨oT_s, oR_s, rfl, hst_s, hsr_s⟩ := id h_s
  refine fn_enter (vs := [_]) Tryz.func80 rfl rfl rfl fun a0 hfr0 => ?_
  have hst0 := st_enter hA (loc_nil [] _ w m)
  have hM : MLe m m := MLe.refl m
  refine seq_any fun _ hK1 => ?_
  refine rp0 hst0 hfr0 (.cons rfl (ob_box rfl rfl) <| .cons rfl (ob_assign rfl) <| .cons rfl (ob_assign rfl) <| .nil) ?_
  intro a1 w1 m1 hst1 hle1 hk1
  have hfr1 := hk1.fr (T' := []) (.nil)
  obtain ⟨g2, e2, hc1⟩ := hk1.ex 1 rfl
  replace hfr1 := hfr1.cons e2
  replace hst_s := hst_s.mono hle1
  replace hsr_s := hsr_s.mono hle1
  clear hst0 hfr0 hk1
  refine hK1 _ _ ?_; clear hK1
  refine seq_any fun _ hK3 => ?_
  refine region_any (tch := []) (fun _ => mixed) hst1 hfr1 (by kernel_rfl) (by kernel_rfl) (by kernel_rfl) (.cons rfl (ob_fieldAddrO (off := 0) rfl Tryz.underlying29 rfl rfl Tryz.sizeOf25 rfl) <| .cons rfl (ob_load1 rfl hc1 Tryz.isAgg25 rfl) <| .cons rfl (ob_call (φ := MP.keysF 116 oT_s) rfl (.cons rfl <| .nil) Tryz.call98 (fun w m hK => by have hle_ := KC.le hK; have hA := KC.agree hK; exact FnG.mono (keysT_c hA) fun _ _ _ _ h => h)) <| .cons rfl (ob_imgE 6 rfl rfl rfl fun y6 => ob_call (φ := MP.keysI (s.ts.map Prod.fst)) rfl (.cons rfl <| .nil) Tryz.call97 (fun w m hK => by have hle_ := KC.le hK; have hA := KC.agree hK; have hr0_ := hK.2; have hst_s := hst_s.mono hle_; exact FnG.mono (sortedT_c hA hr0_ hst_s hn.1 hi hl.1) fun _ _ _ _ h => h)) <| .cons rfl (ob_fieldAddrO (off := 1) rfl Tryz.underlying29 rfl rfl Tryz.sizeOf27 rfl) <| .cons rfl (ob_load1 rfl hc1 Tryz.isAgg27 rfl) <| .cons rfl (ob_call (φ := MP.keysF 117 oR_s) rfl (.cons rfl <| .nil) Tryz.call99 (fun w m hK => by have hle_ := KC.le hK; have hA := KC.agree hK; exact FnG.mono (keysR_c hA) fun _ _ _ _ h => h)) <| .cons rfl (ob_imgE 10 rfl rfl rfl fun y10 => ob_call (φ := MP.keysI (s.rs.map Prod.fst)) rfl (.cons rfl <| .nil) Tryz.call97 (fun w m hK => by have hle_ := KC.le hK; have hA := KC.agree hK; have hr0_ := hK.2; have hsr_s := hsr_s.mono hle_; exact FnG.mono (sortedR_c hA hr0_ hsr_s hn.2 hj hl.2) fun _ _ _ _ h => h)) <| .consA 7 rfl rfl <| .consA 11 rfl rfl <| .nil) ?_
  intro a2 w2 m2 hst2 hle2 hk2
  have hfr2 := hk2.fr (T' := []) (.nil)
  obtain ⟨⟨k1, o1, c1⟩, e4, hI1, hp1⟩ := hk2.ex 7 rfl
  obtain ⟨⟨k2, o2, c2⟩, e5, hI2, hp2⟩ := hk2.ex 11 rfl
  replace hfr2 := hfr2.cons (hk2.same 2 rfl e4)
  replace hfr2 := hfr2.cons (hk2.same 3 rfl e5)
  clear hst1 hfr1 hk2
  refine hK3 _ _ ?_; clear hK3
  refine wp_ret ?_
  repeat (with_reducible first | refine then_ret ?_ | refine block_ret ?_)
  exact fn_ret hst2 hfr2 rfl (.tmp rfl <| .tmp rfl <| .nil) (⟨((k1, o1, c1), (k2, o2, c2)), rfl, ⟨hI1, hp1⟩, ⟨hI2, hp2⟩⟩)

theorem varsU_c {w : World} {m : Mem} {U : Sub} {vs : List Value} (hA : Agree w m) (hs : SubQ m U vs) (hi : ∀ p ∈ U.ts, InI64 p.1) (hj : ∀ p ∈ U.rs, InI64 p.1) (hl : U.ts.length ≤ 1000000000 ∧ U.rs.length ≤ 1000000000) :
    FnV Tryz.prog 80 #[.agg vs.toArray] w m fun _ m v => (MP.keys2 (U.ts.map Prod.fst) (U.rs.map Prod.fst)).p m v := by
  obtain ⟨u, h1, h2, h3, h4⟩ := hs
  obtain ⟨p1, p2⟩ := h2.perm h3 h4
  have k : ∀ {α : Type} {a b : List (Int × α)}, (a.map Prod.fst).Perm (b.map Prod.fst) → (∀ p ∈ b, InI64 p.1) → ∀ p ∈ a, InI64 p.1 := fun hp hb p hpa => by
    obtain ⟨q, hq, e⟩ := List.mem_map.1 (hp.mem_iff.1 (List.mem_map.2 ⟨p, hpa, rfl⟩)); rw [← e]; exact hb q hq
  have e1 := p1.length_eq; have e2 := p2.length_eq
  simp only [List.length_map] at e1 e2
  exact FnG.mono (vars7_c hA h1 h3 (k p1 hi) (k p2 hj) ⟨by omega, by omega⟩) fun _ _ _ _ ⟨y, e, ⟨a, b⟩, c, d⟩ => ⟨y, e, ⟨a, b.trans p1⟩, c, d.trans p2⟩

end Go.Proofs.YtlidonjpgigocaaGreat
