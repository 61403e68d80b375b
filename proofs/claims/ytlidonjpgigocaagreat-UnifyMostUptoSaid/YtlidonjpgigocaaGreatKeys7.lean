/-
  The variables of which something is said: the keys of a map, in order. Conditions: those of each theorem.
-/
import Derived.Test.YtlidonjpgigocaaGreatThen7
import Derived.Test.YtlidonjpgigocaaGreatShelf
namespace Go.Proofs.YtlidonjpgigocaaGreat
set_option linter.all false
set_option maxRecDepth 4000
open Go.RowKit
open Go.Shelf Go.Lib Go.Sort Go.Maps Go.WideElems Go.MapKept
theorem EntsR.fsts {κ α : Type} {R : Mem → List Value → α → Prop} {m : Mem} {es : List (κ × Value)} {l : List (κ × α)} (h : EntsR R m es l) : es.map Prod.fst = l.map Prod.fst := by
  induction h with
  | nil => rfl
  | cons h hs ih => simp only [List.map_cons, ih]
theorem insert_perm {H : Type} (x : Lit × DataW H) : ∀ l, (DataW.insert x l).Perm (x :: l)
  | [] => List.Perm.refl _
  | y :: r => by
    unfold DataW.insert; split
    · exact List.Perm.refl _
    · exact ((insert_perm x r).cons y).trans (List.Perm.swap _ _ _)
theorem foldr_perm {H : Type} : ∀ l : List (Lit × DataW H), (l.foldr DataW.insert []).Perm l
  | [] => List.Perm.refl _
  | x :: l => (insert_perm x _).trans ((foldr_perm l).cons x)
/-- A map of the snapshot, as the library's contracts have it. -/
theorem owns_of {P : Program} {k : TypeId} {α : Type} {R : Mem → List Value → α → Prop} {w : World} {m : Mem} {g : Nat} {l : List (Int × α)} (hA : Agree w m) (h : MapO KI R m (some g) l) (hn : (l.map Prod.fst).Nodup) (hi : ∀ p ∈ l, InI64 p.1)
    (hl : l.length ≤ 1000000000) (hk : P.underlying k = some (.int .i64)) :
    ∃ D : DataW Unit, w.ownsMap P k (fun _ => some (.nil, [])) g l.length D ∧ Maps.size D = l.length ∧ (intKeys D).Perm (l.map Prod.fst) := by
  obtain ⟨es, ⟨ents, clock, hmp, hents, hst⟩, hE⟩ := h.at_
  have hf := hE.fsts
  have hlen := hE.len
  have hkeys : ents.toList.map (·.key) = (l.map Prod.fst).map KI := by
    have h1 := congrArg (List.map Prod.fst) hents
    simp only [entriesOf, encs, List.map_map] at h1
    rw [← hf, List.map_map]; exact h1
  have hsz : ents.size = l.length := by
    have h1 := congrArg List.length hkeys
    simpa using h1
  have hx : ∀ x ∈ ents.toList, ∃ n, x.key = KI n ∧ keyOf P k x.key = some (.int .i64 n) := fun x hx => by
    have h1 : x.key ∈ ents.toList.map (·.key) := List.mem_map.2 ⟨x, hx, rfl⟩
    rw [hkeys] at h1
    obtain ⟨n, hn1, e1⟩ := List.mem_map.1 h1
    obtain ⟨p, hp, e2⟩ := List.mem_map.1 hn1
    refine ⟨n, e1.symm, ?_⟩
    rw [← e1]
    refine keyOf_int_mk hk ?_
    have := hi p hp
    rw [e2] at this
    simp only [Lit.wf, Bool.and_eq_true, decide_eq_true_eq]
    exact this
  have hrg : ∀ x ∈ ents.toList, ∀ n, x.key = KI n → rg (H := Unit) P k (fun _ => some (.nil, [])) x = (.int .i64 n, .nil) := fun x hx' n e => by
    obtain ⟨n', e1, e2⟩ := hx x hx'
    rw [e] at e1
    have e3 : n = n' := by simpa [KI] using e1
    subst e3
    exact rg_of (by obtain ⟨a, b, c⟩ := x; exact rd_mk (R := fun _ => some (DataW.nil, [])) (yv := (DataW.nil, [])) (by exact e2) rfl)
  refine ⟨_, ⟨ents, clock, hA.map _ _ hmp, ⟨by rw [hsz]; simp only [maxLen]; omega, ⟨hst.1, hst.2, ?_⟩, fun x hx' => ?_⟩, by omega, rfl⟩, ?_, ?_⟩
  · rw [hkeys]
    exact List.Pairwise.map KI (fun a b hab e => hab (by simpa [KI] using e)) hn
  · obtain ⟨n, e1, e2⟩ := hx x hx'
    exact ⟨_, by obtain ⟨a, b, c⟩ := x; exact rd_mk (R := fun _ => some (DataW.nil, [])) (yv := (DataW.nil, [])) (by exact e2) rfl⟩
  · rw [Maps.size_eq, (foldr_perm _).length_eq, List.length_map]; simpa using hsz
  · show (((ents.toList.map (rg (H := Unit) P k (fun _ => some (.nil, [])))).foldr DataW.insert []).map fun p => Go.intOf p.1).Perm _
    refine ((foldr_perm _).map _).trans ?_
    rw [List.map_map]
    have h2 : ents.toList.map ((fun p => Go.intOf p.1) ∘ rg (H := Unit) P k (fun _ => some (.nil, []))) = l.map Prod.fst := by
      have h3 : ents.toList.map (fun x => KI (Go.intOf (rg (H := Unit) P k (fun _ => some (.nil, [])) x).1)) = ents.toList.map (·.key) := List.map_congr_left fun x hx' => by
        obtain ⟨n, e1, _⟩ := hx x hx'
        rw [hrg x hx' n e1, e1]; rfl
      have h4 : (ents.toList.map fun x => Go.intOf (rg (H := Unit) P k (fun _ => some (.nil, [])) x).1).map KI = (l.map Prod.fst).map KI := by rw [← hkeys, ← h3, List.map_map]; rfl
      have inj : Function.Injective KI := fun a b e => by simpa [KI] using e
      exact (List.map_inj_right (fun a b e => inj e)).1 h4
    rw [h2]
def MP.keysF (f : Nat) (o : Option Nat) : MP := MP.mem (fun g : Nat => .func (.func f) #[] #[.pointer (some ⟨g, 0, none⟩)]) (fun g m => CellsAt m ⟨g, 0, none⟩ [.map o]) fun hm h => h.mono hm
def MP.keysI (l : List Int) : MP := MP.mem (fun y : List Int × Option Addr × Nat => .slice y.2.1 y.1.length y.2.2) (fun y m => Ints m y.2.1 y.1.length y.2.2 y.1 ∧ y.1.Perm l) fun hm h => ⟨h.1.mono hm, h.2⟩
theorem add_cells {w : World} {m : Mem} (hA : Agree w m) (cs : List Value) : CellsAt (m.add w.heap.size cs.toArray) ⟨w.heap.size, 0, none⟩ cs := ⟨rfl, fun i v e => by
  show (if w.heap.size = w.heap.size then cs.toArray[0 + i]? else _) = _
  rw [if_pos rfl, Nat.zero_add]; simpa using e⟩
theorem keysT_c {w : World} {m : Mem} {o : Option Nat} (hA : Agree w m) : FnV Tryz.prog 98 #[.map o] w m fun _ m v => (MP.keysF 116 o).p m v :=
  Calls.mono ((callsIn_wide (n := 5)).1 (AnyZI.keys_in Tryz.keysT Fence.wide 5 trivial rfl o w)) fun e w' ⟨e1, e2⟩ => ⟨_, m.add w.heap.size [Value.map o].toArray, e1, by subst e2; exact ext_add hA _ _, w.heap.size, rfl, add_cells hA _⟩
theorem keysR_c {w : World} {m : Mem} {o : Option Nat} (hA : Agree w m) : FnV Tryz.prog 99 #[.map o] w m fun _ m v => (MP.keysF 117 o).p m v :=
  Calls.mono ((callsIn_wide (n := 5)).1 (AnyZI.keys_in Tryz.keysR Fence.wide 5 trivial rfl o w)) fun e w' ⟨e1, e2⟩ => ⟨_, m.add w.heap.size [Value.map o].toArray, e1, by subst e2; exact ext_add hA _ _, w.heap.size, rfl, add_cells hA _⟩
theorem sortsI (m : Nat) : AnyZI.SortsIn Tryz.prog Tryz.sortedI_ren Fence.wide m :=
  ⟨fun blk off cap ss W hH hblk hsz => callsIn_wide.2 (Tryz.slices_Sort_int blk off cap ss W hH hblk hsz), fun p cap W => callsIn_wide.2 (Tryz.slices_Sort_int_none p cap W)⟩
theorem sorted_any {f : Nat} {w : World} {m : Mem} {g : Nat} {l : List Int} {N : Nat} (hA : Agree w m) (hf : ∀ args w, (callFunc f args).run Tryz.prog w = .ok (.enter f args) w) (hN : N ≤ 1000000000)
    (hs : SeqGives Fence.wide 2 Tryz.prog f #[.pointer (some ⟨g, 0, none⟩)] encZ (fun ss : List Int => ss.Perm l) N w) :
    FnV Tryz.prog 97 #[.func (.func f) #[] #[.pointer (some ⟨g, 0, none⟩)]] w m fun _ m v => (MP.keysI l).p m v := by
  have cS := AnyZI.sorted_in Tryz.sortedI Fence.wide 5 trivial trivial trivial trivial rfl (by omega) (sortsI _) Tryz.call115 f #[.pointer (some ⟨g, 0, none⟩)] trivial hf _ N (by simp only [maxLen]; omega) (by omega) w hs
  refine Calls.mono ((callsIn_wide (n := 5)).1 cS) fun e w' ⟨v, ss, e1, hS, hrow, _, hb⟩ => ?_
  have ht := mrow_of_owns hA hrow hb
  obtain ⟨m2, ht2, o', c', e2, h1, h3, h2⟩ := mrow_freeze ht.ext.agree ht.now
  subst e2
  have hl : ((ss.mergeSort fun x y => decide (x ≤ y))).length = ss.length := by simp
  refine ⟨_, m2, e1, ?_, (ss.mergeSort fun x y => decide (x ≤ y), o', c'), by show Value.slice o' ss.length c' = .slice o' (ss.mergeSort fun x y => decide (x ≤ y)).length c'; rw [hl], ?_, (List.mergeSort_perm _ _).trans hS⟩
  · exact (ht.trans ht2).ext
  · exact Ints.of_row h2 rfl (by rw [hl]; exact h1) (by simp only [maxLen] at h3; rw [hl]; omega)
theorem sortedT_c {w : World} {m : Mem} {g : Nat} {o : Option Nat} {l : List (Int × Ty)} (hA : Agree w m) (hc : CellsAt m ⟨g, 0, none⟩ [.map o]) (hM : MapO KI RTy m o l) (hn : (l.map Prod.fst).Nodup) (hi : ∀ p ∈ l, InI64 p.1) (hl : l.length ≤ 1000000000) :
    FnV Tryz.prog 97 #[.func (.func 116) #[] #[.pointer (some ⟨g, 0, none⟩)]] w m fun _ m v => (MP.keysI (l.map Prod.fst)).p m v := by
  have h1 := hA.cell _ _ _ (hc.2 0 _ rfl)
  cases o with
  | none =>
    have h0 := hM.none_nil; subst h0
    exact sorted_any (N := 0) hA Tryz.call116 (by omega) (fun l J W hW hJ hY h0 => (AnyZI.keys_gives_nil (ρ := Tryz.keysT_ren) { Tryz.keysT with } Fence.wide 2 trivial rfl g w (lt_of_cell h1) h1 l J W hW hJ hY h0).mono fun e w' ⟨a, ss, b, c⟩ => ⟨a, ss, by subst b; exact List.Perm.refl _, c⟩)
  | some b =>
    obtain ⟨D, hD, hs, hp⟩ := owns_of (k := 3) hA hM hn hi hl Tryz.underlying3
    refine sorted_any (N := l.length) hA Tryz.call116 hl (fun l' J W hW hJ hY h0 => ((hs ▸ AnyZI.keys_gives (ρ := Tryz.keysT_ren) { Tryz.keysT with } Fence.wide 2 trivial rfl (by omega) g b _ D w (lt_of_cell h1) h1 hD) l' J W hW hJ hY h0).mono fun e w' ⟨a, ss, b, c⟩ => ⟨a, ss, b.trans hp, c⟩)
theorem sortedR_c {w : World} {m : Mem} {g : Nat} {o : Option Nat} {l : List (Int × Rw)} (hA : Agree w m) (hc : CellsAt m ⟨g, 0, none⟩ [.map o]) (hM : MapO KI RRw m o l) (hn : (l.map Prod.fst).Nodup) (hi : ∀ p ∈ l, InI64 p.1) (hl : l.length ≤ 1000000000) :
    FnV Tryz.prog 97 #[.func (.func 117) #[] #[.pointer (some ⟨g, 0, none⟩)]] w m fun _ m v => (MP.keysI (l.map Prod.fst)).p m v := by
  have h1 := hA.cell _ _ _ (hc.2 0 _ rfl)
  cases o with
  | none =>
    have h0 := hM.none_nil; subst h0
    exact sorted_any (N := 0) hA Tryz.call117 (by omega) (fun l J W hW hJ hY h0 => (AnyZI.keys_gives_nil (ρ := Tryz.keysR_ren) { Tryz.keysR with } Fence.wide 2 trivial rfl g w (lt_of_cell h1) h1 l J W hW hJ hY h0).mono fun e w' ⟨a, ss, b, c⟩ => ⟨a, ss, by subst b; exact List.Perm.refl _, c⟩)
  | some b =>
    obtain ⟨D, hD, hs, hp⟩ := owns_of (k := 3) hA hM hn hi hl Tryz.underlying3
    refine sorted_any (N := l.length) hA Tryz.call117 hl (fun l' J W hW hJ hY h0 => ((hs ▸ AnyZI.keys_gives (ρ := Tryz.keysR_ren) { Tryz.keysR with } Fence.wide 2 trivial rfl (by omega) g b _ D w (lt_of_cell h1) h1 hD) l' J W hW hJ hY h0).mono fun e w' ⟨a, ss, b, c⟩ => ⟨a, ss, b.trans hp, c⟩)

end Go.Proofs.YtlidonjpgigocaaGreat
