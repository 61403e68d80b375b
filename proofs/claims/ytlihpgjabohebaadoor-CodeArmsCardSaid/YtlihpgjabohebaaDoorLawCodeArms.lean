/-
  A law of chapter 15, walked. Conditions: those of the theorem.
-/
import Derived.Test.YtlihpgjabohebaaDoorCref4
import Derived.Test.YtlihpgjabohebaaDoorCref
namespace Go.Proofs.YtlihpgjabohebaaDoor
set_option linter.all false
set_option maxRecDepth 4000
open Go.RowKit
theorem right_kind {t : Cd} (h : rightC t = true) : 1 ≤ t.kind ∧ t.kind ≤ 15 := by
  rcases kind_cases t with hk | hk
  · omega
  · rw [rightC_eq] at h
    have : headC t = false := by
      obtain ⟨h1, h2, h3, h4, h5, h6, h7, h8, h9, h10, h11, h12, h13, h14, h15⟩ := hk
      unfold headC; simp [*]
    rw [this] at h; cases h
theorem atom_right {t : Cd} (h : rightC t = true) : atomC t = decide (t.kind ≤ 5) := by
  have := (right_kind h).1
  unfold atomC; simp [this]
theorem right_node (k : Int) (s p : Str) (l : List Cd) (az : List Ca) : rightC (nodeC k s p l az) = (headC (nodeC k s p l az) && armsOk k 0 az && l.all rightC && az.all fun a => rightC a.body) := rightC_eq _
theorem right_unit : rightC unitC = true := by decide
theorem atom_unit : atomC unitC = true := by decide
theorem cds_cells {m : Mem} {g : Nat} (l : List (Cd × List Value)) (hc : CellsAt m ⟨g, 0, none⟩ (l.map Prod.snd).flatten) (h : ∀ x ∈ l, CdR m x.1 x.2) (hb : l.length ≤ 100) : Cds m (some ⟨g, 0, none⟩) l.length l.length (l.map Prod.fst) := by
  have h1 := Sl.of_row (R := fun m vs (x : Cd × List Value) => CdR m x.1 vs) (sz := 6) (f := Prod.snd) (.inr ⟨_, rfl, by rw [List.flatMap_def]; exact hc⟩) rfl (Nat.le_refl _) (by omega) (by omega) fun x hx => ⟨(h x hx).len, h x hx⟩
  refine ⟨by simp, h1.cap, h1.big, fun i x hx => ?_⟩
  rw [List.getElem?_map] at hx
  cases e : l[i]? with
  | none => rw [e] at hx; cases hx
  | some y =>
    rw [e] at hx; simp only [Option.map_some, Option.some.injEq] at hx; subst hx
    exact h1.at_ i y e
def AllR (m : Mem) : List (Cd × List Value) → Prop
  | [] => True
  | x :: l => CdR m x.1 x.2 ∧ AllR m l
theorem allR {m : Mem} : ∀ (l : List (Cd × List Value)), AllR m l → ∀ x ∈ l, CdR m x.1 x.2
  | [], _, x, hx => by cases hx
  | y :: l, h, x, hx => by
    rcases List.mem_cons.1 hx with rfl | hx
    · exact h.1
    · exact allR l h.2 x hx
theorem node3_R {m : Mem} {k : Int} {s p : Str} {t u v : Cd} {g : Nat} {vs us ws : List Value} (hk : InI64 k) (hc : CellsAt m ⟨g, 0, none⟩ [vs, us, ws].flatten) (h : CdR m t vs) (h2 : CdR m u us) (h3 : CdR m v ws) : CdR m (nodeC k s p [t, u, v] []) (cdV (nodeC k s p [t, u, v] []) ⟨some ⟨g, 0, none⟩, 3, none, 0⟩) :=
  CdR.build hk i0 (cds_cells [(t, vs), (u, us), (v, ws)] hc (fun x hx => by simp only [List.mem_cons, List.not_mem_nil, or_false] at hx; rcases hx with rfl | rfl | rfl <;> assumption) (Nat.le_of_ble_eq_true rfl)) Sl.empty
def names5 : List Str := [[97], [98], [99], [100], [101]]
theorem pick6 (a : Int) : ∃ l : List Str, (band a 65535).tmod 6 = (l.length : Int) ∧ names5.take l.length = l ∧ l.length ≤ 5 := by
  have hb : 0 ≤ band a 65535 ∧ band a 65535 ≤ 65535 := band_le a 65535 (by omega)
  have e := Int.tmod_eq_emod_of_nonneg (a := band a 65535) (b := 6) hb.1
  have h0 := Int.emod_nonneg (band a 65535) (show (6 : Int) ≠ 0 by omega)
  have h1 := Int.emod_lt_of_pos (band a 65535) (show (0 : Int) < 6 by omega)
  have hl : (names5.take ((band a 65535) % 6).toNat).length = ((band a 65535) % 6).toNat := by rw [List.length_take]; show min _ 5 = _; omega
  refine ⟨names5.take ((band a 65535) % 6).toNat, by rw [e, hl]; omega, by rw [hl], by rw [hl]; omega⟩
theorem pick3 (a : Int) : ∃ k : Nat, band a 3 = (k : Int) ∧ k ≤ 3 := by
  have hb : 0 ≤ band a 3 ∧ band a 3 ≤ 3 := band_le a 3 (by omega)
  exact ⟨(band a 3).toNat, by omega, by omega⟩
theorem pick_ok {l : List Str} (h : names5.take l.length = l) : nameOk l = true := by
  rw [← h]
  unfold nameOk
  rw [Bool.not_eq_true', decide_eq_false_iff_not]
  intro hm
  exact absurd (List.mem_of_mem_take hm) (by decide)
def retS : Str := [114, 101, 116, 117, 114, 110]
def armN (n : Str) (l : List Str) (tl : Bool) : Ca := ⟨n, l, tl, unitC⟩
def promptN (l k : List Str) (tl : Bool) : Cd := nodeC 15 [69] [] [unitC] [armN retS l false, armN [103, 101, 116] k tl]
def aloneN (l : List Str) : Cd := nodeC 15 [69] [] [unitC] [armN retS l false]
def armsN (k : List Str) (tl : Bool) (c : Nat) : List Ca := (List.range c).map fun (i : Nat) => armN [67] k (tl && decide ((i : Int) = 0))
def matchN (az : List Ca) : Cd := nodeC 13 [] [] [unitC] az
theorem armsN_succ (k : List Str) (tl : Bool) (c : Nat) : armsN k tl (c + 1) = armsN k tl c ++ [armN [67] k (tl && decide ((c : Int) = 0))] := by unfold armsN; rw [List.range_succ, List.map_append]; rfl
theorem right_promptN {l k : List Str} {tl : Bool} (hl : nameOk l = true) (hk : nameOk k = true) : rightC (promptN l k tl) = (decide (l.length = 1) && decide (k.length = if tl then 1 else 2)) := by
  unfold promptN
  rw [right_node]
  cases tl <;> simp [headC, nodeC, Cd.kind, Cd.kids, Cd.arms, Cd.name, Cd.param, Cd.n, right_unit, armsOk, armOk, armN, retS, hl, hk, Ca.vars, Ca.name, Ca.tail, Ca.body] <;> rfl
theorem right_aloneN {l : List Str} (hl : nameOk l = true) : rightC (aloneN l) = decide (l.length = 1) := by
  unfold aloneN
  rw [right_node]
  simp [headC, nodeC, Cd.kind, Cd.kids, Cd.arms, Cd.name, Cd.param, Cd.n, right_unit, armsOk, armOk, armN, retS, hl, Ca.vars, Ca.name, Ca.tail, Ca.body]
  rfl
theorem right_matchN {k : List Str} {tl : Bool} {c : Nat} (hc : c ≤ 3) (hk : nameOk k = true) : rightC (matchN (armsN k tl c)) = (decide (0 < c) && !tl) := by
  unfold matchN
  rw [right_node]
  rcases (show c = 0 ∨ c = 1 ∨ c = 2 ∨ c = 3 by omega) with rfl | rfl | rfl | rfl <;> cases tl <;>
    simp [headC, nodeC, Cd.kind, Cd.kids, Cd.arms, Cd.name, Cd.param, Cd.n, atomsC, atom_unit, right_unit, armsN, List.range_succ, armsOk, armOk, armN, hk, Ca.vars, Ca.name, Ca.tail, Ca.body]
abbrev unitV : List Value := [.int .i64 4, S [], S [], .int .i64 0, .slice none 0 0, .slice none 0 0]
theorem armN_R {m : Mem} {n : Str} {l : List Str} {tl : Bool} {o : Option Addr} {c : Nat} (h : Strs m o l.length c l) : CaR m (armN n l tl) (S n :: .slice o l.length c :: .bool tl :: unitV) := ⟨o, c, cdV unitC noY, rfl, h, unit_R⟩
theorem nodeZ_R {m : Mem} {k : Int} {s p : Str} {t : Cd} {az : List Ca} {g c : Nat} {o : Option Addr} {vs : List Value} (hk : InI64 k) (hc : CellsAt m ⟨g, 0, none⟩ vs) (h : CdR m t vs) (ha : Cas m o az.length c az) : CdR m (nodeC k s p [t] az) (cdV (nodeC k s p [t] az) ⟨some ⟨g, 0, none⟩, 1, o, c⟩) :=
  CdR.build hk i0 (Sl.one (R := fun m vs t => CdR m t vs) hc h.len h) ha
set_option maxHeartbeats 3200000 in
theorem codeArms_c {w : World} {m : Mem} {a : Int} {b : Int} {tl : Bool} {c : Int} (hA : Agree w m) (hT : Tab w) : FnV Tryd.prog 4 #[.int .i64 a, .int .i64 b, .bool tl, .int .i64 c] w m (fun _ _ v => v = .bool true) := by
  refine fn_enter (vs := [_, _, _, _]) Tryd.func4 rfl rfl rfl fun a0 hfr0 => ?_
  have hst0 := st_enter hA (loc_nil [] _ w m)
  have hM : MLe m m := MLe.refl m
  obtain ⟨li, hli, hli2, hli5⟩ := pick6 a
  obtain ⟨lj, hlj, hlj2, hlj5⟩ := pick6 b
  obtain ⟨kc, hkc, hkc3⟩ := pick3 c
  have hoi := pick_ok hli2; have hoj := pick_ok hlj2
  refine seq_any fun _ hK1 => ?_
  refine rp0 hst0 hfr0 (.cons rfl (ob_assign rfl) <| .nil) ?_
  intro a1 w1 m1 hst1 hle1 hk1
  have hfr1 := hk1.fr (T' := [(0, _), (1, _), (2, _), (3, _)]) (.old rfl rfl <| .old rfl rfl <| .old rfl rfl <| .old rfl rfl <| .nil)
  clear hst0 hfr0 hk1
  refine hK1 _ _ ?_; clear hK1
  refine seq_any fun _ hK2 => ?_
  refine rp0 hst1 hfr1 (.cons rfl (ob_callE rfl (.nil) Tryd.call10 (fun w m hK => by have hle_ := KC.le hK; have hA := KC.agree hK; have hT := tab_keep hT hK.st.ext; exact shown_c hA hT)) <| .cons rfl (ob_assign rfl) <| .nil) ?_
  intro a2 w2 m2 hst2 hle2 hk2
  have hfr2 := hk2.fr (T' := [(0, _), (1, _), (2, _), (3, _), (9, _)]) (.old rfl rfl <| .old rfl rfl <| .old rfl rfl <| .old rfl rfl <| .new rfl <| .nil)
  clear hst1 hfr1 hk2
  refine hK2 _ _ ?_; clear hK2
  refine seq_any fun _ hK3 => ?_
  refine ra0 (tch := []) hst2 hfr2 (.cons rfl (ob_buildSlice (.cons rfl <| .cons rfl <| .cons rfl <| .cons rfl <| .cons rfl <| .nil) Tryd.underlying29 Tryd.sizeOf9 Tryd.zeroValue9 rfl rfl rfl rfl) <| .consA 20 rfl rfl <| .nil) ?_
  intro a3 w3 m3 hst3 hle3 hk3
  have hfr3 := hk3.fr (T' := [(0, _), (1, _), (2, _), (3, _), (9, _)]) (.old rfl rfl <| .old rfl rfl <| .old rfl rfl <| .old rfl rfl <| .old rfl rfl <| .nil)
  obtain ⟨gN, e4, hN⟩ := hk3.ex 20 rfl
  replace hfr3 := hfr3.cons (hk3.same 10 rfl e4)
  clear hst2 hfr2 hk3
  have hnm : Strs m3 (some ⟨gN, 0, none⟩) 5 5 names5 := strs_row (l := names5) hN (by decide)
  have hn5 : names5.length = 5 := rfl
  refine hK3 _ _ ?_; clear hK3
  refine seq_any fun _ hK5 => ?_
  refine rp0 hst3 hfr3 (.cons rfl (ob_move rfl) <| .cons rfl (ob_band rfl rfl) <| .cons rfl (ob_rem rfl rfl (by omega)) <| .cons rfl (ob_assign rfl) <| .nil) ?_
  intro a4 w4 m4 hst4 hle4 hk4
  have hfr4 := hk4.fr (T' := [(1, _), (2, _), (3, _), (9, _), (10, _), (0, _)]) (.old rfl rfl <| .old rfl rfl <| .old rfl rfl <| .old rfl rfl <| .old rfl rfl <| .new rfl <| .nil)
  replace hnm := hnm.mono hle4
  clear hst3 hfr3 hk4
  rw [hli] at hfr4
  refine hK5 _ _ ?_; clear hK5
  refine seq_any fun _ hK6 => ?_
  refine rp0 hst4 hfr4 (.cons rfl (ob_move rfl) <| .cons rfl (ob_band rfl rfl) <| .cons rfl (ob_rem rfl rfl (by omega)) <| .cons rfl (ob_assign rfl) <| .nil) ?_
  intro a5 w5 m5 hst5 hle5 hk5
  have hfr5 := hk5.fr (T' := [(2, _), (3, _), (9, _), (10, _), (0, _), (1, _)]) (.old rfl rfl <| .old rfl rfl <| .old rfl rfl <| .old rfl rfl <| .old rfl rfl <| .new rfl <| .nil)
  replace hnm := hnm.mono hle5
  clear hst4 hfr4 hk5
  rw [hlj] at hfr5
  refine hK6 _ _ ?_; clear hK6
  refine seq_any fun _ hK7 => ?_
  refine rp0 hst5 hfr5 (.cons rfl (ob_move rfl) <| .cons rfl (ob_band rfl rfl) <| .cons rfl (ob_assign rfl) <| .nil) ?_
  intro a6 w6 m6 hst6 hle6 hk6
  have hfr6 := hk6.fr (T' := [(2, _), (9, _), (10, _), (0, _), (1, _), (3, _)]) (.old rfl rfl <| .old rfl rfl <| .old rfl rfl <| .old rfl rfl <| .old rfl rfl <| .new rfl <| .nil)
  replace hnm := hnm.mono hle6
  clear hst5 hfr5 hk6
  rw [hkc] at hfr6
  have hSi : Strs m6 (if 5 = 0 then some ⟨gN, 0, none⟩ else Option.map (fun (x : Addr) => x.add (0 * 1)) (some ⟨gN, 0, none⟩)) li.length (5 - 0) li := by have h := hnm.cut (l := 0) (k := li.length) (by omega) (by omega); rw [List.drop_zero, hli2] at h; exact h
  have hSj : Strs m6 (if 5 = 0 then some ⟨gN, 0, none⟩ else Option.map (fun (x : Addr) => x.add (0 * 1)) (some ⟨gN, 0, none⟩)) lj.length (5 - 0) lj := by have h := hnm.cut (l := 0) (k := lj.length) (by omega) (by omega); rw [List.drop_zero, hlj2] at h; exact h
  refine hK7 _ _ ?_; clear hK7
  refine seq_any fun _ hK8 => ?_
  replace hst6 := hst6.more (r := .free) trivial List.nodup_nil (by simp [Res.blocks])
  refine ra0 (tch := [(1, 0, (fun v => .blk v _)), (2, 0, (fun v => .blk v _))]) hst6 hfr6 (.cons rfl (ob_buildS (cs := cdV unitC noY) (.cons rfl <| .nil) Tryd.underlying25 Tryd.zeroValue25 (.cons Tryd.sizeOf3 <| .cons Tryd.sizeOf9 <| .cons Tryd.sizeOf9 <| .cons Tryd.sizeOf3 <| .cons Tryd.sizeOf22 <| .cons Tryd.sizeOf23 <| .nil) (rfl)) <| .consT rfl rfl (fun _ => rfl) rfl (ob_allocL Tryd.zeroValue25 rfl) <| .consT rfl rfl (fun _ => rfl) rfl (ob_imgT 11 rfl rfl rfl fun y11 => ob_storeF rfl rfl rfl rfl rfl Tryd.sizeOf25 rfl rfl rfl) <| .nil) ?_
  intro a7 w7 m7 hst7 hle7 hk7
  have hfr7 := hk7.fr (T' := [(2, _), (9, _), (10, _), (0, _), (1, _), (3, _)]) (.old rfl rfl <| .old rfl rfl <| .old rfl rfl <| .old rfl rfl <| .old rfl rfl <| .old rfl rfl <| .nil)
  obtain ⟨g11, e9, _⟩ := hk7.ex 11 rfl
  replace hfr7 := hfr7.cons e9
  replace hst7 := hst7.fin (L' := [_]) (.cons e9 <| .cons e9 <| .nil)
  try simp only [List.take_succ_cons, List.take_zero, List.drop_succ_cons, List.drop_zero, List.cons_append, List.nil_append, List.append_nil, List.length_cons, List.length_nil, Nat.zero_add, Nat.reduceAdd] at hst7
  replace hnm := hnm.mono hle7
  replace hSi := hSi.mono hle7
  replace hSj := hSj.mono hle7
  clear hst6 hfr6 hk7
  refine hK8 _ _ ?_; clear hK8
  refine seq_any fun _ hK10 => ?_
  have hct11 : Strs _ _ _ _ ((names5.take (li.length)).drop (0)) := hnm.cut (l := 0) (k := li.length) (by omega) (by omega)
  have hcl11 : (li.length) - (0) = (((names5.take (li.length)).drop (0))).length := hct11.len.symm
  have hcu11 : Strs _ _ _ _ ((names5.take (li.length)).drop (0)) := hct11.lenL
  replace hst7 := hst7.more (r := .free) trivial List.nodup_nil (by simp [Res.blocks])
  refine region_any (tch := [(5, 1, (fun v => .blk v _)), (6, 1, (fun v => .blk v _))]) (fun _ => mixed) hst7 hfr7 (by kernel_rfl) (by kernel_rfl) (by kernel_rfl) (.cons rfl (ob_move rfl) <| .cons rfl (ob_move rfl) <| .cons rfl (ob_slice (l := 0) (h := li.length) rfl .none (.some rfl (by omega)) Tryd.underlying29 Tryd.sizeOf9 (by first | omega | (dsimp only; omega)) (by first | omega | (dsimp only; omega))) <| .cons rfl (ob_loadLA (j := 0) rfl rfl Tryd.isAgg25 Tryd.sizeOf25 rfl) <| .cons rfl (ob_buildS (cs := (S retS :: .slice (if 5 = 0 then some ⟨gN, 0, none⟩ else Option.map (fun (x : Addr) => x.add (0 * 1)) (some ⟨gN, 0, none⟩)) li.length (5 - 0) :: .bool false :: unitV)) (.cons rfl <| .cons rfl <| .cons rfl <| .nil) Tryd.underlying35 Tryd.zeroValue35 (.cons Tryd.sizeOf9 <| .cons Tryd.sizeOf29 <| .cons Tryd.sizeOf4 <| .cons Tryd.sizeOf25 <| .nil) (rfl)) <| .consT rfl rfl (fun _ => rfl) rfl (ob_allocL Tryd.zeroValue35 rfl) <| .consT rfl rfl (fun _ => rfl) rfl (ob_imgT 12 rfl rfl rfl fun y12 => ob_storeF rfl rfl rfl rfl rfl Tryd.sizeOf35 rfl rfl rfl) <| .nil) ?_
  intro a8 w8 m8 hst8 hle8 hk8
  have hfr8 := hk8.fr (T' := [(2, _), (9, _), (10, _), (0, _), (1, _), (3, _), (11, _)]) (.old rfl rfl <| .old rfl rfl <| .old rfl rfl <| .old rfl rfl <| .old rfl rfl <| .old rfl rfl <| .old rfl rfl <| .nil)
  obtain ⟨g12, e12, _⟩ := hk8.ex 12 rfl
  replace hfr8 := hfr8.cons e12
  replace hst8 := hst8.fin (L' := [_, _]) (.cons e12 <| .cons e12 <| .nil)
  try simp only [List.take_succ_cons, List.take_zero, List.drop_succ_cons, List.drop_zero, List.cons_append, List.nil_append, List.append_nil, List.length_cons, List.length_nil, Nat.zero_add, Nat.reduceAdd] at hst8
  replace hnm := hnm.mono hle8
  replace hSi := hSi.mono hle8
  replace hSj := hSj.mono hle8
  clear hst7 hfr7 hk8
  refine hK10 _ _ ?_; clear hK10
  refine seq_any fun _ hK13 => ?_
  have hct14 : Strs _ _ _ _ ((names5.take (lj.length)).drop (0)) := hnm.cut (l := 0) (k := lj.length) (by omega) (by omega)
  have hcl14 : (lj.length) - (0) = (((names5.take (lj.length)).drop (0))).length := hct14.len.symm
  have hcu14 : Strs _ _ _ _ ((names5.take (lj.length)).drop (0)) := hct14.lenL
  replace hst8 := hst8.more (r := .free) trivial List.nodup_nil (by simp [Res.blocks])
  refine region_any (tch := [(6, 2, (fun v => .blk v _)), (7, 2, (fun v => .blk v _))]) (fun _ => mixed) hst8 hfr8 (by kernel_rfl) (by kernel_rfl) (by kernel_rfl) (.cons rfl (ob_move rfl) <| .cons rfl (ob_move rfl) <| .cons rfl (ob_slice (l := 0) (h := lj.length) rfl .none (.some rfl (by omega)) Tryd.underlying29 Tryd.sizeOf9 (by first | omega | (dsimp only; omega)) (by first | omega | (dsimp only; omega))) <| .cons rfl (ob_move rfl) <| .cons rfl (ob_loadLA (j := 0) rfl rfl Tryd.isAgg25 Tryd.sizeOf25 rfl) <| .cons rfl (ob_buildS (cs := (S [103, 101, 116] :: .slice (if 5 = 0 then some ⟨gN, 0, none⟩ else Option.map (fun (x : Addr) => x.add (0 * 1)) (some ⟨gN, 0, none⟩)) lj.length (5 - 0) :: .bool tl :: unitV)) (.cons rfl <| .cons rfl <| .cons rfl <| .cons rfl <| .nil) Tryd.underlying35 Tryd.zeroValue35 (.cons Tryd.sizeOf9 <| .cons Tryd.sizeOf29 <| .cons Tryd.sizeOf4 <| .cons Tryd.sizeOf25 <| .nil) (rfl)) <| .consT rfl rfl (fun _ => rfl) rfl (ob_allocL Tryd.zeroValue35 rfl) <| .consT rfl rfl (fun _ => rfl) rfl (ob_imgT 13 rfl rfl rfl fun y13 => ob_storeF rfl rfl rfl rfl rfl Tryd.sizeOf35 rfl rfl rfl) <| .nil) ?_
  intro a9 w9 m9 hst9 hle9 hk9
  have hfr9 := hk9.fr (T' := [(2, _), (9, _), (10, _), (0, _), (1, _), (3, _), (11, _), (12, _)]) (.old rfl rfl <| .old rfl rfl <| .old rfl rfl <| .old rfl rfl <| .old rfl rfl <| .old rfl rfl <| .old rfl rfl <| .old rfl rfl <| .nil)
  obtain ⟨g13, e15, _⟩ := hk9.ex 13 rfl
  replace hfr9 := hfr9.cons e15
  replace hst9 := hst9.fin (L' := [_, _, _]) (.cons e15 <| .cons e15 <| .nil)
  try simp only [List.take_succ_cons, List.take_zero, List.drop_succ_cons, List.drop_zero, List.cons_append, List.nil_append, List.append_nil, List.length_cons, List.length_nil, Nat.zero_add, Nat.reduceAdd] at hst9
  replace hnm := hnm.mono hle9
  replace hSi := hSi.mono hle9
  replace hSj := hSj.mono hle9
  clear hst8 hfr8 hk9
  have hone : CaR m9 (armN retS li false) (S retS :: .slice (if 5 = 0 then some ⟨gN, 0, none⟩ else Option.map (fun (x : Addr) => x.add (0 * 1)) (some ⟨gN, 0, none⟩)) li.length (5 - 0) :: .bool false :: unitV) := armN_R hSi
  have htwo : CaR m9 (armN [103, 101, 116] lj tl) (S [103, 101, 116] :: .slice (if 5 = 0 then some ⟨gN, 0, none⟩ else Option.map (fun (x : Addr) => x.add (0 * 1)) (some ⟨gN, 0, none⟩)) lj.length (5 - 0) :: .bool tl :: unitV) := armN_R hSj
  refine hK13 _ _ ?_; clear hK13
  refine seq_any fun _ hK16 => ?_
  refine region_cut 5 (by kernel_rfl) ?_
  refine ops_seq (tch := []) hst9 hfr9 (by kernel_rfl) (by kernel_rfl) (by kernel_rfl) (.cons rfl (ob_loadLA (j := 0) rfl rfl Tryd.isAgg25 Tryd.sizeOf25 rfl) <| .cons rfl (ob_buildSlice1 rfl Tryd.underlying22 Tryd.sizeOf25 Tryd.zeroValue25 rfl rfl rfl rfl) <| .cons rfl (ob_loadLA (j := 1) rfl rfl Tryd.isAgg35 Tryd.sizeOf35 rfl) <| .cons rfl (ob_loadLA (j := 2) rfl rfl Tryd.isAgg35 Tryd.sizeOf35 rfl) <| .cons rfl (ob_buildSlice2 rfl rfl Tryd.underlying23 Tryd.sizeOf35 Tryd.zeroValue35 rfl rfl rfl rfl rfl) <| .nil) ?_
  intro a10 w10 m10 hst10 hle10 hk10
  have hfr10 := hk10.fr (T' := [(2, _), (9, _), (10, _), (0, _), (1, _), (3, _), (11, _), (12, _), (13, _)]) (.old rfl rfl <| .old rfl rfl <| .old rfl rfl <| .old rfl rfl <| .old rfl rfl <| .old rfl rfl <| .old rfl rfl <| .old rfl rfl <| .old rfl rfl <| .nil)
  obtain ⟨gU, e17, hU9⟩ := hk10.ex 42 rfl
  replace hfr10 := hfr10.cons e17
  obtain ⟨gP, e18, hP9⟩ := hk10.ex 45 rfl
  replace hfr10 := hfr10.cons e18
  replace hnm := hnm.mono hle10
  replace hSj := hSj.mono hle10
  replace hone := hone.mono hle10
  replace htwo := htwo.mono hle10
  clear hst9 hfr9 hk10
  have hPN : CdR m10 (promptN li lj tl) _ := nodeZ_R (az := [armN retS li false, armN [103, 101, 116] lj tl]) ⟨by decide, by decide⟩ hU9 unit_R (Sl.two (R := fun m vs t => CaR m t vs) hP9 hone.len htwo.len hone htwo)
  replace hst10 := hst10.more (r := .free) trivial List.nodup_nil (by simp [Res.blocks])
  refine ops_seq (tch := [(1, 3, (fun v => .blk v _)), (2, 3, (fun v => .blk v _))]) hst10 hfr10 (by kernel_rfl) (by kernel_rfl) (by kernel_rfl) (.cons rfl (ob_buildS (cs := cdV (promptN li lj tl) ⟨some ⟨gU, 0, none⟩, 1, some ⟨gP, 0, none⟩, 2⟩) (.cons rfl <| .cons rfl <| .cons rfl <| .cons rfl <| .nil) Tryd.underlying25 Tryd.zeroValue25 (.cons Tryd.sizeOf3 <| .cons Tryd.sizeOf9 <| .cons Tryd.sizeOf9 <| .cons Tryd.sizeOf3 <| .cons Tryd.sizeOf22 <| .cons Tryd.sizeOf23 <| .nil) (rfl)) <| .consT rfl rfl (fun _ => rfl) rfl (ob_allocL Tryd.zeroValue25 rfl) <| .consT rfl rfl (fun _ => rfl) rfl (ob_imgT 14 rfl rfl rfl fun y14 => ob_storeF rfl rfl rfl rfl rfl Tryd.sizeOf25 rfl rfl rfl) <| .nil) ?_
  intro a11 w11 m11 hst11 hle11 hk11
  have hfr11 := hk11.fr (T' := [(2, _), (9, _), (10, _), (0, _), (1, _), (3, _), (11, _), (12, _), (13, _), (42, _), (45, _)]) (.old rfl rfl <| .old rfl rfl <| .old rfl rfl <| .old rfl rfl <| .old rfl rfl <| .old rfl rfl <| .old rfl rfl <| .old rfl rfl <| .old rfl rfl <| .old rfl rfl <| .old rfl rfl <| .nil)
  obtain ⟨g14, e19, _⟩ := hk11.ex 14 rfl
  replace hfr11 := hfr11.cons e19
  replace hst11 := hst11.fin (L' := [_, _, _, _]) (.cons e19 <| .cons e19 <| .nil)
  try simp only [List.take_succ_cons, List.take_zero, List.drop_succ_cons, List.drop_zero, List.cons_append, List.nil_append, List.append_nil, List.length_cons, List.length_nil, Nat.zero_add, Nat.reduceAdd] at hst11
  replace hnm := hnm.mono hle11
  replace hSj := hSj.mono hle11
  replace hone := hone.mono hle11
  replace hPN := hPN.mono hle11
  clear hst10 hfr10 hk11
  refine hK16 _ _ ?_; clear hK16
  refine seq_any fun _ hK20 => ?_
  refine rp0 hst11 hfr11 (.cons rfl (ob_assign rfl) <| .nil) ?_
  intro a12 w12 m12 hst12 hle12 hk12
  have hfr12 := hk12.fr (T' := [(2, _), (9, _), (10, _), (0, _), (1, _), (3, _), (11, _), (12, _), (14, _), (15, _)]) (.old rfl rfl <| .old rfl rfl <| .old rfl rfl <| .old rfl rfl <| .old rfl rfl <| .old rfl rfl <| .old rfl rfl <| .old rfl rfl <| .old rfl rfl <| .new rfl <| .nil)
  replace hnm := hnm.mono hle12
  replace hSj := hSj.mono hle12
  replace hone := hone.mono hle12
  replace hPN := hPN.mono hle12
  clear hst11 hfr11 hk12
  refine hK20 _ _ ?_; clear hK20
  refine seq_any fun _ hK21 => ?_
  refine seq_any fun _ hK22 => ?_
  refine rp0 hst12 hfr12 (.cons rfl (ob_move rfl) <| .nil) ?_
  intro a13 w13 m13 hst13 hle13 hk13
  have hfr13 := hk13.fr (T' := [(2, _), (9, _), (10, _), (0, _), (1, _), (3, _), (11, _), (12, _), (14, _), (15, _), (47, _)]) (.old rfl rfl <| .old rfl rfl <| .old rfl rfl <| .old rfl rfl <| .old rfl rfl <| .old rfl rfl <| .old rfl rfl <| .old rfl rfl <| .old rfl rfl <| .old rfl rfl <| .new rfl <| .nil)
  replace hnm := hnm.mono hle13
  replace hSj := hSj.mono hle13
  replace hone := hone.mono hle13
  replace hPN := hPN.mono hle13
  clear hst12 hfr12 hk13
  refine hK22 _ _ ?_; clear hK22
  refine cond_any hfr13 rfl rfl (fun hb47 => ?_) (fun hb47 => ?_)
  · try simp only [nq1, nq2, nq3, nq4, nq5, nq6, nq7, nq8, nq9, u8_eq] at hb47
    refine rp0 hst13 hfr13 (.cons rfl (ob_assign rfl) <| .nil) ?_
    intro a14 w14 m14 hst14 hle14 hk14
    have hfr14 := hk14.fr (T' := [(2, _), (9, _), (10, _), (0, _), (1, _), (3, _), (11, _), (12, _), (14, _), (15, _)]) (.old rfl rfl <| .old rfl rfl <| .old rfl rfl <| .old rfl rfl <| .old rfl rfl <| .old rfl rfl <| .old rfl rfl <| .old rfl rfl <| .old rfl rfl <| .new rfl <| .nil)
    replace hnm := hnm.mono hle14
    replace hSj := hSj.mono hle14
    replace hone := hone.mono hle14
    replace hPN := hPN.mono hle14
    clear hst13 hfr13 hk14
    refine hK21 _ _ ?_; clear hK21
    refine seq_any fun _ hK23 => ?_
    refine region_cut 2 (by kernel_rfl) ?_
    refine ops_seq (tch := []) hst14 hfr14 (by kernel_rfl) (by kernel_rfl) (by kernel_rfl) (.cons rfl (ob_loadLA (j := 0) rfl rfl Tryd.isAgg25 Tryd.sizeOf25 rfl) <| .cons rfl (ob_buildSlice1 rfl Tryd.underlying22 Tryd.sizeOf25 Tryd.zeroValue25 rfl rfl rfl rfl) <| .nil) ?_
    intro a15 w15 m15 hst15 hle15 hk15
    have hfr15 := hk15.fr (T' := [(2, _), (9, _), (10, _), (0, _), (1, _), (3, _), (11, _), (12, _), (14, _), (15, _)]) (.old rfl rfl <| .old rfl rfl <| .old rfl rfl <| .old rfl rfl <| .old rfl rfl <| .old rfl rfl <| .old rfl rfl <| .old rfl rfl <| .old rfl rfl <| .old rfl rfl <| .nil)
    obtain ⟨gK, e24, hK9⟩ := hk15.ex 49 rfl
    replace hfr15 := hfr15.cons e24
    replace hnm := hnm.mono hle15
    replace hSj := hSj.mono hle15
    replace hone := hone.mono hle15
    replace hPN := hPN.mono hle15
    clear hst14 hfr14 hk15
    replace hst15 := hst15.more (r := .free) trivial List.nodup_nil (by simp [Res.blocks])
    refine ops_seq (tch := [(1, 4, (fun v => .blk v _)), (2, 4, (fun v => .blk v _))]) hst15 hfr15 (by kernel_rfl) (by kernel_rfl) (by kernel_rfl) (.cons rfl (ob_buildS (cs := cdV (matchN []) ⟨some ⟨gK, 0, none⟩, 1, none, 0⟩) (.cons rfl <| .cons rfl <| .nil) Tryd.underlying25 Tryd.zeroValue25 (.cons Tryd.sizeOf3 <| .cons Tryd.sizeOf9 <| .cons Tryd.sizeOf9 <| .cons Tryd.sizeOf3 <| .cons Tryd.sizeOf22 <| .cons Tryd.sizeOf23 <| .nil) (rfl)) <| .consT rfl rfl (fun _ => rfl) rfl (ob_allocL Tryd.zeroValue25 rfl) <| .consT rfl rfl (fun _ => rfl) rfl (ob_imgT 16 rfl rfl rfl fun y16 => ob_storeF rfl rfl rfl rfl rfl Tryd.sizeOf25 rfl rfl rfl) <| .nil) ?_
    intro a16 w16 m16 hst16 hle16 hk16
    have hfr16 := hk16.fr (T' := [(2, _), (9, _), (10, _), (0, _), (1, _), (3, _), (11, _), (12, _), (14, _), (15, _), (49, _)]) (.old rfl rfl <| .old rfl rfl <| .old rfl rfl <| .old rfl rfl <| .old rfl rfl <| .old rfl rfl <| .old rfl rfl <| .old rfl rfl <| .old rfl rfl <| .old rfl rfl <| .old rfl rfl <| .nil)
    obtain ⟨g16, e25, _⟩ := hk16.ex 16 rfl
    replace hfr16 := hfr16.cons e25
    replace hst16 := hst16.fin (L' := [_, _, _, _, _]) (.cons e25 <| .cons e25 <| .nil)
    try simp only [List.take_succ_cons, List.take_zero, List.drop_succ_cons, List.drop_zero, List.cons_append, List.nil_append, List.append_nil, List.length_cons, List.length_nil, Nat.zero_add, Nat.reduceAdd] at hst16
    replace hnm := hnm.mono hle16
    replace hSj := hSj.mono hle16
    replace hone := hone.mono hle16
    replace hPN := hPN.mono hle16
    replace hK9 := hK9.mono hle16
    clear hst15 hfr15 hk16
    have hst16 := hst16.more (r := .rowx (.slice none 0 0) 0 9 35 (MP.reads (fun m vs t => CaR m t vs) 9 [])) rowx_new List.nodup_nil (by simp [Res.blocks, rowBlock])
    have hsl_ar : Cas m16 none ([] : List Ca).length 0 ([] : List Ca) := Sl.empty
    refine hK23 _ _ ?_; clear hK23
    refine seq_any fun _ hK26 => ?_
    refine seq_any fun _ hK27 => ?_
    refine rp0 hst16 hfr16 (.cons rfl (ob_assign rfl) <| .nil) ?_
    intro a17 w17 m17 hst17 hle17 hk17
    have hfr17 := hk17.fr (T' := [(2, _), (9, _), (10, _), (0, _), (1, _), (3, _), (11, _), (12, _), (14, _), (15, _), (16, _), (17, _)]) (.old rfl rfl <| .old rfl rfl <| .old rfl rfl <| .old rfl rfl <| .old rfl rfl <| .old rfl rfl <| .old rfl rfl <| .old rfl rfl <| .old rfl rfl <| .old rfl rfl <| .old rfl rfl <| .new rfl <| .nil)
    replace hnm := hnm.mono hle17
    replace hSj := hSj.mono hle17
    replace hone := hone.mono hle17
    replace hPN := hPN.mono hle17
    replace hK9 := hK9.mono hle17
    replace hsl_ar := hsl_ar.mono hle17
    clear hst16 hfr16 hk17
    refine hK27 _ _ ?_; clear hK27
    refine wp_block ?_
    refine loop_any (T := [(2, _), (9, _), (10, _), (0, _), (1, _), (3, _), (11, _), (12, _), (14, _), (15, _), (16, _)]) (fun (y : Nat × Option Addr × Nat × List Ca) => ([(17, .int .i64 (y.1 : Int))] : List (Nat × Value))) (fun y => [_, _, _, _, .blk (.pointer (some ⟨g16, 0, none⟩)) (.cells (cdV (matchN y.2.2.2) ⟨some ⟨gK, 0, none⟩, 1, y.2.1, y.2.2.1⟩).toArray 25), .rowx (nz (.slice y.2.1 y.2.2.2.length y.2.2.1)) y.2.2.2.length 9 35 (MP.reads (fun m vs t => CaR m t vs) 9 y.2.2.2)]) (fun (y : Nat × Option Addr × Nat × List Ca) m => (fun (y : Nat) (gao : Option Addr) (gap : Nat) (ga : List Ca) => (y ≤ kc) ∧ (Cas m gao ga.length gap ga) ∧ (ga = armsN lj tl y)) y.1 y.2.1 y.2.2.1 y.2.2.2) (fun y => kc - y.1) ((0, none, 0, ([] : List Ca))) ⟨hst17, MLe.refl _, hfr17.sub (.cons rfl <| .cons rfl <| .cons rfl <| .cons rfl <| .cons rfl <| .cons rfl <| .cons rfl <| .cons rfl <| .cons rfl <| .cons rfl <| .cons rfl <| .cons rfl <| .nil), ⟨Nat.zero_le _, hsl_ar, rfl⟩⟩ fun y a18 w18 m18 hh18 => ?_
    have hst18 := hh18.st; have hle18 := hh18.le; have hfr18 := hh18.fr; have hrel := hh18.rel; clear hh18
    replace hnm := hnm.mono hle18
    replace hSj := hSj.mono hle18
    replace hone := hone.mono hle18
    replace hPN := hPN.mono hle18
    replace hK9 := hK9.mono hle18
    clear hst17 hfr17
    obtain ⟨y, gao, gap, ga⟩ := y
    dsimp only at hrel hfr18 hst18
    obtain ⟨hyn, hsl_ga, hlen_ga⟩ := hrel
    have hlh18 := hle18
    refine seq_any fun _ hK29 => ?_
    refine seq_any fun _ hK30 => ?_
    refine rp0 hst18 hfr18 (.cons rfl (ob_move rfl) <| .cons rfl (ob_move rfl) <| .cons rfl (ob_lss rfl rfl) <| .nil) ?_
    intro a19 w19 m19 hst19 hle19 hk19
    have hfr19 := hk19.fr (T' := [(17, _), (2, _), (9, _), (10, _), (0, _), (1, _), (3, _), (11, _), (12, _), (14, _), (15, _), (16, _), (53, _)]) (.old rfl rfl <| .old rfl rfl <| .old rfl rfl <| .old rfl rfl <| .old rfl rfl <| .old rfl rfl <| .old rfl rfl <| .old rfl rfl <| .old rfl rfl <| .old rfl rfl <| .old rfl rfl <| .old rfl rfl <| .new rfl <| .nil)
    replace hnm := hnm.mono hle19
    replace hSj := hSj.mono hle19
    replace hone := hone.mono hle19
    replace hPN := hPN.mono hle19
    replace hK9 := hK9.mono hle19
    replace hsl_ga := hsl_ga.mono hle19
    have hlh19 := hlh18.trans hle19
    clear hst18 hfr18 hk19
    refine hK30 _ _ ?_; clear hK30
    refine cond_any hfr19 rfl rfl (fun hb53 => ?_) (fun hb53 => ?_)
    · try simp only [nq1, nq2, nq3, nq4, nq5, nq6, nq7, nq8, nq9, u8_eq] at hb53
      refine wp_skip ?_
      refine hK29 _ _ ?_; clear hK29
      refine seq_any fun _ hK31 => ?_
      refine wp_block ?_
      have hma9 : (matchN ga).arms.length = ga.length := rfl
      have hlg9 : ga.length = y := by rw [hlen_ga]; simp [armsN]
      have hct32 : Strs _ _ _ _ ((names5.take (lj.length)).drop (0)) := hnm.cut (l := 0) (k := lj.length) (by omega) (by omega)
      have hcl32 : (lj.length) - (0) = (((names5.take (lj.length)).drop (0))).length := hct32.len.symm
      have hcu32 : Strs _ _ _ _ ((names5.take (lj.length)).drop (0)) := hct32.lenL
      refine region_any (tch := [(13, 5, (fun v => .rowx (nz v) _ _ _ _)), (15, 4, (fun u => .blk _ (.cells (_ ++ [u] ++ _).toArray _)))]) (fun _ => mixed) hst19 hfr19 (by kernel_rfl) (by kernel_rfl) (by kernel_rfl) (.cons rfl (ob_fieldAddrO (off := 5) rfl Tryd.underlying25 rfl rfl Tryd.sizeOf23 rfl) <| .cons rfl (ob_loadL (j := 4) rfl rfl Tryd.isAgg23 rfl) <| .cons rfl (ob_move rfl) <| .cons rfl (ob_move rfl) <| .cons rfl (ob_slice (l := 0) (h := lj.length) rfl .none (.some rfl (by omega)) Tryd.underlying29 Tryd.sizeOf9 (by first | omega | (dsimp only; omega)) (by first | omega | (dsimp only; omega))) <| .cons rfl (ob_move rfl) <| .cons rfl (ob_move rfl) <| .cons rfl (ob_move rfl) <| .cons rfl (ob_eql rfl rfl) <| .cons rfl (ob_and rfl rfl rfl) <| .cons rfl (ob_loadLA (j := 0) rfl rfl Tryd.isAgg25 Tryd.sizeOf25 rfl) <| .cons rfl (ob_buildS (cs := (S [67] :: .slice (if 5 = 0 then some ⟨gN, 0, none⟩ else Option.map (fun (x : Addr) => x.add (0 * 1)) (some ⟨gN, 0, none⟩)) lj.length (5 - 0) :: .bool (tl && decide ((y : Int) = 0)) :: unitV)) (.cons rfl <| .cons rfl <| .cons rfl <| .cons rfl <| .nil) Tryd.underlying35 Tryd.zeroValue35 (.cons Tryd.sizeOf9 <| .cons Tryd.sizeOf29 <| .cons Tryd.sizeOf4 <| .cons Tryd.sizeOf25 <| .nil) (rfl)) <| .cons rfl (ob_buildSlice1 rfl Tryd.underlying23 Tryd.sizeOf35 Tryd.zeroValue35 rfl rfl rfl rfl) <| .consT rfl rfl (fun _ => rfl) rfl (ob_imgT 68 rfl rfl rfl fun y68 => ob_appendX (size := 9) (bytes := 144) (l := ga) (l' := [armN [67] lj (tl && decide ((y : Int) = 0))]) rfl rfl (fun _ => by first | exact .inl rfl | exact .inr (.inl rfl)) Tryd.underlying23 Tryd.type35 rfl rfl rfl rfl (fun w m hK => Sl.one (R := fun m vs t => CaR m t vs) hK.2 rfl (armN_R (hSj.mono (KC.le hK)))) rfl (by decide) (by simp only [maxLen]; omega) (by omega)) <| .cons rfl (ob_fieldAddrO (off := 5) rfl Tryd.underlying25 rfl rfl Tryd.sizeOf23 rfl) <| .consT rfl rfl (fun _ => rfl) rfl (ob_imgT 69 rfl rfl rfl fun y69 => ob_storeV rfl rfl rfl rfl rfl Tryd.sizeOf23 rfl rfl rfl) <| .nil) ?_
      intro a20 w20 m20 hst20 hle20 hk20
      have hfr20 := hk20.fr (T' := [(17, _), (2, _), (9, _), (10, _), (0, _), (1, _), (3, _), (11, _), (12, _), (14, _), (15, _), (16, _)]) (.old rfl rfl <| .old rfl rfl <| .old rfl rfl <| .old rfl rfl <| .old rfl rfl <| .old rfl rfl <| .old rfl rfl <| .old rfl rfl <| .old rfl rfl <| .old rfl rfl <| .old rfl rfl <| .old rfl rfl <| .nil)
      obtain ⟨⟨ar_33o, ar_33p⟩, e34, hsl_ar_33⟩ := hk20.ex 69 rfl
      replace hst20 := hst20.fin (L' := [_, _, _, _, _, _]) (.cons e34 <| .cons e34 <| .nil)
      try simp only [List.take_succ_cons, List.take_zero, List.drop_succ_cons, List.drop_zero, List.cons_append, List.nil_append, List.append_nil, List.length_cons, List.length_nil, Nat.zero_add, Nat.reduceAdd] at hst20
      have hlh20 := hlh19.trans hle20
      clear hst19 hfr19 hk20
      replace hsl_ar_33 : Cas m20 ar_33o (ga ++ [armN [67] lj (tl && decide ((y : Int) = 0))]).length ar_33p (ga ++ [armN [67] lj (tl && decide ((y : Int) = 0))]) := hsl_ar_33
      refine hK31 _ _ ?_; clear hK31
      refine rp0 hst20 hfr20 (.cons rfl (ob_move rfl) <| .cons rfl (ob_add rfl rfl ⟨by omega, by omega⟩) <| .cons rfl (ob_assign rfl) <| .nil) ?_
      intro a21 w21 m21 hst21 hle21 hk21
      have hfr21 := hk21.fr (T' := [(2, _), (9, _), (10, _), (0, _), (1, _), (3, _), (11, _), (12, _), (14, _), (15, _), (16, _), (17, _)]) (.old rfl rfl <| .old rfl rfl <| .old rfl rfl <| .old rfl rfl <| .old rfl rfl <| .old rfl rfl <| .old rfl rfl <| .old rfl rfl <| .old rfl rfl <| .old rfl rfl <| .old rfl rfl <| .new rfl <| .nil)
      replace hsl_ar_33 := hsl_ar_33.mono hle21
      have hlh21 := hlh20.trans hle21
      clear hst20 hfr20 hk21
      exact ⟨(y + 1, ar_33o, ar_33p, (ga ++ [armN [67] lj (tl && decide ((y : Int) = 0))])), m21, by show kc - (y + 1) < kc - y; omega, ⟨hst21, hlh21, hfr21.sub (.cons rfl <| .cons rfl <| .cons rfl <| .cons rfl <| .cons rfl <| .cons rfl <| .cons rfl <| .cons rfl <| .cons rfl <| .cons rfl <| .cons rfl <| .cons rfl <| .nil), ⟨by show y + 1 ≤ kc; omega, hsl_ar_33, by rw [hlen_ga]; exact (armsN_succ lj tl y).symm⟩⟩⟩
    · try simp only [nq1, nq2, nq3, nq4, nq5, nq6, nq7, nq8, nq9, u8_eq] at hb53
      have hge : y = kc := by omega
      subst hge
      refine wp_exit ?_
      refine hK26 _ _ ?_; clear hK26
      refine seq_any fun _ hK35 => ?_
      refine region_cut 4 (by kernel_rfl) ?_
      have hMN : CdR m19 (matchN ga) (cdV (matchN ga) ⟨some ⟨gK, 0, none⟩, 1, gao, gap⟩) := nodeZ_R ⟨by decide, by decide⟩ hK9 unit_R hsl_ga
      have hma9 : (matchN ga).arms.length = ga.length := rfl
      refine ops_seq (tch := []) hst19 hfr19 (by kernel_rfl) (by kernel_rfl) (by kernel_rfl) (.cons rfl (ob_loadLA (j := 0) rfl rfl Tryd.isAgg25 Tryd.sizeOf25 rfl) <| .cons rfl (ob_buildSlice1 rfl Tryd.underlying22 Tryd.sizeOf25 Tryd.zeroValue25 rfl rfl rfl rfl) <| .cons rfl (ob_loadLA (j := 1) rfl rfl Tryd.isAgg35 Tryd.sizeOf35 rfl) <| .cons rfl (ob_buildSlice1 rfl Tryd.underlying23 Tryd.sizeOf35 Tryd.zeroValue35 rfl rfl rfl rfl) <| .nil) ?_
      intro a20 w20 m20 hst20 hle20 hk20
      have hfr20 := hk20.fr (T' := [(17, _), (2, _), (9, _), (10, _), (0, _), (1, _), (3, _), (11, _), (12, _), (14, _), (15, _), (16, _)]) (.old rfl rfl <| .old rfl rfl <| .old rfl rfl <| .old rfl rfl <| .old rfl rfl <| .old rfl rfl <| .old rfl rfl <| .old rfl rfl <| .old rfl rfl <| .old rfl rfl <| .old rfl rfl <| .old rfl rfl <| .nil)
      obtain ⟨gX, e36, hX9⟩ := hk20.ex 72 rfl
      replace hfr20 := hfr20.cons e36
      obtain ⟨gY, e37, hY9⟩ := hk20.ex 74 rfl
      replace hfr20 := hfr20.cons e37
      replace hone := hone.mono hle20
      replace hPN := hPN.mono hle20
      replace hMN := hMN.mono hle20
      have hlh20 := hlh19.trans hle20
      clear hst19 hfr19 hk20
      have hAN : CdR m20 (aloneN li) _ := nodeZ_R (az := [armN retS li false]) ⟨by decide, by decide⟩ hX9 unit_R (Sl.one (R := fun m vs t => CaR m t vs) hY9 hone.len hone)
      replace hst20 := hst20.more (r := .free) trivial List.nodup_nil (by simp [Res.blocks])
      refine ops_seq (tch := [(1, 6, (fun v => .blk v _)), (2, 6, (fun v => .blk v _))]) hst20 hfr20 (by kernel_rfl) (by kernel_rfl) (by kernel_rfl) (.cons rfl (ob_buildS (cs := cdV (aloneN li) ⟨some ⟨gX, 0, none⟩, 1, some ⟨gY, 0, none⟩, 1⟩) (.cons rfl <| .cons rfl <| .cons rfl <| .cons rfl <| .nil) Tryd.underlying25 Tryd.zeroValue25 (.cons Tryd.sizeOf3 <| .cons Tryd.sizeOf9 <| .cons Tryd.sizeOf9 <| .cons Tryd.sizeOf3 <| .cons Tryd.sizeOf22 <| .cons Tryd.sizeOf23 <| .nil) (rfl)) <| .consT rfl rfl (fun _ => rfl) rfl (ob_allocL Tryd.zeroValue25 rfl) <| .consT rfl rfl (fun _ => rfl) rfl (ob_imgT 18 rfl rfl rfl fun y18 => ob_storeF rfl rfl rfl rfl rfl Tryd.sizeOf25 rfl rfl rfl) <| .nil) ?_
      intro a21 w21 m21 hst21 hle21 hk21
      have hfr21 := hk21.fr (T' := [(17, _), (2, _), (9, _), (10, _), (0, _), (1, _), (3, _), (11, _), (12, _), (14, _), (15, _), (16, _), (72, _), (74, _)]) (.old rfl rfl <| .old rfl rfl <| .old rfl rfl <| .old rfl rfl <| .old rfl rfl <| .old rfl rfl <| .old rfl rfl <| .old rfl rfl <| .old rfl rfl <| .old rfl rfl <| .old rfl rfl <| .old rfl rfl <| .old rfl rfl <| .old rfl rfl <| .nil)
      obtain ⟨g18, e38, _⟩ := hk21.ex 18 rfl
      replace hfr21 := hfr21.cons e38
      replace hst21 := hst21.fin (L' := [_, _, _, _, _, _, _]) (.cons e38 <| .cons e38 <| .nil)
      try simp only [List.take_succ_cons, List.take_zero, List.drop_succ_cons, List.drop_zero, List.cons_append, List.nil_append, List.append_nil, List.length_cons, List.length_nil, Nat.zero_add, Nat.reduceAdd] at hst21
      replace hPN := hPN.mono hle21
      replace hMN := hMN.mono hle21
      replace hAN := hAN.mono hle21
      have hlh21 := hlh20.trans hle21
      clear hst20 hfr20 hk21
      refine hK35 _ _ ?_; clear hK35
      refine seq_any fun _ hK39 => ?_
      refine region_plain (fun _ => mixed) hst21 hfr21 (by kernel_rfl) (by kernel_rfl) (.cons rfl (ob_move rfl) <| .cons rfl (ob_move rfl) <| .cons rfl (ob_loadLA (j := 3) rfl rfl Tryd.isAgg25 Tryd.sizeOf25 rfl) <| .cons rfl (ob_callE rfl (.cons rfl <| .nil) Tryd.call12 (fun w m hK => by have hle_ := KC.le hK; have hA := KC.agree hK; have hPN := hPN.mono hle_; exact right_c (promptN li lj tl) hA hPN)) <| .cons rfl (ob_move rfl) <| .cons rfl (ob_eql rfl rfl) <| .cons rfl (ob_move rfl) <| .cons rfl (ob_move rfl) <| .cons rfl (ob_move rfl) <| .cons rfl (ob_eql rfl rfl) <| .cons rfl (ob_and rfl rfl rfl) <| .cons rfl (ob_beql rfl rfl Tryd.underlying4) <| .cons rfl (ob_and rfl rfl rfl) <| .cons rfl (ob_move rfl) <| .cons rfl (ob_loadLA (j := 4) rfl rfl Tryd.isAgg25 Tryd.sizeOf25 rfl) <| .cons rfl (ob_callE rfl (.cons rfl <| .nil) Tryd.call12 (fun w m hK => by have hle_ := KC.le hK; have hA := KC.agree hK; have hMN := hMN.mono hle_; exact right_c (matchN ga) hA hMN)) <| .cons rfl (ob_move rfl) <| .cons rfl (ob_gtr rfl rfl) <| .cons rfl (ob_move rfl) <| .cons rfl (ob_move rfl) <| .cons rfl (ob_not rfl) <| .cons rfl (ob_and rfl rfl rfl) <| .cons rfl (ob_beql rfl rfl Tryd.underlying4) <| .cons rfl (ob_and rfl rfl rfl) <| .cons rfl (ob_move rfl) <| .cons rfl (ob_loadLA (j := 6) rfl rfl Tryd.isAgg25 Tryd.sizeOf25 rfl) <| .cons rfl (ob_callE rfl (.cons rfl <| .nil) Tryd.call12 (fun w m hK => by have hle_ := KC.le hK; have hA := KC.agree hK; have hAN := hAN.mono hle_; exact right_c (aloneN li) hA hAN)) <| .cons rfl (ob_move rfl) <| .cons rfl (ob_eql rfl rfl) <| .cons rfl (ob_beql rfl rfl Tryd.underlying4) <| .cons rfl (ob_and rfl rfl rfl) <| .cons rfl (ob_move rfl) <| .cons rfl (ob_loadLA (j := 3) rfl rfl Tryd.isAgg25 Tryd.sizeOf25 rfl) <| .cons rfl (ob_callE rfl (.cons rfl <| .nil) Tryd.call16 (fun w m hK => by have hle_ := KC.le hK; have hA := KC.agree hK; have hPN := hPN.mono hle_; exact rright_c (promptN li lj tl) hA hPN)) <| .cons rfl (ob_loadLA (j := 3) rfl rfl Tryd.isAgg25 Tryd.sizeOf25 rfl) <| .cons rfl (ob_callE rfl (.cons rfl <| .nil) Tryd.call12 (fun w m hK => by have hle_ := KC.le hK; have hA := KC.agree hK; have hPN := hPN.mono hle_; exact right_c (promptN li lj tl) hA hPN)) <| .cons rfl (ob_beql rfl rfl Tryd.underlying4) <| .cons rfl (ob_and rfl rfl rfl) <| .cons rfl (ob_assign rfl) <| .nil) ?_
      intro a22 w22 m22 hst22 hle22 hk22
      have hfr22 := hk22.fr (T' := [(17, _), (8, _)]) (.old rfl rfl <| .new rfl <| .nil)
      have hlh22 := hlh21.trans hle22
      clear hst21 hfr21 hk22
      refine hK39 _ _ ?_; clear hK39
      refine wp_ret ?_
      repeat (with_reducible first | refine then_ret ?_ | refine block_ret ?_)
      exact fn_ret hst22 hfr22 rfl (.tmp rfl <| .nil) (by refine congrArg Value.bool ?_; rw [right_promptN hoi hoj, hlen_ga, right_matchN hkc3 hoj, right_aloneN hoi, hb47]; simp [dN1, dN2])
  · try simp only [nq1, nq2, nq3, nq4, nq5, nq6, nq7, nq8, nq9, u8_eq] at hb47
    refine wp_skip ?_
    refine hK21 _ _ ?_; clear hK21
    refine seq_any fun _ hK41 => ?_
    refine region_cut 2 (by kernel_rfl) ?_
    refine ops_seq (tch := []) hst13 hfr13 (by kernel_rfl) (by kernel_rfl) (by kernel_rfl) (.cons rfl (ob_loadLA (j := 0) rfl rfl Tryd.isAgg25 Tryd.sizeOf25 rfl) <| .cons rfl (ob_buildSlice1 rfl Tryd.underlying22 Tryd.sizeOf25 Tryd.zeroValue25 rfl rfl rfl rfl) <| .nil) ?_
    intro a14 w14 m14 hst14 hle14 hk14
    have hfr14 := hk14.fr (T' := [(2, _), (9, _), (10, _), (0, _), (1, _), (3, _), (11, _), (12, _), (14, _), (15, _)]) (.old rfl rfl <| .old rfl rfl <| .old rfl rfl <| .old rfl rfl <| .old rfl rfl <| .old rfl rfl <| .old rfl rfl <| .old rfl rfl <| .old rfl rfl <| .old rfl rfl <| .nil)
    obtain ⟨gK, e42, hK9⟩ := hk14.ex 49 rfl
    replace hfr14 := hfr14.cons e42
    replace hnm := hnm.mono hle14
    replace hSj := hSj.mono hle14
    replace hone := hone.mono hle14
    replace hPN := hPN.mono hle14
    clear hst13 hfr13 hk14
    replace hst14 := hst14.more (r := .free) trivial List.nodup_nil (by simp [Res.blocks])
    refine ops_seq (tch := [(1, 4, (fun v => .blk v _)), (2, 4, (fun v => .blk v _))]) hst14 hfr14 (by kernel_rfl) (by kernel_rfl) (by kernel_rfl) (.cons rfl (ob_buildS (cs := cdV (matchN []) ⟨some ⟨gK, 0, none⟩, 1, none, 0⟩) (.cons rfl <| .cons rfl <| .nil) Tryd.underlying25 Tryd.zeroValue25 (.cons Tryd.sizeOf3 <| .cons Tryd.sizeOf9 <| .cons Tryd.sizeOf9 <| .cons Tryd.sizeOf3 <| .cons Tryd.sizeOf22 <| .cons Tryd.sizeOf23 <| .nil) (rfl)) <| .consT rfl rfl (fun _ => rfl) rfl (ob_allocL Tryd.zeroValue25 rfl) <| .consT rfl rfl (fun _ => rfl) rfl (ob_imgT 16 rfl rfl rfl fun y16 => ob_storeF rfl rfl rfl rfl rfl Tryd.sizeOf25 rfl rfl rfl) <| .nil) ?_
    intro a15 w15 m15 hst15 hle15 hk15
    have hfr15 := hk15.fr (T' := [(2, _), (9, _), (10, _), (0, _), (1, _), (3, _), (11, _), (12, _), (14, _), (15, _), (49, _)]) (.old rfl rfl <| .old rfl rfl <| .old rfl rfl <| .old rfl rfl <| .old rfl rfl <| .old rfl rfl <| .old rfl rfl <| .old rfl rfl <| .old rfl rfl <| .old rfl rfl <| .old rfl rfl <| .nil)
    obtain ⟨g16, e43, _⟩ := hk15.ex 16 rfl
    replace hfr15 := hfr15.cons e43
    replace hst15 := hst15.fin (L' := [_, _, _, _, _]) (.cons e43 <| .cons e43 <| .nil)
    try simp only [List.take_succ_cons, List.take_zero, List.drop_succ_cons, List.drop_zero, List.cons_append, List.nil_append, List.append_nil, List.length_cons, List.length_nil, Nat.zero_add, Nat.reduceAdd] at hst15
    replace hnm := hnm.mono hle15
    replace hSj := hSj.mono hle15
    replace hone := hone.mono hle15
    replace hPN := hPN.mono hle15
    replace hK9 := hK9.mono hle15
    clear hst14 hfr14 hk15
    have hst15 := hst15.more (r := .rowx (.slice none 0 0) 0 9 35 (MP.reads (fun m vs t => CaR m t vs) 9 [])) rowx_new List.nodup_nil (by simp [Res.blocks, rowBlock])
    have hsl_ar : Cas m15 none ([] : List Ca).length 0 ([] : List Ca) := Sl.empty
    refine hK41 _ _ ?_; clear hK41
    refine seq_any fun _ hK44 => ?_
    refine seq_any fun _ hK45 => ?_
    refine rp0 hst15 hfr15 (.cons rfl (ob_assign rfl) <| .nil) ?_
    intro a16 w16 m16 hst16 hle16 hk16
    have hfr16 := hk16.fr (T' := [(2, _), (9, _), (10, _), (0, _), (1, _), (3, _), (11, _), (12, _), (14, _), (15, _), (16, _), (17, _)]) (.old rfl rfl <| .old rfl rfl <| .old rfl rfl <| .old rfl rfl <| .old rfl rfl <| .old rfl rfl <| .old rfl rfl <| .old rfl rfl <| .old rfl rfl <| .old rfl rfl <| .old rfl rfl <| .new rfl <| .nil)
    replace hnm := hnm.mono hle16
    replace hSj := hSj.mono hle16
    replace hone := hone.mono hle16
    replace hPN := hPN.mono hle16
    replace hK9 := hK9.mono hle16
    replace hsl_ar := hsl_ar.mono hle16
    clear hst15 hfr15 hk16
    refine hK45 _ _ ?_; clear hK45
    refine wp_block ?_
    refine loop_any (T := [(2, _), (9, _), (10, _), (0, _), (1, _), (3, _), (11, _), (12, _), (14, _), (15, _), (16, _)]) (fun (y : Nat × Option Addr × Nat × List Ca) => ([(17, .int .i64 (y.1 : Int))] : List (Nat × Value))) (fun y => [_, _, _, _, .blk (.pointer (some ⟨g16, 0, none⟩)) (.cells (cdV (matchN y.2.2.2) ⟨some ⟨gK, 0, none⟩, 1, y.2.1, y.2.2.1⟩).toArray 25), .rowx (nz (.slice y.2.1 y.2.2.2.length y.2.2.1)) y.2.2.2.length 9 35 (MP.reads (fun m vs t => CaR m t vs) 9 y.2.2.2)]) (fun (y : Nat × Option Addr × Nat × List Ca) m => (fun (y : Nat) (gao : Option Addr) (gap : Nat) (ga : List Ca) => (y ≤ kc) ∧ (Cas m gao ga.length gap ga) ∧ (ga = armsN lj tl y)) y.1 y.2.1 y.2.2.1 y.2.2.2) (fun y => kc - y.1) ((0, none, 0, ([] : List Ca))) ⟨hst16, MLe.refl _, hfr16.sub (.cons rfl <| .cons rfl <| .cons rfl <| .cons rfl <| .cons rfl <| .cons rfl <| .cons rfl <| .cons rfl <| .cons rfl <| .cons rfl <| .cons rfl <| .cons rfl <| .nil), ⟨Nat.zero_le _, hsl_ar, rfl⟩⟩ fun y a17 w17 m17 hh17 => ?_
    have hst17 := hh17.st; have hle17 := hh17.le; have hfr17 := hh17.fr; have hrel := hh17.rel; clear hh17
    replace hnm := hnm.mono hle17
    replace hSj := hSj.mono hle17
    replace hone := hone.mono hle17
    replace hPN := hPN.mono hle17
    replace hK9 := hK9.mono hle17
    clear hst16 hfr16
    obtain ⟨y, gao, gap, ga⟩ := y
    dsimp only at hrel hfr17 hst17
    obtain ⟨hyn, hsl_ga, hlen_ga⟩ := hrel
    have hlh17 := hle17
    refine seq_any fun _ hK47 => ?_
    refine seq_any fun _ hK48 => ?_
    refine rp0 hst17 hfr17 (.cons rfl (ob_move rfl) <| .cons rfl (ob_move rfl) <| .cons rfl (ob_lss rfl rfl) <| .nil) ?_
    intro a18 w18 m18 hst18 hle18 hk18
    have hfr18 := hk18.fr (T' := [(17, _), (2, _), (9, _), (10, _), (0, _), (1, _), (3, _), (11, _), (12, _), (14, _), (15, _), (16, _), (53, _)]) (.old rfl rfl <| .old rfl rfl <| .old rfl rfl <| .old rfl rfl <| .old rfl rfl <| .old rfl rfl <| .old rfl rfl <| .old rfl rfl <| .old rfl rfl <| .old rfl rfl <| .old rfl rfl <| .old rfl rfl <| .new rfl <| .nil)
    replace hnm := hnm.mono hle18
    replace hSj := hSj.mono hle18
    replace hone := hone.mono hle18
    replace hPN := hPN.mono hle18
    replace hK9 := hK9.mono hle18
    replace hsl_ga := hsl_ga.mono hle18
    have hlh18 := hlh17.trans hle18
    clear hst17 hfr17 hk18
    refine hK48 _ _ ?_; clear hK48
    refine cond_any hfr18 rfl rfl (fun hb53 => ?_) (fun hb53 => ?_)
    · try simp only [nq1, nq2, nq3, nq4, nq5, nq6, nq7, nq8, nq9, u8_eq] at hb53
      refine wp_skip ?_
      refine hK47 _ _ ?_; clear hK47
      refine seq_any fun _ hK49 => ?_
      refine wp_block ?_
      have hma9 : (matchN ga).arms.length = ga.length := rfl
      have hlg9 : ga.length = y := by rw [hlen_ga]; simp [armsN]
      have hct50 : Strs _ _ _ _ ((names5.take (lj.length)).drop (0)) := hnm.cut (l := 0) (k := lj.length) (by omega) (by omega)
      have hcl50 : (lj.length) - (0) = (((names5.take (lj.length)).drop (0))).length := hct50.len.symm
      have hcu50 : Strs _ _ _ _ ((names5.take (lj.length)).drop (0)) := hct50.lenL
      refine region_any (tch := [(13, 5, (fun v => .rowx (nz v) _ _ _ _)), (15, 4, (fun u => .blk _ (.cells (_ ++ [u] ++ _).toArray _)))]) (fun _ => mixed) hst18 hfr18 (by kernel_rfl) (by kernel_rfl) (by kernel_rfl) (.cons rfl (ob_fieldAddrO (off := 5) rfl Tryd.underlying25 rfl rfl Tryd.sizeOf23 rfl) <| .cons rfl (ob_loadL (j := 4) rfl rfl Tryd.isAgg23 rfl) <| .cons rfl (ob_move rfl) <| .cons rfl (ob_move rfl) <| .cons rfl (ob_slice (l := 0) (h := lj.length) rfl .none (.some rfl (by omega)) Tryd.underlying29 Tryd.sizeOf9 (by first | omega | (dsimp only; omega)) (by first | omega | (dsimp only; omega))) <| .cons rfl (ob_move rfl) <| .cons rfl (ob_move rfl) <| .cons rfl (ob_move rfl) <| .cons rfl (ob_eql rfl rfl) <| .cons rfl (ob_and rfl rfl rfl) <| .cons rfl (ob_loadLA (j := 0) rfl rfl Tryd.isAgg25 Tryd.sizeOf25 rfl) <| .cons rfl (ob_buildS (cs := (S [67] :: .slice (if 5 = 0 then some ⟨gN, 0, none⟩ else Option.map (fun (x : Addr) => x.add (0 * 1)) (some ⟨gN, 0, none⟩)) lj.length (5 - 0) :: .bool (tl && decide ((y : Int) = 0)) :: unitV)) (.cons rfl <| .cons rfl <| .cons rfl <| .cons rfl <| .nil) Tryd.underlying35 Tryd.zeroValue35 (.cons Tryd.sizeOf9 <| .cons Tryd.sizeOf29 <| .cons Tryd.sizeOf4 <| .cons Tryd.sizeOf25 <| .nil) (rfl)) <| .cons rfl (ob_buildSlice1 rfl Tryd.underlying23 Tryd.sizeOf35 Tryd.zeroValue35 rfl rfl rfl rfl) <| .consT rfl rfl (fun _ => rfl) rfl (ob_imgT 68 rfl rfl rfl fun y68 => ob_appendX (size := 9) (bytes := 144) (l := ga) (l' := [armN [67] lj (tl && decide ((y : Int) = 0))]) rfl rfl (fun _ => by first | exact .inl rfl | exact .inr (.inl rfl)) Tryd.underlying23 Tryd.type35 rfl rfl rfl rfl (fun w m hK => Sl.one (R := fun m vs t => CaR m t vs) hK.2 rfl (armN_R (hSj.mono (KC.le hK)))) rfl (by decide) (by simp only [maxLen]; omega) (by omega)) <| .cons rfl (ob_fieldAddrO (off := 5) rfl Tryd.underlying25 rfl rfl Tryd.sizeOf23 rfl) <| .consT rfl rfl (fun _ => rfl) rfl (ob_imgT 69 rfl rfl rfl fun y69 => ob_storeV rfl rfl rfl rfl rfl Tryd.sizeOf23 rfl rfl rfl) <| .nil) ?_
      intro a19 w19 m19 hst19 hle19 hk19
      have hfr19 := hk19.fr (T' := [(17, _), (2, _), (9, _), (10, _), (0, _), (1, _), (3, _), (11, _), (12, _), (14, _), (15, _), (16, _)]) (.old rfl rfl <| .old rfl rfl <| .old rfl rfl <| .old rfl rfl <| .old rfl rfl <| .old rfl rfl <| .old rfl rfl <| .old rfl rfl <| .old rfl rfl <| .old rfl rfl <| .old rfl rfl <| .old rfl rfl <| .nil)
      obtain ⟨⟨ar_51o, ar_51p⟩, e52, hsl_ar_51⟩ := hk19.ex 69 rfl
      replace hst19 := hst19.fin (L' := [_, _, _, _, _, _]) (.cons e52 <| .cons e52 <| .nil)
      try simp only [List.take_succ_cons, List.take_zero, List.drop_succ_cons, List.drop_zero, List.cons_append, List.nil_append, List.append_nil, List.length_cons, List.length_nil, Nat.zero_add, Nat.reduceAdd] at hst19
      have hlh19 := hlh18.trans hle19
      clear hst18 hfr18 hk19
      replace hsl_ar_51 : Cas m19 ar_51o (ga ++ [armN [67] lj (tl && decide ((y : Int) = 0))]).length ar_51p (ga ++ [armN [67] lj (tl && decide ((y : Int) = 0))]) := hsl_ar_51
      refine hK49 _ _ ?_; clear hK49
      refine rp0 hst19 hfr19 (.cons rfl (ob_move rfl) <| .cons rfl (ob_add rfl rfl ⟨by omega, by omega⟩) <| .cons rfl (ob_assign rfl) <| .nil) ?_
      intro a20 w20 m20 hst20 hle20 hk20
      have hfr20 := hk20.fr (T' := [(2, _), (9, _), (10, _), (0, _), (1, _), (3, _), (11, _), (12, _), (14, _), (15, _), (16, _), (17, _)]) (.old rfl rfl <| .old rfl rfl <| .old rfl rfl <| .old rfl rfl <| .old rfl rfl <| .old rfl rfl <| .old rfl rfl <| .old rfl rfl <| .old rfl rfl <| .old rfl rfl <| .old rfl rfl <| .new rfl <| .nil)
      replace hsl_ar_51 := hsl_ar_51.mono hle20
      have hlh20 := hlh19.trans hle20
      clear hst19 hfr19 hk20
      exact ⟨(y + 1, ar_51o, ar_51p, (ga ++ [armN [67] lj (tl && decide ((y : Int) = 0))])), m20, by show kc - (y + 1) < kc - y; omega, ⟨hst20, hlh20, hfr20.sub (.cons rfl <| .cons rfl <| .cons rfl <| .cons rfl <| .cons rfl <| .cons rfl <| .cons rfl <| .cons rfl <| .cons rfl <| .cons rfl <| .cons rfl <| .cons rfl <| .nil), ⟨by show y + 1 ≤ kc; omega, hsl_ar_51, by rw [hlen_ga]; exact (armsN_succ lj tl y).symm⟩⟩⟩
    · try simp only [nq1, nq2, nq3, nq4, nq5, nq6, nq7, nq8, nq9, u8_eq] at hb53
      have hge : y = kc := by omega
      subst hge
      refine wp_exit ?_
      refine hK44 _ _ ?_; clear hK44
      refine seq_any fun _ hK53 => ?_
      refine region_cut 4 (by kernel_rfl) ?_
      have hMN : CdR m18 (matchN ga) (cdV (matchN ga) ⟨some ⟨gK, 0, none⟩, 1, gao, gap⟩) := nodeZ_R ⟨by decide, by decide⟩ hK9 unit_R hsl_ga
      have hma9 : (matchN ga).arms.length = ga.length := rfl
      refine ops_seq (tch := []) hst18 hfr18 (by kernel_rfl) (by kernel_rfl) (by kernel_rfl) (.cons rfl (ob_loadLA (j := 0) rfl rfl Tryd.isAgg25 Tryd.sizeOf25 rfl) <| .cons rfl (ob_buildSlice1 rfl Tryd.underlying22 Tryd.sizeOf25 Tryd.zeroValue25 rfl rfl rfl rfl) <| .cons rfl (ob_loadLA (j := 1) rfl rfl Tryd.isAgg35 Tryd.sizeOf35 rfl) <| .cons rfl (ob_buildSlice1 rfl Tryd.underlying23 Tryd.sizeOf35 Tryd.zeroValue35 rfl rfl rfl rfl) <| .nil) ?_
      intro a19 w19 m19 hst19 hle19 hk19
      have hfr19 := hk19.fr (T' := [(17, _), (2, _), (9, _), (10, _), (0, _), (1, _), (3, _), (11, _), (12, _), (14, _), (15, _), (16, _)]) (.old rfl rfl <| .old rfl rfl <| .old rfl rfl <| .old rfl rfl <| .old rfl rfl <| .old rfl rfl <| .old rfl rfl <| .old rfl rfl <| .old rfl rfl <| .old rfl rfl <| .old rfl rfl <| .old rfl rfl <| .nil)
      obtain ⟨gX, e54, hX9⟩ := hk19.ex 72 rfl
      replace hfr19 := hfr19.cons e54
      obtain ⟨gY, e55, hY9⟩ := hk19.ex 74 rfl
      replace hfr19 := hfr19.cons e55
      replace hone := hone.mono hle19
      replace hPN := hPN.mono hle19
      replace hMN := hMN.mono hle19
      have hlh19 := hlh18.trans hle19
      clear hst18 hfr18 hk19
      have hAN : CdR m19 (aloneN li) _ := nodeZ_R (az := [armN retS li false]) ⟨by decide, by decide⟩ hX9 unit_R (Sl.one (R := fun m vs t => CaR m t vs) hY9 hone.len hone)
      replace hst19 := hst19.more (r := .free) trivial List.nodup_nil (by simp [Res.blocks])
      refine ops_seq (tch := [(1, 6, (fun v => .blk v _)), (2, 6, (fun v => .blk v _))]) hst19 hfr19 (by kernel_rfl) (by kernel_rfl) (by kernel_rfl) (.cons rfl (ob_buildS (cs := cdV (aloneN li) ⟨some ⟨gX, 0, none⟩, 1, some ⟨gY, 0, none⟩, 1⟩) (.cons rfl <| .cons rfl <| .cons rfl <| .cons rfl <| .nil) Tryd.underlying25 Tryd.zeroValue25 (.cons Tryd.sizeOf3 <| .cons Tryd.sizeOf9 <| .cons Tryd.sizeOf9 <| .cons Tryd.sizeOf3 <| .cons Tryd.sizeOf22 <| .cons Tryd.sizeOf23 <| .nil) (rfl)) <| .consT rfl rfl (fun _ => rfl) rfl (ob_allocL Tryd.zeroValue25 rfl) <| .consT rfl rfl (fun _ => rfl) rfl (ob_imgT 18 rfl rfl rfl fun y18 => ob_storeF rfl rfl rfl rfl rfl Tryd.sizeOf25 rfl rfl rfl) <| .nil) ?_
      intro a20 w20 m20 hst20 hle20 hk20
      have hfr20 := hk20.fr (T' := [(17, _), (2, _), (9, _), (10, _), (0, _), (1, _), (3, _), (11, _), (12, _), (14, _), (15, _), (16, _), (72, _), (74, _)]) (.old rfl rfl <| .old rfl rfl <| .old rfl rfl <| .old rfl rfl <| .old rfl rfl <| .old rfl rfl <| .old rfl rfl <| .old rfl rfl <| .old rfl rfl <| .old rfl rfl <| .old rfl rfl <| .old rfl rfl <| .old rfl rfl <| .old rfl rfl <| .nil)
      obtain ⟨g18, e56, _⟩ := hk20.ex 18 rfl
      replace hfr20 := hfr20.cons e56
      replace hst20 := hst20.fin (L' := [_, _, _, _, _, _, _]) (.cons e56 <| .cons e56 <| .nil)
      try simp only [List.take_succ_cons, List.take_zero, List.drop_succ_cons, List.drop_zero, List.cons_append, List.nil_append, List.append_nil, List.length_cons, List.length_nil, Nat.zero_add, Nat.reduceAdd] at hst20
      replace hPN := hPN.mono hle20
      replace hMN := hMN.mono hle20
      replace hAN := hAN.mono hle20
      have hlh20 := hlh19.trans hle20
      clear hst19 hfr19 hk20
      refine hK53 _ _ ?_; clear hK53
      refine seq_any fun _ hK57 => ?_
      refine region_plain (fun _ => mixed) hst20 hfr20 (by kernel_rfl) (by kernel_rfl) (.cons rfl (ob_move rfl) <| .cons rfl (ob_move rfl) <| .cons rfl (ob_loadLA (j := 3) rfl rfl Tryd.isAgg25 Tryd.sizeOf25 rfl) <| .cons rfl (ob_callE rfl (.cons rfl <| .nil) Tryd.call12 (fun w m hK => by have hle_ := KC.le hK; have hA := KC.agree hK; have hPN := hPN.mono hle_; exact right_c (promptN li lj tl) hA hPN)) <| .cons rfl (ob_move rfl) <| .cons rfl (ob_eql rfl rfl) <| .cons rfl (ob_move rfl) <| .cons rfl (ob_move rfl) <| .cons rfl (ob_move rfl) <| .cons rfl (ob_eql rfl rfl) <| .cons rfl (ob_and rfl rfl rfl) <| .cons rfl (ob_beql rfl rfl Tryd.underlying4) <| .cons rfl (ob_and rfl rfl rfl) <| .cons rfl (ob_move rfl) <| .cons rfl (ob_loadLA (j := 4) rfl rfl Tryd.isAgg25 Tryd.sizeOf25 rfl) <| .cons rfl (ob_callE rfl (.cons rfl <| .nil) Tryd.call12 (fun w m hK => by have hle_ := KC.le hK; have hA := KC.agree hK; have hMN := hMN.mono hle_; exact right_c (matchN ga) hA hMN)) <| .cons rfl (ob_move rfl) <| .cons rfl (ob_gtr rfl rfl) <| .cons rfl (ob_move rfl) <| .cons rfl (ob_move rfl) <| .cons rfl (ob_not rfl) <| .cons rfl (ob_and rfl rfl rfl) <| .cons rfl (ob_beql rfl rfl Tryd.underlying4) <| .cons rfl (ob_and rfl rfl rfl) <| .cons rfl (ob_move rfl) <| .cons rfl (ob_loadLA (j := 6) rfl rfl Tryd.isAgg25 Tryd.sizeOf25 rfl) <| .cons rfl (ob_callE rfl (.cons rfl <| .nil) Tryd.call12 (fun w m hK => by have hle_ := KC.le hK; have hA := KC.agree hK; have hAN := hAN.mono hle_; exact right_c (aloneN li) hA hAN)) <| .cons rfl (ob_move rfl) <| .cons rfl (ob_eql rfl rfl) <| .cons rfl (ob_beql rfl rfl Tryd.underlying4) <| .cons rfl (ob_and rfl rfl rfl) <| .cons rfl (ob_move rfl) <| .cons rfl (ob_loadLA (j := 3) rfl rfl Tryd.isAgg25 Tryd.sizeOf25 rfl) <| .cons rfl (ob_callE rfl (.cons rfl <| .nil) Tryd.call16 (fun w m hK => by have hle_ := KC.le hK; have hA := KC.agree hK; have hPN := hPN.mono hle_; exact rright_c (promptN li lj tl) hA hPN)) <| .cons rfl (ob_loadLA (j := 3) rfl rfl Tryd.isAgg25 Tryd.sizeOf25 rfl) <| .cons rfl (ob_callE rfl (.cons rfl <| .nil) Tryd.call12 (fun w m hK => by have hle_ := KC.le hK; have hA := KC.agree hK; have hPN := hPN.mono hle_; exact right_c (promptN li lj tl) hA hPN)) <| .cons rfl (ob_beql rfl rfl Tryd.underlying4) <| .cons rfl (ob_and rfl rfl rfl) <| .cons rfl (ob_assign rfl) <| .nil) ?_
      intro a21 w21 m21 hst21 hle21 hk21
      have hfr21 := hk21.fr (T' := [(17, _), (8, _)]) (.old rfl rfl <| .new rfl <| .nil)
      have hlh21 := hlh20.trans hle21
      clear hst20 hfr20 hk21
      refine hK57 _ _ ?_; clear hK57
      refine wp_ret ?_
      repeat (with_reducible first | refine then_ret ?_ | refine block_ret ?_)
      exact fn_ret hst21 hfr21 rfl (.tmp rfl <| .nil) (by refine congrArg Value.bool ?_; rw [right_promptN hoi hoj, hlen_ga, right_matchN hkc3 hoj, right_aloneN hoi, hb47]; simp [dN1, dN2])

end Go.Proofs.YtlihpgjabohebaaDoor
