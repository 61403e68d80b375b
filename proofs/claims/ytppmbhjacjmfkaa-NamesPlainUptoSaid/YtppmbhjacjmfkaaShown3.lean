/-
  Names: what must be in any case; plain laws. Conditions: those of each theorem.
-/
import Derived.Test.YtppmbhjacjmfkaaLast3
namespace Go.Proofs.Ytppmbhjacjmfkaa
set_option linter.all false
set_option maxRecDepth 4000
open Go.RowKit
def funT (s : Str) (t : Tm) : Tm := ⟨5, 0, s, [], 0, [t], [], ⟨[], 0⟩⟩
def letT (s : Str) (t u : Tm) : Tm := ⟨7, 0, s, [], 0, [t, u], [], ⟨[], 0⟩⟩
theorem ShT.leaf {t : Tm} (h1 : t.kids = []) (h2 : t.arms = []) : ShT t := .mk ⟨fun _ => by rw [h1]; exact Nat.zero_le _, fun _ => by rw [h1]; exact Nat.zero_le _⟩ (fun u hu => by rw [h1] at hu; cases hu) (fun a ha => by rw [h2] at ha; cases ha)
theorem ShT.var (s : Str) : ShT (varT s) := .leaf rfl rfl
theorem ShT.fun_ (s : Str) {t : Tm} (h : ShT t) : ShT (funT s t) := .mk ⟨fun _ => Nat.le_refl _, fun h => by cases h⟩ (fun u hu => by rw [show (funT s t).kids = [t] from rfl, List.mem_singleton] at hu; subst hu; exact h) (fun a ha => by cases ha)
theorem ShT.call {t u : Tm} (h : ShT t) (h2 : ShT u) : ShT (callT t u) := .mk ⟨fun h => (by cases h), fun h => (by cases h)⟩ (fun v hv => by
  rcases List.mem_cons.1 hv with rfl | hv
  · exact h
  · rw [List.mem_singleton] at hv; subst hv; exact h2) (fun a ha => by cases ha)
theorem ShT.let_ (s : Str) {t u : Tm} (h : ShT t) (h2 : ShT u) : ShT (letT s t u) := .mk ⟨fun h => (by cases h), fun h => (by cases h)⟩ (fun v hv => by
  rcases List.mem_cons.1 hv with rfl | hv
  · exact h
  · rw [List.mem_singleton] at hv; subst hv; exact h2) (fun a ha => by cases ha)
theorem count_fun (s : Str) (t : Tm) : countM (funT s t) = countM t + 1 := by rw [countM_eq]; show 1 + (countM t + 0) + 0 = _; omega
theorem count_call (t u : Tm) : countM (callT t u) = countM t + countM u + 1 := by rw [countM_eq]; show 1 + (countM t + (countM u + 0)) + 0 = _; omega
theorem count_let (s : Str) (t u : Tm) : countM (letT s t u) = countM t + countM u + 1 := by rw [countM_eq]; show 1 + (countM t + (countM u + 0)) + 0 = _; omega
theorem uses_var (s x : Str) : usesM s (varT x) = if x = s then 1 else 0 := by rw [usesM_eq, if_pos (show (varT x).kind = 1 from rfl)]; rfl
theorem uses_call (s : Str) (t u : Tm) : usesM s (callT t u) = usesM s t + usesM s u := by
  rw [usesM_eq, if_neg (by show ¬ (6 : Int) = 1; decide)]
  show (if s = uS ∨ ¬ s ∈ boundR 6 [] [] 0 then usesM s t else 0) + ((if s = uS ∨ ¬ s ∈ boundR 6 [] [] 1 then usesM s u else 0) + 0) + 0 = _
  have h : ∀ i, boundR 6 [] [] i = [] := fun i => rfl
  rw [h, h, if_pos (.inr (by simp)), if_pos (.inr (by simp))]; omega
theorem uses_fun (s x : Str) (t : Tm) : usesM s (funT x t) = if s = uS ∨ ¬ s = x then usesM s t else 0 := by
  rw [usesM_eq, if_neg (by show ¬ (5 : Int) = 1; decide)]
  show (if s = uS ∨ ¬ s ∈ [x] then usesM s t else 0) + 0 + 0 = _
  by_cases h : s = uS ∨ ¬ s = x
  · rw [if_pos h, if_pos (h.imp id fun h h2 => h (List.mem_singleton.1 h2))]; rfl
  · rw [if_neg h, if_neg (fun h2 => h (h2.imp id fun h2 h3 => h2 (List.mem_singleton.2 h3)))]
theorem uses_let (s x : Str) (t u : Tm) : usesM s (letT x t u) = usesM s t + if s = uS ∨ ¬ s = x then usesM s u else 0 := by
  rw [usesM_eq, if_neg (by show ¬ (7 : Int) = 1; decide)]
  show (if s = uS ∨ ¬ s ∈ ([] : List Str) then usesM s t else 0) + ((if s = uS ∨ ¬ s ∈ [x] then usesM s u else 0) + 0) + 0 = _
  rw [if_pos (show s = uS ∨ ¬ s ∈ ([] : List Str) from .inr (by simp))]
  by_cases h : s = uS ∨ ¬ s = x
  · rw [if_pos h, if_pos (h.imp id fun h h2 => h (List.mem_singleton.1 h2))]; omega
  · rw [if_neg h, if_neg (fun h2 => h (h2.imp id fun h2 h3 => h2 (List.mem_singleton.2 h3)))]
theorem fun_R {m : Mem} {s : Str} {t : Tm} {g : Nat} {vs : List Value} (hc : CellsAt m ⟨g, 0, none⟩ vs) (h : TmR m t vs) : TmR m (funT s t) (tmV (funT s t) (TmY.zero (some ⟨g, 0, none⟩) 1 none 0)) :=
  TmR.build TmY.zero_one (Sl.one (R := fun m vs t => TmR m t vs) hc h.len h) Sl.empty ⟨_, _, rfl, Sl.empty, inI0⟩
theorem let_R {m : Mem} {s : Str} {t u : Tm} {g : Nat} {vs us : List Value} (hc : CellsAt m ⟨g, 0, none⟩ (vs ++ us)) (h : TmR m t vs) (h2 : TmR m u us) : TmR m (letT s t u) (tmV (letT s t u) (TmY.zero (some ⟨g, 0, none⟩) 2 none 0)) :=
  TmR.build TmY.zero_one (Sl.two (R := fun m vs t => TmR m t vs) hc h.len h2.len h h2) Sl.empty ⟨_, _, rfl, Sl.empty, inI0⟩
theorem putL_over : ∀ (vs z p : List Value), vs.length = z.length → putL (p ++ z) p.length vs = p ++ vs
  | [], z, p, h => by
    obtain rfl : z = [] := List.eq_nil_of_length_eq_zero h.symm
    rfl
  | v :: vs, z, p, h => by
    cases z with
    | nil => cases h
    | cons y z =>
      have ih := putL_over vs z (p ++ [v]) (by simpa using h)
      rw [putL, show (p ++ y :: z).set p.length v = (p ++ [v]) ++ z by simp, show p.length + 1 = (p ++ [v]).length by simp, ih]
      simp
theorem putL_ar {a b : Value} {z u vs : List Value} (hu : u.length = 1) (h : vs.length = z.length) : putL (putL (a :: b :: z) 1 u) 2 vs = a :: (u ++ vs) := by
  match u, hu with
  | [v], _ =>
    have := putL_over vs z [a, v] h
    simpa [putL] using this
theorem putL_ar3 {a b : Value} {z t u vs : List Value} (ht : t.length = 1) (hu : u.length = 1) (h : vs.length = z.length) : putL (putL (putL (a :: b :: z) 0 t) 1 u) 2 vs = t ++ (u ++ vs) := by
  match t, ht with
  | [x], _ => exact putL_ar (a := x) hu h
theorem free_shown : freeT (funT [120] (callT (varT [121]) (varT [120]))) = [[121]] := by decide
def shA : Ar := ⟨[], [[120], [107]], callT (varT [107]) (varT [120])⟩
def shB : Ar := ⟨[], [[120], [107]], callT (varT [107]) (callT (varT [107]) (varT [120]))⟩
theorem last_shA : lastP shA = (varT [120], true) := lastP_yes (by decide) rfl
theorem last_shB : lastP shB = (zeroT, false) := lastP_no (by decide)
theorem ar_R {m : Mem} {t : Tm} {g : Nat} {l : List Str} {n : Str} {vs : List Value} (hc : Strs m (some ⟨g, 0, none⟩) l.length l.length l) (h : TmR m t vs) : ArR m ⟨n, l, t⟩ (S n :: .slice (some ⟨g, 0, none⟩) l.length l.length :: vs) := ⟨_, _, _, rfl, hc, h⟩
set_option maxHeartbeats 400000 in
theorem shown_c {w : World} {m : Mem}  (hA : Agree w m)  : FnV Try.prog 8 #[] w m (fun _ _ v => v = .bool true) := by
  refine fn_enter (vs := []) Try.func8 rfl rfl rfl fun a0 hfr0 => ?_
  have hst0 := st_enter hA (loc_nil [] _ w m)
  have hM : MLe m m := MLe.refl m
  refine seq_any fun _ hK1 => ?_
  refine rp0 hst0 hfr0 (.cons rfl (ob_assign rfl) <| .nil) ?_
  intro a1 w1 m1 hst1 hle1 hk1
  have hfr1 := hk1.fr (T' := []) (.nil)
  clear hst0 hfr0 hk1
  refine hK1 _ _ ?_; clear hK1
  refine seq_any fun _ hK2 => ?_
  refine region_cut 5 (by kernel_rfl) ?_
  refine ops_seq (tch := []) hst1 hfr1 (by kernel_rfl) (by kernel_rfl) (by kernel_rfl) (.cons rfl (ob_call (φ := MP.tm (varT [121])) rfl (.cons rfl <| .nil) Try.call11 (fun w m hK => by have hle_ := KC.le hK; have hA := KC.agree hK; exact FnG.mono (v_c (s := [121]) hA) fun _ _ _ _ h => h)) <| .cons rfl (ob_call (φ := MP.tm (varT [120])) rfl (.cons rfl <| .nil) Try.call11 (fun w m hK => by have hle_ := KC.le hK; have hA := KC.agree hK; exact FnG.mono (v_c (s := [120]) hA) fun _ _ _ _ h => h)) <| .cons rfl (ob_imgE 6 rfl rfl rfl fun y6 => ob_imgE 7 rfl rfl rfl fun y7 => ob_call (φ := MP.tm (callT (varT [121]) (varT [120]))) rfl (.cons rfl <| .cons rfl <| .nil) Try.call10 (fun w m hK => by have hle_ := KC.le hK; have hA := KC.agree hK; have hr0_ := hK.2; have hr1_ := hK.1.2; exact FnG.mono (call_c (f := (varT [121])) (a := (varT [120])) hA hr1_ hr0_) fun _ _ _ _ h => h)) <| .cons rfl (ob_imgI 8 rfl rfl rfl fun y8 => ob_buildSlice1 rfl Try.underlying24 Try.sizeOf33 Try.zeroValue33 rfl rfl rfl rfl) <| .cons rfl (ob_imgV 9 rfl rfl rfl fun y9 => ob_buildS (.cons rfl <| .cons rfl <| .cons rfl <| .nil) Try.underlying33 Try.zeroValue33 (.cons Try.sizeOf3 <| .cons Try.sizeOf3 <| .cons Try.sizeOf9 <| .cons Try.sizeOf9 <| .cons Try.sizeOf3 <| .cons Try.sizeOf24 <| .cons Try.sizeOf25 <| .cons Try.sizeOf31 <| .cons Try.sizeOf29 <| .cons Try.sizeOf31 <| .nil) rfl) <| .nil) ?_
  intro a2 w2 m2 hst2 hle2 hk2
  have hfr2 := hk2.fr (T' := []) (.nil)
  obtain ⟨⟨y8, g9⟩, e3, h8, h9⟩ := hk2.ex 10 rfl
  replace hfr2 := hfr2.cons e3
  clear hst1 hfr1 hk2
  have hfn := fun_R (s := [120]) h9 h8
  refine ops_seq (tch := []) hst2 hfr2 (by kernel_rfl) (by kernel_rfl) (by kernel_rfl) (.cons rfl (ob_call (φ := MP.strs (freeT (funT [120] (callT (varT [121]) (varT [120]))))) rfl (.cons rfl <| .nil) Try.call16 (fun w m hK => by have hle_ := KC.le hK; have hA := KC.agree hK; have hfn := hfn.mono hle_; exact FnG.mono (freeF_c (t := (funT [120] (callT (varT [121]) (varT [120])))) hA hfn (.fun_ _ (.call (.var _) (.var _))) (by decide)) fun _ _ _ _ h => h)) <| .consA 11 rfl rfl <| .nil) ?_
  intro a3 w3 m3 hst3 hle3 hk3
  have hfr3 := hk3.fr (T' := [(10, _)]) (.old rfl rfl <| .nil)
  obtain ⟨⟨oF, cF⟩, e4, hF⟩ := hk3.ex 11 rfl
  replace hfr3 := hfr3.cons e4
  replace hfr3 := hfr3.cons (hk3.same 1 rfl e4)
  clear hst2 hfr2 hk3
  dsimp only [MP.strs, MP.mem] at hF
  rw [free_shown] at hF
  dsimp only [MP.strs, MP.mem] at hfr3
  rw [free_shown] at hfr3
  refine hK2 _ _ ?_; clear hK2
  refine seq_any fun _ hK5 => ?_
  refine region_cut 5 (by kernel_rfl) ?_
  refine ops_seq (tch := []) hst3 hfr3 (by kernel_rfl) (by kernel_rfl) (by kernel_rfl) (.cons rfl (ob_buildSlice (.cons rfl <| .cons rfl <| .nil) Try.underlying27 Try.sizeOf9 Try.zeroValue9 rfl rfl rfl rfl) <| .cons rfl (ob_call (φ := MP.tm (varT [107])) rfl (.cons rfl <| .nil) Try.call11 (fun w m hK => by have hle_ := KC.le hK; have hA := KC.agree hK; exact FnG.mono (v_c (s := [107]) hA) fun _ _ _ _ h => h)) <| .cons rfl (ob_call (φ := MP.tm (varT [120])) rfl (.cons rfl <| .nil) Try.call11 (fun w m hK => by have hle_ := KC.le hK; have hA := KC.agree hK; exact FnG.mono (v_c (s := [120]) hA) fun _ _ _ _ h => h)) <| .cons rfl (ob_imgE 14 rfl rfl rfl fun y14 => ob_imgE 15 rfl rfl rfl fun y15 => ob_call (φ := MP.tm (callT (varT [107]) (varT [120]))) rfl (.cons rfl <| .cons rfl <| .nil) Try.call10 (fun w m hK => by have hle_ := KC.le hK; have hA := KC.agree hK; have hr0_ := hK.2; have hr1_ := hK.1.2; exact FnG.mono (call_c (f := (varT [107])) (a := (varT [120])) hA hr1_ hr0_) fun _ _ _ _ h => h)) <| .cons rfl (ob_imgI 13 rfl rfl rfl fun y13 => ob_imgV 16 rfl rfl rfl fun y16 => ob_buildS (.cons rfl <| .cons rfl <| .nil) Try.underlying40 Try.zeroValue40 (.cons Try.sizeOf9 <| .cons Try.sizeOf27 <| .cons Try.sizeOf33 <| .nil) rfl) <| .nil) ?_
  intro a4 w4 m4 hst4 hle4 hk4
  have hfr4 := hk4.fr (T' := [(10, _), (1, _)]) (.old rfl rfl <| .old rfl rfl <| .nil)
  obtain ⟨⟨g13, y16⟩, e6, h13, h16⟩ := hk4.ex 17 rfl
  replace hfr4 := hfr4.cons e6
  replace hF := hF.mono hle4
  clear hst3 hfr3 hk4
  dsimp only [MP.row, MP.tm, MP.mem] at hfr4
  rw [putL_ar (by rfl) (by rfl)] at hfr4
  have har : ArR m4 shA _ := ar_R (Sl.two (vs := [_]) (us := [_]) h13 rfl rfl rfl rfl) h16
  replace hst4 := hst4.more (r := .free) trivial List.nodup_nil (by simp [Res.blocks])
  refine ops_seq (tch := [(4, 0, (fun v => .blk v _)), (5, 0, (fun v => .blkx v _ _))]) hst4 hfr4 (by kernel_rfl) (by kernel_rfl) (by kernel_rfl) (.cons rfl (ob_call (φ := MP.lastV shA) rfl (.cons rfl <| .nil) Try.call12 (fun w m hK => by have hle_ := KC.le hK; have hA := KC.agree hK; have har := har.mono hle_; exact FnG.mono (last_c (a := shA) hA har (.call (.var _) (.var _)) (by decide)) fun _ _ _ _ h => h)) <| .cons rfl (ob_imgV 18 rfl rfl rfl fun y18 => ob_move rfl) <| .cons rfl (ob_imgV 12 rfl rfl rfl fun y12 => ob_extract rfl rfl) <| .cons rfl (ob_imgV 12 rfl rfl rfl fun y12 => ob_extract rfl rfl) <| .consT rfl rfl (fun _ => rfl) rfl (ob_allocL Try.zeroValue33 rfl) <| .consT rfl rfl (fun _ => rfl) rfl (ob_imgT 2 rfl rfl rfl fun y2 => ob_imgTX 19 rfl rfl rfl fun y19 => ob_storeKF rfl rfl rfl rfl rfl Try.sizeOf33 rfl rfl (fun w m hK => hK.2.1.one)) <| .consA 20 rfl rfl <| .nil) ?_
  intro a5 w5 m5 hst5 hle5 hk5
  have hfr5 := hk5.fr (T' := [(10, _), (1, _), (17, _)]) (.old rfl rfl <| .old rfl rfl <| .old rfl rfl <| .nil)
  obtain ⟨⟨⟨xb, yb⟩, qb⟩, e7, _, hqb⟩ := hk5.ex 20 rfl
  replace hfr5 := hfr5.cons e7
  obtain ⟨g8, e8, _⟩ := hk5.ex 2 rfl
  replace hfr5 := hfr5.cons e8
  replace hfr5 := hfr5.cons (hk5.same 3 rfl e7)
  replace hst5 := hst5.fin (L' := [_]) (.cons e8 <| .cons e8 <| .nil)
  try simp only [List.take_succ_cons, List.take_zero, List.drop_succ_cons, List.drop_zero, List.cons_append, List.nil_append, List.append_nil, List.length_cons, List.length_nil, Nat.zero_add, Nat.reduceAdd] at hst5
  obtain ⟨⟨⟨xu, yu⟩, bu⟩, ⟨htu, hlu⟩, hst5⟩ := hst5.unx (k := 0) rfl (fun _ => rfl)
  replace hF := hF.mono hle5
  clear hst4 hfr4 hk5
  rw [last_shA] at hlu hqb
  injection hlu with hx1 hx2; injection hqb with hx3 hx4
  dsimp only at hx1 hx2 hx3 hx4
  subst hx1
  subst hx4
  refine hK5 _ _ ?_; clear hK5
  refine seq_any fun _ hK10 => ?_
  refine region_cut 7 (by kernel_rfl) ?_
  refine ops_seq (tch := []) hst5 hfr5 (by kernel_rfl) (by kernel_rfl) (by kernel_rfl) (.cons rfl (ob_buildSlice (.cons rfl <| .cons rfl <| .nil) Try.underlying27 Try.sizeOf9 Try.zeroValue9 rfl rfl rfl rfl) <| .cons rfl (ob_call (φ := MP.tm (varT [107])) rfl (.cons rfl <| .nil) Try.call11 (fun w m hK => by have hle_ := KC.le hK; have hA := KC.agree hK; exact FnG.mono (v_c (s := [107]) hA) fun _ _ _ _ h => h)) <| .cons rfl (ob_call (φ := MP.tm (varT [107])) rfl (.cons rfl <| .nil) Try.call11 (fun w m hK => by have hle_ := KC.le hK; have hA := KC.agree hK; exact FnG.mono (v_c (s := [107]) hA) fun _ _ _ _ h => h)) <| .cons rfl (ob_call (φ := MP.tm (varT [120])) rfl (.cons rfl <| .nil) Try.call11 (fun w m hK => by have hle_ := KC.le hK; have hA := KC.agree hK; exact FnG.mono (v_c (s := [120]) hA) fun _ _ _ _ h => h)) <| .cons rfl (ob_imgE 24 rfl rfl rfl fun y24 => ob_imgE 25 rfl rfl rfl fun y25 => ob_call (φ := MP.tm (callT (varT [107]) (varT [120]))) rfl (.cons rfl <| .cons rfl <| .nil) Try.call10 (fun w m hK => by have hle_ := KC.le hK; have hA := KC.agree hK; have hr0_ := hK.2; have hr1_ := hK.1.2; exact FnG.mono (call_c (f := (varT [107])) (a := (varT [120])) hA hr1_ hr0_) fun _ _ _ _ h => h)) <| .cons rfl (ob_imgE 23 rfl rfl rfl fun y23 => ob_imgE 26 rfl rfl rfl fun y26 => ob_call (φ := MP.tm (callT (varT [107]) (callT (varT [107]) (varT [120])))) rfl (.cons rfl <| .cons rfl <| .nil) Try.call10 (fun w m hK => by have hle_ := KC.le hK; have hA := KC.agree hK; have hr0_ := hK.2; have hr1_ := hK.1.2; exact FnG.mono (call_c (f := (varT [107])) (a := (callT (varT [107]) (varT [120]))) hA hr1_ hr0_) fun _ _ _ _ h => h)) <| .cons rfl (ob_imgI 22 rfl rfl rfl fun y22 => ob_imgV 27 rfl rfl rfl fun y27 => ob_buildS (.cons rfl <| .cons rfl <| .nil) Try.underlying40 Try.zeroValue40 (.cons Try.sizeOf9 <| .cons Try.sizeOf27 <| .cons Try.sizeOf33 <| .nil) rfl) <| .nil) ?_
  intro a6 w6 m6 hst6 hle6 hk6
  have hfr6 := hk6.fr (T' := [(10, _), (1, _), (17, _), (2, _), (3, _)]) (.old rfl rfl <| .old rfl rfl <| .old rfl rfl <| .old rfl rfl <| .old rfl rfl <| .nil)
  obtain ⟨⟨g22, y27⟩, e11, h22, h27⟩ := hk6.ex 28 rfl
  replace hfr6 := hfr6.cons e11
  replace hF := hF.mono hle6
  clear hst5 hfr5 hk6
  dsimp only [MP.row, MP.tm, MP.mem] at hfr6
  rw [putL_ar (by rfl) (by rfl)] at hfr6
  have har2 : ArR m6 shB _ := ar_R (Sl.two (vs := [_]) (us := [_]) h22 rfl rfl rfl rfl) h27
  replace hst6 := hst6.more (r := .free) trivial List.nodup_nil (by simp [Res.blocks])
  refine ops_seq (tch := [(4, 1, (fun v => .blk v _)), (5, 1, (fun v => .blkx v _ _))]) hst6 hfr6 (by kernel_rfl) (by kernel_rfl) (by kernel_rfl) (.cons rfl (ob_call (φ := MP.lastV shB) rfl (.cons rfl <| .nil) Try.call12 (fun w m hK => by have hle_ := KC.le hK; have hA := KC.agree hK; have har2 := har2.mono hle_; exact FnG.mono (last_c (a := shB) hA har2 (.call (.var _) (.call (.var _) (.var _))) (by decide)) fun _ _ _ _ h => h)) <| .cons rfl (ob_imgV 29 rfl rfl rfl fun y29 => ob_move rfl) <| .cons rfl (ob_imgV 21 rfl rfl rfl fun y21 => ob_extract rfl rfl) <| .cons rfl (ob_imgV 21 rfl rfl rfl fun y21 => ob_extract rfl rfl) <| .consT rfl rfl (fun _ => rfl) rfl (ob_allocL Try.zeroValue33 rfl) <| .consT rfl rfl (fun _ => rfl) rfl (ob_imgT 4 rfl rfl rfl fun y4 => ob_imgTX 30 rfl rfl rfl fun y30 => ob_storeKF rfl rfl rfl rfl rfl Try.sizeOf33 rfl rfl (fun w m hK => hK.2.1.one)) <| .consA 31 rfl rfl <| .nil) ?_
  intro a7 w7 m7 hst7 hle7 hk7
  have hfr7 := hk7.fr (T' := [(10, _), (1, _), (17, _), (2, _), (3, _), (28, _)]) (.old rfl rfl <| .old rfl rfl <| .old rfl rfl <| .old rfl rfl <| .old rfl rfl <| .old rfl rfl <| .nil)
  obtain ⟨⟨⟨xd, yd⟩, qd⟩, e12, _, hqd⟩ := hk7.ex 31 rfl
  replace hfr7 := hfr7.cons e12
  obtain ⟨g13, e13, _⟩ := hk7.ex 4 rfl
  replace hfr7 := hfr7.cons e13
  replace hfr7 := hfr7.cons (hk7.same 5 rfl e12)
  replace hst7 := hst7.fin (L' := [_, _]) (.cons e13 <| .cons e13 <| .nil)
  try simp only [List.take_succ_cons, List.take_zero, List.drop_succ_cons, List.drop_zero, List.cons_append, List.nil_append, List.append_nil, List.length_cons, List.length_nil, Nat.zero_add, Nat.reduceAdd] at hst7
  obtain ⟨⟨⟨xv, yv⟩, bv⟩, ⟨htv, hlv⟩, hst7⟩ := hst7.unx (k := 1) rfl (fun _ => rfl)
  replace hF := hF.mono hle7
  clear hst6 hfr6 hk7
  rw [last_shB] at hlv hqd
  injection hqd with hx5 hx6
  dsimp only at hx6
  subst hx6
  refine hK10 _ _ ?_; clear hK10
  refine seq_any fun _ hK15 => ?_
  have hl9 : ([[121]] : List Str).length = 1 := rfl
  obtain ⟨p16, vs16, x16, ho16, hd16, hm_x16, ht16, hcv16, hl16, hv16⟩ := hF.nth (k := 0) (by omega)
  cases ho16
  subst hv16
  have hx9 : x16 = [121] := by injection hd16 with h; exact h.symm
  subst hx9
  refine rp0 hst7 hfr7 (.cons rfl (ob_move rfl) <| .cons rfl (ob_len rfl Try.underlying27) <| .cons rfl (ob_eql rfl rfl) <| .cons rfl (ob_move rfl) <| .cons rfl (ob_move rfl) <| .cons rfl (ob_indexAddr (k := 0) rfl rfl Try.underlying27 Try.sizeOf9 rfl (by omega)) <| .cons rfl (ob_load1' rfl hcv16 Try.isAgg9 rfl) <| .cons rfl (ob_seql rfl rfl) <| .cons rfl (ob_and rfl rfl rfl) <| .cons rfl (ob_move rfl) <| .cons rfl (ob_fieldAddrO (off := 2) rfl Try.underlying33 rfl rfl Try.sizeOf9 rfl) <| .cons rfl (ob_loadL (j := 0) rfl rfl Try.isAgg9 rfl) <| .cons rfl (ob_seql rfl rfl) <| .cons rfl (ob_and rfl rfl rfl) <| .cons rfl (ob_move rfl) <| .cons rfl (ob_move rfl) <| .cons rfl (ob_and rfl rfl rfl) <| .cons rfl (ob_move rfl) <| .cons rfl (ob_move rfl) <| .cons rfl (ob_not rfl) <| .cons rfl (ob_and rfl rfl rfl) <| .cons rfl (ob_move rfl) <| .cons rfl (ob_call (φ := MP.tm (varT [120])) rfl (.cons rfl <| .nil) Try.call11 (fun w m hK => by have hle_ := KC.le hK; have hA := KC.agree hK; exact FnG.mono (v_c (s := [120]) hA) fun _ _ _ _ h => h)) <| .cons rfl (ob_imgE 54 rfl rfl rfl fun y54 => ob_callE rfl (.cons rfl <| .nil) Try.call21 (fun w m hK => by have hle_ := KC.le hK; have hA := KC.agree hK; have hr0_ := hK.2; exact value_c (varT [120]) hA hr0_)) <| .cons rfl (ob_and rfl rfl rfl) <| .cons rfl (ob_move rfl) <| .cons rfl (ob_call (φ := MP.tm (varT [120])) rfl (.cons rfl <| .nil) Try.call11 (fun w m hK => by have hle_ := KC.le hK; have hA := KC.agree hK; exact FnG.mono (v_c (s := [120]) hA) fun _ _ _ _ h => h)) <| .cons rfl (ob_call (φ := MP.tm (varT [121])) rfl (.cons rfl <| .nil) Try.call11 (fun w m hK => by have hle_ := KC.le hK; have hA := KC.agree hK; exact FnG.mono (v_c (s := [121]) hA) fun _ _ _ _ h => h)) <| .cons rfl (ob_imgE 58 rfl rfl rfl fun y58 => ob_imgE 59 rfl rfl rfl fun y59 => ob_call (φ := MP.tm (callT (varT [120]) (varT [121]))) rfl (.cons rfl <| .cons rfl <| .nil) Try.call10 (fun w m hK => by have hle_ := KC.le hK; have hA := KC.agree hK; have hr0_ := hK.2; have hr1_ := hK.1.2; exact FnG.mono (call_c (f := (varT [120])) (a := (varT [121])) hA hr1_ hr0_) fun _ _ _ _ h => h)) <| .cons rfl (ob_imgE 60 rfl rfl rfl fun y60 => ob_callE rfl (.cons rfl <| .nil) Try.call23 (fun w m hK => by have hle_ := KC.le hK; have hA := KC.agree hK; have hr0_ := hK.2; exact plain_c (callT (varT [120]) (varT [121])) hA hr0_ (by decide))) <| .cons rfl (ob_not rfl) <| .cons rfl (ob_and rfl rfl rfl) <| .cons rfl (ob_move rfl) <| .cons rfl (ob_call (φ := MP.tm (varT [120])) rfl (.cons rfl <| .nil) Try.call11 (fun w m hK => by have hle_ := KC.le hK; have hA := KC.agree hK; exact FnG.mono (v_c (s := [120]) hA) fun _ _ _ _ h => h)) <| .cons rfl (ob_imgE 65 rfl rfl rfl fun y65 => ob_callE rfl (.cons rfl <| .nil) Try.call23 (fun w m hK => by have hle_ := KC.le hK; have hA := KC.agree hK; have hr0_ := hK.2; exact plain_c (varT [120]) hA hr0_ (by decide))) <| .cons rfl (ob_and rfl rfl rfl) <| .cons rfl (ob_assign rfl) <| .nil) ?_
  intro a8 w8 m8 hst8 hle8 hk8
  have hfr8 := hk8.fr (T' := [(0, _)]) (.new rfl <| .nil)
  clear hst7 hfr7 hk8
  refine hK15 _ _ ?_; clear hK15
  refine wp_ret ?_
  repeat (with_reducible first | refine then_ret ?_ | refine block_ret ?_)
  exact fn_ret hst8 hfr8 rfl (.tmp rfl <| .nil) (by refine congrArg Value.bool ?_; dsimp only; decide)

end Go.Proofs.Ytppmbhjacjmfkaa
