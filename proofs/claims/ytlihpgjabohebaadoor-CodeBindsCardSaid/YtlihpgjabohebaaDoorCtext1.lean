/-
  Code: its text. Conditions: those of each theorem.
-/
import Derived.Test.YtlihpgjabohebaaDoorCfree2
import Derived.Sort.Grow
namespace Go.Proofs.YtlihpgjabohebaaDoor
set_option linter.all false
set_option maxRecDepth 4000
open Go.RowKit
abbrev joinW (l : List Str) : Str := Go.Lib.join l [32]
def headW (k : Int) (s p : Str) : List Str :=
  if k = 5 then [[102, 117, 110], s] else if k = 6 then [[99, 97, 108, 108]] else if k = 7 then [[108, 101, 116], s] else if k = 8 then [[98, 105, 110, 100], s] else if k = 9 then [[114, 101, 99], s, p]
  else if k = 10 then [[105, 102]] else if k = 11 then [[111, 112], s] else if k = 12 then [[99, 111, 110], s] else if k = 13 then [[109, 97, 116, 99, 104]] else if k = 14 then [[121, 105, 101, 108, 100], s] else if k = 15 then [[112, 114, 111, 109, 112, 116], s] else []
/-- So many kids stand without braces. -/
def fromC (k : Int) (n : Nat) : Nat := if k = 6 then 2 else if k = 10 then 1 else if k = 11 ∨ k = 12 then n else if k = 13 ∨ k = 14 then 1 else 0
mutual
def textC : Cd → Str
  | ⟨k, s, p, n, ks, az⟩ => if k = 1 then s else if k = 2 then Go.Lib.itoa n else if k = 3 then Go.Lib.formatBool (decide (n = 1)) else if k = 4 then [117, 110, 105, 116] else joinW (headW k s p ++ kidsW (fromC k ks.length) 0 ks ++ armsW az)
def kidsW (fr : Nat) : Nat → List Cd → List Str
  | _, [] => []
  | i, t :: ts => (if i < fr then (if t.kind = 5 then [123, 32] ++ textC t ++ [32, 125] else textC t) else [123, 32] ++ textC t ++ [32, 125]) :: kidsW fr (i + 1) ts
def armsW : List Ca → List Str
  | [] => []
  | ⟨s, l, tl, b⟩ :: ts => ([124] :: (if tl then [[116, 97, 105, 108]] else []) ++ (s :: l ++ [[123, 32] ++ textC b ++ [32, 125]])) ++ armsW ts
end
def bracesC (t : Cd) : Str := [123, 32] ++ textC t ++ [32, 125]
def plainC (t : Cd) : Str := if t.kind = 5 then bracesC t else textC t
def kidW (fr i : Nat) (t : Cd) : Str := if i < fr then plainC t else bracesC t
def armW (a : Ca) : List Str := [124] :: (if a.tail then [[116, 97, 105, 108]] else []) ++ (a.name :: a.vars ++ [bracesC a.body])
theorem kidsW_cons (fr i : Nat) (t : Cd) (ts : List Cd) : kidsW fr i (t :: ts) = kidW fr i t :: kidsW fr (i + 1) ts := by rw [kidsW]; rfl
theorem armsW_cons (a : Ca) (ts : List Ca) : armsW (a :: ts) = armW a ++ armsW ts := by obtain ⟨s, l, tl, b⟩ := a; rw [armsW]; rfl
def wordsC (t : Cd) : List Str := headW t.kind t.name t.param ++ kidsW (fromC t.kind t.kids.length) 0 t.kids ++ armsW t.arms
theorem textC_eq (t : Cd) : textC t = if t.kind = 1 then t.name else if t.kind = 2 then Go.Lib.itoa t.n else if t.kind = 3 then Go.Lib.formatBool (decide (t.n = 1)) else if t.kind = 4 then [117, 110, 105, 116] else joinW (wordsC t) := by obtain ⟨k, s, p, n, ks, az⟩ := t; rw [textC]; rfl
mutual
/-- How much there is in code. -/
def bulkC : Cd → Nat
  | ⟨_, s, p, n, ks, az⟩ => 60 + s.length + p.length + (Go.Lib.itoa n).length + bulkKs ks + bulkAs az
def bulkKs : List Cd → Nat
  | [] => 0
  | t :: ts => bulkC t + bulkKs ts
def bulkAs : List Ca → Nat
  | [] => 0
  | ⟨s, l, _, b⟩ :: ts => 30 + s.length + (l.map fun x => x.length + 2).sum + bulkC b + bulkAs ts
end
theorem bulkC_eq (t : Cd) : bulkC t = 60 + t.name.length + t.param.length + (Go.Lib.itoa t.n).length + bulkKs t.kids + bulkAs t.arms := by obtain ⟨k, s, p, n, ks, az⟩ := t; rw [bulkC]; rfl
theorem bulkAs_cons (a : Ca) (ts : List Ca) : bulkAs (a :: ts) = 30 + a.name.length + (a.vars.map fun x => x.length + 2).sum + bulkC a.body + bulkAs ts := by obtain ⟨s, l, tl, b⟩ := a; rw [bulkAs]; rfl
theorem bulkKs_mem : ∀ {l : List Cd} {u : Cd}, u ∈ l → bulkC u ≤ bulkKs l
  | t :: ts, u, h => by
    rw [bulkKs]
    rcases List.mem_cons.1 h with rfl | h
    · omega
    · have := bulkKs_mem h; omega
theorem bulkAs_mem : ∀ {l : List Ca} {a : Ca}, a ∈ l → 30 + a.name.length + (a.vars.map fun x => x.length + 2).sum + bulkC a.body ≤ bulkAs l
  | b :: ts, a, h => by
    rw [bulkAs_cons]
    rcases List.mem_cons.1 h with rfl | h
    · omega
    · have := bulkAs_mem h; omega
theorem bulk_kid {t u : Cd} (h : u ∈ t.kids) : bulkC u + 60 ≤ bulkC t := by rw [bulkC_eq t]; have := bulkKs_mem h; omega
theorem bulk_arm {t : Cd} {a : Ca} (h : a ∈ t.arms) : 30 + a.name.length + (a.vars.map fun x => x.length + 2).sum + bulkC a.body + 60 ≤ bulkC t := by rw [bulkC_eq t]; have := bulkAs_mem h; omega
theorem sum_len2 (l : List Str) : 2 * l.length ≤ (l.map fun x => x.length + 2).sum := by induction l with | nil => simp | cons x l ih => simp only [List.map_cons, List.sum_cons, List.length_cons]; omega
def wsum (l : List Str) : Nat := (l.map fun x => x.length + 1).sum
theorem wsum_app (a b : List Str) : wsum (a ++ b) = wsum a + wsum b := by unfold wsum; rw [List.map_append, List.sum_append]
theorem wsum_cons (x : Str) (b : List Str) : wsum (x :: b) = x.length + 1 + wsum b := by unfold wsum; rw [List.map_cons, List.sum_cons]
theorem wsum_len (l : List Str) : l.length ≤ wsum l := by induction l with | nil => simp | cons x l ih => rw [wsum_cons, List.length_cons]; omega
theorem wsum_two (l : List Str) : wsum l ≤ (l.map fun x => x.length + 2).sum := by
  induction l with
  | nil => simp [wsum]
  | cons x l ih => rw [wsum_cons, List.map_cons, List.sum_cons]; omega
theorem join_cons2 (x y : Str) (l : List Str) (sep : Str) : Go.Lib.join (x :: y :: l) sep = x ++ sep ++ Go.Lib.join (y :: l) sep := by simp [Go.Lib.join]
theorem join_len1 (l : List Str) : (joinW l).length ≤ wsum l := by
  induction l with
  | nil => simp [joinW, Go.Lib.join]
  | cons x l ih =>
    cases l with
    | nil => simp [joinW, Go.Lib.join, wsum]
    | cons y l =>
      have e : joinW (x :: y :: l) = x ++ [32] ++ joinW (y :: l) := join_cons2 x y l [32]
      rw [e, wsum_cons, List.length_append, List.length_append]; simp only [List.length_cons, List.length_nil] at ih ⊢; omega
theorem headW_sum (k : Int) (s p : Str) : wsum (headW k s p) ≤ 9 + s.length + p.length := by
  unfold headW wsum
  repeat' split
  all_goals simp
  all_goals omega
theorem fb_len (b : Bool) : (Go.Lib.formatBool b).length ≤ 5 := by cases b <;> decide
theorem text_len (t : Cd) : (textC t).length + 30 ≤ bulkC t ∧ (wordsC t).length ≤ bulkC t ∧ wsum (wordsC t) + 30 ≤ bulkC t := by
  induction t using Cd.rec_ with
  | h t ihk iha =>
    have hb : ∀ u, (textC u).length + 30 ≤ bulkC u → (bracesC u).length + 26 ≤ bulkC u := fun u h => by simp only [bracesC, List.length_append, List.length_cons, List.length_nil]; omega
    have hk : ∀ (l : List Cd), (∀ u ∈ l, u ∈ t.kids) → ∀ fr i, wsum (kidsW fr i l) ≤ bulkKs l := by
      intro l
      induction l with
      | nil => intro _ fr i; simp [kidsW, wsum]
      | cons u l ih =>
        intro hl fr i
        rw [kidsW_cons, bulkKs, wsum_cons]
        have h1 := ih (fun v hv => hl v (.tail _ hv)) fr (i + 1)
        have h2 := (ihk u (hl u (.head _))).1
        have h3 := hb u h2
        have : (kidW fr i u).length + 26 ≤ bulkC u := by unfold kidW plainC; split; split; all_goals omega
        omega
    have hr : ∀ (l : List Ca), (∀ u ∈ l, u ∈ t.arms) → wsum (armsW l) ≤ bulkAs l := by
      intro l
      induction l with
      | nil => intro _; simp [armsW, wsum]
      | cons u l ih =>
        intro hl
        rw [armsW_cons, bulkAs_cons, wsum_app]
        have h1 := ih (fun v hv => hl v (.tail _ hv))
        have h2 := hb u.body (iha u (hl u (.head _))).1
        have h3 := wsum_two u.vars
        have : wsum (armW u) ≤ 7 + (u.name.length + 1 + wsum u.vars + ((bracesC u.body).length + 1)) := by
          unfold armW
          rw [List.cons_append, wsum_cons, wsum_app, wsum_app, wsum_cons]
          have : wsum (if u.tail = true then [[116, 97, 105, 108]] else []) ≤ 5 := by split <;> simp [wsum]
          have e : wsum [bracesC u.body] = (bracesC u.body).length + 1 := by simp [wsum]
          rw [e]; simp only [List.length_cons, List.length_nil]; omega
        omega
    have h1 := hk t.kids (fun _ h => h) (fromC t.kind t.kids.length) 0
    have h2 := hr t.arms (fun _ h => h)
    have h3 := headW_sum t.kind t.name t.param
    have hw : wsum (wordsC t) + 30 ≤ bulkC t := by unfold wordsC; rw [wsum_app, wsum_app, bulkC_eq]; omega
    have hl := wsum_len (wordsC t)
    refine ⟨?_, by omega, hw⟩
    rw [textC_eq]
    have hbe := bulkC_eq t
    repeat' split
    · omega
    · omega
    · have := fb_len (decide (t.n = 1)); omega
    · simp; omega
    · have := join_len1 (wordsC t); omega
theorem cnt_bulk (t : Cd) : cntC t ≤ bulkC t := by
  induction t using Cd.rec_ with
  | h t ihk iha =>
    have hk : ∀ (l : List Cd), (∀ u ∈ l, u ∈ t.kids) → cntKs l ≤ bulkKs l := by
      intro l
      induction l with
      | nil => intro _; simp [cntKs]
      | cons u l ih => intro hl; rw [cntKs, bulkKs]; have h1 := ih (fun v hv => hl v (.tail _ hv)); have h2 := ihk u (hl u (.head _)); omega
    have hr : ∀ (l : List Ca), (∀ u ∈ l, u ∈ t.arms) → cntAs l ≤ bulkAs l := by
      intro l
      induction l with
      | nil => intro _; simp [cntAs]
      | cons u l ih => intro hl; rw [cntAs_cons, bulkAs_cons]; have h1 := ih (fun v hv => hl v (.tail _ hv)); have h2 := iha u (hl u (.head _)); have h3 := sum_len2 u.vars; omega
    have h1 := hk t.kids (fun _ h => h)
    have h2 := hr t.arms (fun _ h => h)
    rw [cntC_eq, bulkC_eq]; omega
theorem strs_row {m : Mem} {g : Nat} {l : List Str} (h : CellsAt m ⟨g, 0, none⟩ (l.map S)) (hb : l.length ≤ 1000000000) : Strs m (some ⟨g, 0, none⟩) l.length l.length l := Strs.of_row (.inr ⟨_, rfl, h⟩) rfl (Nat.le_refl _) (by omega)
set_option maxHeartbeats 400000 in
theorem add_c {w : World} {m : Mem} {o_ws : Option Addr} {c_ws : Nat} {ws : List Str} {g : Nat} {o_l : Option Addr} {c_l : Nat} {l : List Str} (hA : Agree w m) (h_ws : Strs m o_ws ws.length c_ws ws) (hL : Loc (([.blk (.pointer (some ⟨g, 0, none⟩)) (.cells [.slice o_l (l).length c_l].toArray 29), .row (.slice o_l (l).length c_l) (l).length 1 9 ((l).map S)] : List Res).flatMap Res.blocks) w.heap.size [.blk (.pointer (some ⟨g, 0, none⟩)) (.cells [.slice o_l (l).length c_l].toArray 29), .row (.slice o_l (l).length c_l) (l).length 1 9 ((l).map S)] w m) (hbig : l.length + ws.length ≤ 1073741824) : FnG Tryd.prog 53 #[.slice o_ws ws.length c_ws, .pointer (some ⟨g, 0, none⟩)] (([.blk (.pointer (some ⟨g, 0, none⟩)) (.cells [.slice o_l (l).length c_l].toArray 29), .row (.slice o_l (l).length c_l) (l).length 1 9 ((l).map S)] : List Res).flatMap Res.blocks) w m (fun w' m' _ => ∃ rs', Loc (([.blk (.pointer (some ⟨g, 0, none⟩)) (.cells [.slice o_l (l).length c_l].toArray 29), .row (.slice o_l (l).length c_l) (l).length 1 9 ((l).map S)] : List Res).flatMap Res.blocks) w.heap.size rs' w' m' ∧ ∃ u1 u2, rs' = [.blk (.pointer (some ⟨g, 0, none⟩)) (.cells [.slice u1 (l ++ ws).length u2].toArray 29), .row (.slice u1 (l ++ ws).length u2) (l ++ ws).length 1 9 ((l ++ ws).map S)]) := by
  have hb_ws := h_ws.big; have hc_ws := h_ws.cap
  refine fn_enter (vs := [_, _]) Tryd.func53 rfl rfl rfl fun a0 hfr0 => ?_
  have hst0 := st_enter hA hL
  have hM : MLe m m := MLe.refl m
  refine region_cut 3 (by kernel_rfl) ?_
  refine ops_seq (tch := [(2, 1, (fun v => .row v _ _ _ _))]) hst0 hfr0 (by kernel_rfl) (by kernel_rfl) (by kernel_rfl) (.cons rfl (ob_loadL' (j := 0) rfl rfl Tryd.isAgg29 rfl) <| .cons rfl (ob_move rfl) <| .consT rfl rfl (fun _ => rfl) rfl (ob_append (size := 1) (bytes := 16) rfl rfl Tryd.underlying29 Tryd.type9 rfl rfl rfl rfl (fun w m hK => (h_ws.mono (KC.le hK)).row1 (f := S)) (by simp) (by decide) (strs_one _) (by simp only [maxLen]; omega) (by omega)) <| .nil) ?_
  intro a1 w1 m1 hst1 hle1 hk1
  have hfr1 := hk1.fr (T' := [(0, _), (1, _)]) (.old rfl rfl <| .old rfl rfl <| .nil)
  obtain ⟨⟨oz9, cz9⟩, e1, _⟩ := hk1.ex 5 rfl
  replace hfr1 := hfr1.cons e1
  replace hst1 := hst1.fin (L' := [_, _]) (.cons e1 <| .nil)
  clear hst0 hfr0 hk1
  refine ops_seq (tch := [(0, 0, (fun _ => .blk _ _))]) hst1 hfr1 (by kernel_rfl) (by kernel_rfl) (by kernel_rfl) (.consT rfl rfl (fun _ => rfl) rfl (ob_store' rfl rfl rfl Tryd.sizeOf29 rfl rfl rfl) <| .nil) ?_
  intro a2 w2 m2 hst2 hle2 hk2
  have hfr2 := hk2.fr (T' := [(0, _), (1, _), (5, _)]) (.old rfl rfl <| .old rfl rfl <| .old rfl rfl <| .nil)
  replace hst2 := hst2.fin (L' := [_, _]) (.cons rfl <| .nil)
  try simp only [List.take_succ_cons, List.take_zero, List.drop_succ_cons, List.drop_zero, List.cons_append, List.nil_append, List.append_nil, List.length_cons, List.length_nil, Nat.zero_add, Nat.reduceAdd] at hst2
  clear hst1 hfr1 hk2
  have he9 : l.length + ws.length = (l ++ ws).length := by simp
  have hm9 : l.map S ++ ws.map S = (l ++ ws).map S := by simp
  dsimp only [MP.sl, MP.mem] at hst2
  rw [hm9, he9] at hst2
  repeat (with_reducible first | refine then_exit ?_ | refine block_exit ?_ | refine block_normal ?_)
  exact fn_end hst2 hfr2 rfl (.nil) (⟨_, hst2.loc, _, _, rfl⟩)

theorem below_grow' (w : World) (k : Nat) (os : Array Obj) : Below w.heap.size w (Go.Sort.grow (w.drewN k) os) :=
  ⟨rfl, rfl, rfl, by simp only [Go.Sort.grow, World.drewN, Array.size_append]; omega, fun b hb => by simp only [Go.Sort.grow, World.drewN]; rw [Array.getElem?_append_left hb]⟩
theorem fn_calls {P : Program} {f : FuncId} {args : Array Value} {w : World} {m : Mem} {c : Value} (hA : Agree w m) (h : Calls P f args w fun e w' => e = .returned c ∧ Below w.heap.size w w') : FnV P f args w m fun _ _ v => v = c :=
  Calls.mono h fun e w' ⟨e1, hb⟩ => ⟨c, m, e1, ExtG.of_below hA hb, rfl⟩

/-- The table of Itoa stands where it is laid. -/
abbrev Tab (w : World) : Prop := Go.Lib.TabIs Tryd.prog w "internal/strconv.uint64pow10" .u64 Go.Lib.pow10Tab
theorem tab_keep {W w : World} {mE m : Mem} (h : Tab W) (hX : ExtG [] W mE w m) : Tab w := by
  unfold Tab Go.Lib.TabIs World.var? at h ⊢
  cases hg : Tryd.prog.globalNamed "internal/strconv.uint64pow10" with
  | none => rw [hg] at h; cases h
  | some g =>
    rw [hg] at h
    simp only [Option.bind_some] at h ⊢
    cases hh : W.heap[g]? with
    | none => rw [hh] at h; cases h
    | some o => rw [hX.block g (lt_of_heap hh) (by simp), hh]; rw [hh] at h; exact h
theorem itoa_c {w : World} {m : Mem} {n : Int} (hA : Agree w m) (hT : Tab w) (hn : InI64 n) : FnV Tryd.prog 54 #[.int .i64 n] w m fun _ _ v => v = S (Go.Lib.itoa n) :=
  fn_calls hA (Calls.mono (Tryd.strconv_Itoa n hn.1 hn.2 w hT) fun e w' ⟨e1, k, os, e2⟩ => ⟨e1, by rw [e2]; exact below_grow' w k os⟩)

theorem fbool_c {w : World} {m : Mem} {b : Bool} (hA : Agree w m) : FnV Tryd.prog 55 #[.bool b] w m fun _ _ v => v = S (Go.Lib.formatBool b) :=
  fn_calls hA (Calls.mono (Tryd.strconv_FormatBool b w) fun e w' ⟨e1, e2⟩ => ⟨e1, by rw [e2]; exact Below.refl _ _⟩)

theorem map_bytes (l : List Str) : ((l.map fun x => (⟨x.toArray⟩ : ByteArray)).map fun x : ByteArray => x.data.toList) = l := by
  rw [List.map_map]; exact List.map_id' l
theorem join_c {w : World} {m : Mem} {o : Option Addr} {n c : Nat} {l : List Str} {sep : Str} (hA : Agree w m) (h : Strs m o n c l) (hn : l.length ≤ 140737488355328) (hl : (Go.Lib.join l sep).length ≤ 140737488355328) :
    FnV Tryd.prog 58 #[.slice o n c, S sep] w m fun _ _ v => v = S (Go.Lib.join l sep) := by
  obtain rfl := h.len
  cases hl0 : l with
  | nil =>
    exact fn_calls hA (Calls.mono (Tryd.strings_Join_none o c ⟨sep.toArray⟩ w) fun e w' ⟨e1, e2⟩ => ⟨by rw [e1]; simp [Go.Lib.join, S], by rw [e2]; exact Below.refl _ _⟩)
  | cons x xs =>
    rw [← hl0]
    have h0 : 0 < l.length := by rw [hl0]; simp
    obtain ⟨p, vs, y, ho, -, -, -, hc, -, -⟩ := h.nth h0
    subst ho
    obtain ⟨bk, off, spot⟩ := p
    obtain rfl : spot = none := by have := hc.1; simpa [Addr.add] using this
    have hlt : bk < w.heap.size := by
      obtain ⟨p, vs, y, ho, -, -, -, hc, hl1, hv⟩ := h.nth h0
      cases ho
      subst hv
      have := hA.cell _ _ _ (hc.2 0 _ rfl)
      exact lt_of_cell this
    have hcells : ∀ (j : Nat) x, (l.map fun x => (⟨x.toArray⟩ : ByteArray))[j]? = some x → w.cell? ⟨bk, off + j, none⟩ = some (.string x) := fun j x hx => by
      rw [List.getElem?_map] at hx
      cases hy : l[j]? with
      | none => rw [hy] at hx; cases hx
      | some y =>
        rw [hy] at hx; simp only [Option.map_some, Option.some.injEq] at hx
        obtain ⟨p, vs, ho, hc, _, hv⟩ := h.at_ j y hy
        cases ho; subst hv; subst hx
        have := cell_of_cells hA hc (k := 0) rfl
        have e : ((⟨bk, off, none⟩ : Addr).add (j * 1)).add 0 = ⟨bk, off + j, none⟩ := by
          rw [add_add']; unfold Addr.add
          split
          · rename_i h0; have : j = 0 := by omega
            subst this; rfl
          · simp
        rw [e] at this; exact this
    have hlen := h.len
    have key := Tryd.strings_Join bk off c (l.map fun x => (⟨x.toArray⟩ : ByteArray)) ⟨sep.toArray⟩ w hcells hlt (by simpa using hn) (by simpa using h.cap) (by rw [map_bytes]; exact hl)
    rw [List.length_map, map_bytes] at key
    exact fn_calls hA (Calls.mono key fun e w' ⟨e1, e2⟩ => ⟨e1, e2⟩)

abbrev text_G (t : Cd) : Prop := ∀ {w : World} {m : Mem} {vs_t : List Value} (hA : Agree w m) (h_t : CdR m t vs_t) (hT : Tab w) (hb : bulkC t ≤ 100000000), FnV Tryd.prog 36 #[.agg vs_t.toArray] w m (fun _ _ v => v = S (textC t))
set_option maxHeartbeats 400000 in
theorem braces_c {w : World} {m : Mem} {t : Cd} {vs_t : List Value} (hA : Agree w m) (h_t : CdR m t vs_t) (hT : Tab w) (iht : text_G t) (hb : bulkC t ≤ 100000000) : FnV Tryd.prog 57 #[.agg vs_t.toArray] w m (fun _ _ v => v = S (bracesC t)) := by
  obtain ⟨⟨oK_t, cK_t, oA_t, cA_t⟩, rfl, ⟨hik_t, hin_t⟩, hkk_t, haa_t⟩ := h_t.open_
  dsimp only at hkk_t haa_t
  have hbg_t := hkk_t.big; have hcp_t := hkk_t.cap; have hbh_t := haa_t.big; have hcq_t := haa_t.cap
  refine fn_enter (vs := [_]) Tryd.func57 rfl rfl rfl fun a0 hfr0 => ?_
  have hst0 := st_enter hA (loc_nil [] _ w m)
  have hM : MLe m m := MLe.refl m
  have htl := (text_len t).1
  refine seq_any fun _ hK1 => ?_
  refine rp0 hst0 hfr0 (.cons rfl (ob_box rfl rfl) <| .cons rfl (ob_assign rfl) <| .nil) ?_
  intro a1 w1 m1 hst1 hle1 hk1
  have hfr1 := hk1.fr (T' := []) (.nil)
  obtain ⟨g2, e2, hc1⟩ := hk1.ex 1 rfl
  replace hfr1 := hfr1.cons e2
  replace h_t := h_t.mono hle1
  clear hst0 hfr0 hk1
  refine hK1 _ _ ?_; clear hK1
  refine seq_any fun _ hK3 => ?_
  refine rp0 hst1 hfr1 (.cons rfl (ob_loadS' rfl hc1 Tryd.isAgg25 Tryd.sizeOf25 rfl rfl) <| .cons rfl (ob_callE rfl (.cons rfl <| .nil) Tryd.call36 (fun w m hK => by have hle_ := KC.le hK; have hA := KC.agree hK; have hT := tab_keep hT hK.st.ext; have h_t := h_t.mono hle_; exact iht hA h_t hT hb)) <| .cons rfl (ob_sadd rfl rfl (by first | omega | (simp only [List.length_append, List.length_cons, List.length_nil, List.length_map]; omega))) <| .cons rfl (ob_sadd rfl rfl (by first | omega | (simp only [List.length_append, List.length_cons, List.length_nil, List.length_map]; omega))) <| .cons rfl (ob_assign rfl) <| .nil) ?_
  intro a2 w2 m2 hst2 hle2 hk2
  have hfr2 := hk2.fr (T' := [(2, _)]) (.new rfl <| .nil)
  clear hst1 hfr1 hk2
  refine hK3 _ _ ?_; clear hK3
  refine wp_ret ?_
  repeat (with_reducible first | refine then_ret ?_ | refine block_ret ?_)
  exact fn_ret hst2 hfr2 rfl (.tmp rfl <| .nil) (rfl)

set_option maxHeartbeats 400000 in
theorem plainT_c {w : World} {m : Mem} {t : Cd} {vs_t : List Value} (hA : Agree w m) (h_t : CdR m t vs_t) (hT : Tab w) (iht : text_G t) (hb : bulkC t ≤ 100000000) : FnV Tryd.prog 56 #[.agg vs_t.toArray] w m (fun _ _ v => v = S (plainC t)) := by
  obtain ⟨⟨oK_t, cK_t, oA_t, cA_t⟩, rfl, ⟨hik_t, hin_t⟩, hkk_t, haa_t⟩ := h_t.open_
  dsimp only at hkk_t haa_t
  have hbg_t := hkk_t.big; have hcp_t := hkk_t.cap; have hbh_t := haa_t.big; have hcq_t := haa_t.cap
  refine fn_enter (vs := [_]) Tryd.func56 rfl rfl rfl fun a0 hfr0 => ?_
  have hst0 := st_enter hA (loc_nil [] _ w m)
  have hM : MLe m m := MLe.refl m
  refine seq_any fun _ hK1 => ?_
  refine rp0 hst0 hfr0 (.cons rfl (ob_box rfl rfl) <| .cons rfl (ob_assign rfl) <| .nil) ?_
  intro a1 w1 m1 hst1 hle1 hk1
  have hfr1 := hk1.fr (T' := []) (.nil)
  obtain ⟨g2, e2, hc1⟩ := hk1.ex 1 rfl
  replace hfr1 := hfr1.cons e2
  replace h_t := h_t.mono hle1
  clear hst0 hfr0 hk1
  refine hK1 _ _ ?_; clear hK1
  refine seq_any fun _ hK3 => ?_
  refine seq_any fun _ hK4 => ?_
  refine rp0 hst1 hfr1 (.cons rfl (ob_fieldAddrO (off := 0) rfl Tryd.underlying25 rfl rfl Tryd.sizeOf3 rfl) <| .cons rfl (ob_load1 rfl hc1 Tryd.isAgg3 rfl) <| .cons rfl (ob_eql rfl rfl) <| .nil) ?_
  intro a2 w2 m2 hst2 hle2 hk2
  have hfr2 := hk2.fr (T' := [(1, _), (5, _)]) (.old rfl rfl <| .new rfl <| .nil)
  replace h_t := h_t.mono hle2
  replace hc1 := hc1.mono hle2
  clear hst1 hfr1 hk2
  refine hK4 _ _ ?_; clear hK4
  refine cond_any hfr2 rfl rfl (fun hb5 => ?_) (fun hb5 => ?_)
  · try simp only [nq1, nq2, nq3, nq4, nq5, nq6, nq7, nq8, nq9, u8_eq] at hb5
    refine seq_any fun _ hK5 => ?_
    refine rp0 hst2 hfr2 (.cons rfl (ob_loadS' rfl hc1 Tryd.isAgg25 Tryd.sizeOf25 rfl rfl) <| .cons rfl (ob_callE rfl (.cons rfl <| .nil) Tryd.call57 (fun w m hK => by have hle_ := KC.le hK; have hA := KC.agree hK; have hT := tab_keep hT hK.st.ext; have h_t := h_t.mono hle_; exact braces_c hA h_t hT iht hb)) <| .cons rfl (ob_assign rfl) <| .nil) ?_
    intro a3 w3 m3 hst3 hle3 hk3
    have hfr3 := hk3.fr (T' := [(2, _)]) (.new rfl <| .nil)
    clear hst2 hfr2 hk3
    refine hK5 _ _ ?_; clear hK5
    refine wp_ret ?_
    repeat (with_reducible first | refine then_ret ?_ | refine block_ret ?_)
    exact fn_ret hst3 hfr3 rfl (.tmp rfl <| .nil) (by refine congrArg S ?_; unfold plainC; rw [if_pos hb5])
  · try simp only [nq1, nq2, nq3, nq4, nq5, nq6, nq7, nq8, nq9, u8_eq] at hb5
    refine wp_skip ?_
    refine hK3 _ _ ?_; clear hK3
    refine seq_any fun _ hK7 => ?_
    refine rp0 hst2 hfr2 (.cons rfl (ob_loadS' rfl hc1 Tryd.isAgg25 Tryd.sizeOf25 rfl rfl) <| .cons rfl (ob_callE rfl (.cons rfl <| .nil) Tryd.call36 (fun w m hK => by have hle_ := KC.le hK; have hA := KC.agree hK; have hT := tab_keep hT hK.st.ext; have h_t := h_t.mono hle_; exact iht hA h_t hT hb)) <| .cons rfl (ob_assign rfl) <| .nil) ?_
    intro a3 w3 m3 hst3 hle3 hk3
    have hfr3 := hk3.fr (T' := [(2, _)]) (.new rfl <| .nil)
    clear hst2 hfr2 hk3
    refine hK7 _ _ ?_; clear hK7
    refine wp_ret ?_
    repeat (with_reducible first | refine then_ret ?_ | refine block_ret ?_)
    exact fn_ret hst3 hfr3 rfl (.tmp rfl <| .nil) (by refine congrArg S ?_; unfold plainC; rw [if_neg hb5])


set_option maxHeartbeats 3200000 in
theorem text_s {t : Cd} (ihk : ∀ u ∈ t.kids, text_G u) (iha : ∀ a ∈ t.arms, text_G a.body) {w : World} {m : Mem} {vs_t : List Value} (hA : Agree w m) (h_t : CdR m t vs_t) (hT : Tab w) (hb : bulkC t ≤ 100000000) : FnV Tryd.prog 36 #[.agg vs_t.toArray] w m (fun _ _ v => v = S (textC t)) := by
  obtain ⟨⟨oK_t, cK_t, oA_t, cA_t⟩, rfl, ⟨hik_t, hin_t⟩, hkk_t, haa_t⟩ := h_t.open_
  dsimp only at hkk_t haa_t
  have hbg_t := hkk_t.big; have hcp_t := hkk_t.cap; have hbh_t := haa_t.big; have hcq_t := haa_t.cap
  refine fn_enter (vs := [_]) Tryd.func36 rfl rfl rfl fun a0 hfr0 => ?_
  have hst0 := st_enter hA (loc_nil [] _ w m)
  have hM : MLe m m := MLe.refl m
  have hbe := bulkC_eq t
  have hwl := (text_len t).2.1
  have hws9 := (text_len t).2.2
  refine seq_any fun _ hK1 => ?_
  refine rp0 hst0 hfr0 (.cons rfl (ob_box rfl rfl) <| .cons rfl (ob_assign rfl) <| .nil) ?_
  intro a1 w1 m1 hst1 hle1 hk1
  have hfr1 := hk1.fr (T' := []) (.nil)
  obtain ⟨g2, e2, hc1⟩ := hk1.ex 1 rfl
  replace hfr1 := hfr1.cons e2
  replace h_t := h_t.mono hle1
  replace hkk_t := hkk_t.mono hle1
  replace haa_t := haa_t.mono hle1
  clear hst0 hfr0 hk1
  refine hK1 _ _ ?_; clear hK1
  refine seq_any fun _ hK3 => ?_
  replace hst1 := hst1.more (r := .free) trivial List.nodup_nil (by simp [Res.blocks])
  refine ra0 (tch := [(0, 0, (fun v => .blk v _))]) hst1 hfr1 (.consT rfl rfl (fun _ => rfl) rfl (ob_allocL Tryd.zeroValue29 rfl) <| .nil) ?_
  intro a2 w2 m2 hst2 hle2 hk2
  have hfr2 := hk2.fr (T' := [(1, _)]) (.old rfl rfl <| .nil)
  obtain ⟨gL, e4, _⟩ := hk2.ex 3 rfl
  replace hfr2 := hfr2.cons e4
  replace hst2 := hst2.fin (L' := [_]) (.cons e4 <| .nil)
  replace h_t := h_t.mono hle2
  replace hkk_t := hkk_t.mono hle2
  replace haa_t := haa_t.mono hle2
  replace hc1 := hc1.mono hle2
  clear hst1 hfr1 hk2
  have hst2 := hst2.more (r := .row (.slice none 0 0) 0 1 9 []) ⟨rfl, .inl ⟨rfl, rfl⟩⟩ List.nodup_nil (by simp [Res.blocks, rowBlock])
  have hrow_nm : RowAt m2 none (([] : List Str).map (fun x => S x)) := .inl rfl; have hcap_nm : ([] : List Str).length ≤ 0 := Nat.le_refl _
  refine hK3 _ _ ?_; clear hK3
  refine seq_any fun _ hK5 => ?_
  refine rp0 hst2 hfr2 (.cons rfl (ob_makeFunc (.cons rfl <| .nil)) <| .cons rfl (ob_assign rfl) <| .nil) ?_
  intro a3 w3 m3 hst3 hle3 hk3
  have hfr3 := hk3.fr (T' := [(1, _), (3, _), (4, _)]) (.old rfl rfl <| .old rfl rfl <| .new rfl <| .nil)
  replace h_t := h_t.mono hle3
  replace hkk_t := hkk_t.mono hle3
  replace haa_t := haa_t.mono hle3
  replace hc1 := hc1.mono hle3
  replace hrow_nm := hrow_nm.mono hle3
  clear hst2 hfr2 hk3
  refine hK5 _ _ ?_; clear hK5
  refine seq_any fun _ hK6 => ?_
  refine rp0 hst3 hfr3 (.cons rfl (ob_assign rfl) <| .nil) ?_
  intro a4 w4 m4 hst4 hle4 hk4
  have hfr4 := hk4.fr (T' := [(1, _), (3, _), (4, _), (5, _)]) (.old rfl rfl <| .old rfl rfl <| .old rfl rfl <| .new rfl <| .nil)
  replace h_t := h_t.mono hle4
  replace hkk_t := hkk_t.mono hle4
  replace haa_t := haa_t.mono hle4
  replace hc1 := hc1.mono hle4
  replace hrow_nm := hrow_nm.mono hle4
  clear hst3 hfr3 hk4
  refine hK6 _ _ ?_; clear hK6
  refine join_any (T := [(1, _), (3, _), (4, _)]) (fun (y : List Str × Nat × Option Addr × Nat) => ([(5, .int .i64 (y.2.1 : Nat))] : List (Nat × Value))) (fun y => [.blk (.pointer (some ⟨gL, 0, none⟩)) (.cells [.slice y.2.2.1 (y.1).length y.2.2.2].toArray 29), .row (.slice y.2.2.1 (y.1).length y.2.2.2) (y.1).length 1 9 ((y.1).map S)]) (fun (y : List Str × Nat × Option Addr × Nat) m => (fun (ws : List Str) (fr : Nat) (og : Option Addr) (cg : Nat) => (ws = headW t.kind t.name t.param) ∧ (fr = fromC t.kind t.kids.length) ∧ (4 < t.kind ∨ t.kind < 1)) y.1 y.2.1 y.2.2.1 y.2.2.2) (([], 0, none, 0)) ⟨hst4, MLe.refl _, hfr4.sub (.cons rfl <| .cons rfl <| .cons rfl <| .cons rfl <| .nil), trivial⟩ (fun y a5 w5 m5 hh5 => ?_) (fun K7 hj7 => ?_)
  · have hst5 := hh5.st; have hle5 := hh5.le; have hfr5 := hh5.fr; have hrel := hh5.rel; clear hh5
    replace hkk_t := hkk_t.mono hle5
    replace haa_t := haa_t.mono hle5
    replace hc1 := hc1.mono hle5
    clear hst4 hfr4
    obtain ⟨ws, fr, og, cg⟩ := y
    dsimp only at hrel hfr5 hst5
    obtain ⟨hws, hfr9, hk4⟩ := hrel
    subst hws
    subst hfr9
    refine seq_any fun _ hK8 => ?_
    refine seq_any fun _ hK9 => ?_
    refine rp0 hst5 hfr5 (.cons rfl (ob_fieldAddrO (off := 4) rfl Tryd.underlying25 rfl rfl Tryd.sizeOf22 rfl) <| .cons rfl (ob_load1 rfl hc1 Tryd.isAgg22 rfl) <| .cons rfl (ob_len rfl Tryd.underlying22) <| .cons rfl (ob_move rfl) <| .nil) ?_
    intro a6 w6 m6 hst6 hle6 hk6
    have hfr6 := hk6.fr (T' := [(5, _), (1, _), (3, _), (4, _), (110, _), (111, _), (112, _)]) (.old rfl rfl <| .old rfl rfl <| .old rfl rfl <| .old rfl rfl <| .new rfl <| .new rfl <| .new rfl <| .nil)
    replace hkk_t := hkk_t.mono hle6
    replace haa_t := haa_t.mono hle6
    replace hc1 := hc1.mono hle6
    clear hst5 hfr5 hk6
    refine hK9 _ _ ?_; clear hK9
    refine wp_block ?_
    refine loop_any (T := [(5, _), (1, _), (3, _), (4, _), (110, _), (111, _)]) (fun (y : Nat × List Str × Option Addr × Nat) => ([(112, .int .i64 (y.1 : Int))] : List (Nat × Value))) (fun y => [.blk (.pointer (some ⟨gL, 0, none⟩)) (.cells [.slice y.2.2.1 (y.2.1).length y.2.2.2].toArray 29), .row (.slice y.2.2.1 (y.2.1).length y.2.2.2) (y.2.1).length 1 9 ((y.2.1).map S)]) (fun (y : Nat × List Str × Option Addr × Nat) m => (fun (y : Nat) (wk : List Str) (ok : Option Addr) (ck : Nat) => (y ≤ t.kids.length) ∧ (wk ++ kidsW (fromC t.kind t.kids.length) y (t.kids.drop y) = headW t.kind t.name t.param ++ kidsW (fromC t.kind t.kids.length) 0 t.kids)) y.1 y.2.1 y.2.2.1 y.2.2.2) (fun y => t.kids.length - y.1) ((0, headW t.kind t.name t.param, og, cg)) ⟨hst6, MLe.refl _, hfr6.sub (.cons rfl <| .cons rfl <| .cons rfl <| .cons rfl <| .cons rfl <| .cons rfl <| .cons rfl <| .nil), ⟨Nat.zero_le _, rfl⟩⟩ fun y a7 w7 m7 hh7 => ?_
    have hst7 := hh7.st; have hle7 := hh7.le; have hfr7 := hh7.fr; have hrel := hh7.rel; clear hh7
    replace hkk_t := hkk_t.mono hle7
    replace haa_t := haa_t.mono hle7
    replace hc1 := hc1.mono hle7
    clear hst6 hfr6
    obtain ⟨y, wk, ok, ck⟩ := y
    dsimp only at hrel hfr7 hst7
    obtain ⟨hyn, hwk⟩ := hrel
    have hlh7 := hle7
    refine seq_any fun _ hK11 => ?_
    refine rp0 hst7 hfr7 (.cons rfl (ob_lss rfl rfl) <| .nil) ?_
    intro a8 w8 m8 hst8 hle8 hk8
    have hfr8 := hk8.fr (T' := [(112, _), (5, _), (1, _), (3, _), (4, _), (110, _), (111, _), (113, _)]) (.old rfl rfl <| .old rfl rfl <| .old rfl rfl <| .old rfl rfl <| .old rfl rfl <| .old rfl rfl <| .old rfl rfl <| .new rfl <| .nil)
    replace hkk_t := hkk_t.mono hle8
    replace haa_t := haa_t.mono hle8
    replace hc1 := hc1.mono hle8
    have hlh8 := hlh7.trans hle8
    clear hst7 hfr7 hk8
    refine hK11 _ _ ?_; clear hK11
    refine seq_any fun _ hK12 => ?_
    refine cond_any hfr8 rfl rfl (fun hb113 => ?_) (fun hb113 => ?_)
    · try simp only [nq1, nq2, nq3, nq4, nq5, nq6, nq7, nq8, nq9, u8_eq] at hb113
      refine wp_skip ?_
      refine hK12 _ _ ?_; clear hK12
      refine seq_any fun _ hK13 => ?_
      refine wp_block ?_
      refine seq_any fun _ hK14 => ?_
      obtain ⟨p15, vs15, x15, ho15, hd15, hm_x15, ht15, hcv15, hl15, hv15⟩ := hkk_t.nth (k := y) (by omega)
      cases ho15
      obtain ⟨⟨oK15, cK15, oA15, cA15⟩, rfl, ⟨hik15, hin15⟩, hkk15, haa15⟩ := hv15.open_
      dsimp only at hkk15 haa15
      have hbg15 := hkk15.big; have hcp15 := hkk15.cap; have hbh15 := haa15.big; have hcq15 := haa15.cap
      replace hst8 := hst8.more (r := .free) trivial List.nodup_nil (by simp [Res.blocks])
      refine ra0 (tch := [(3, 2, (fun v => .blk v _)), (5, 2, (fun v => .blk v _))]) hst8 hfr8 (.cons rfl (ob_move rfl) <| .cons rfl (ob_indexAddr (k := y) rfl rfl Tryd.underlying22 Tryd.sizeOf25 rfl (by omega)) <| .cons rfl (ob_loadS' rfl hcv15 Tryd.isAgg25 Tryd.sizeOf25 rfl rfl) <| .consT rfl rfl (fun _ => rfl) rfl (ob_allocL Tryd.zeroValue25 rfl) <| .cons rfl (ob_assign rfl) <| .consT rfl rfl (fun _ => rfl) rfl (ob_imgT 7 rfl rfl rfl fun y7 => ob_storeF rfl rfl rfl rfl rfl Tryd.sizeOf25 rfl rfl rfl) <| .nil) ?_
      intro a9 w9 m9 hst9 hle9 hk9
      have hfr9 := hk9.fr (T' := [(112, _), (5, _), (1, _), (3, _), (4, _), (110, _), (111, _), (6, _)]) (.old rfl rfl <| .old rfl rfl <| .old rfl rfl <| .old rfl rfl <| .old rfl rfl <| .old rfl rfl <| .old rfl rfl <| .new rfl <| .nil)
      obtain ⟨g16, e16, _⟩ := hk9.ex 7 rfl
      replace hfr9 := hfr9.cons e16
      replace hst9 := hst9.fin (L' := [_, _, _]) (.cons e16 <| .cons e16 <| .nil)
      try simp only [List.take_succ_cons, List.take_zero, List.drop_succ_cons, List.drop_zero, List.cons_append, List.nil_append, List.append_nil, List.length_cons, List.length_nil, Nat.zero_add, Nat.reduceAdd] at hst9
      replace hv15 := hv15.mono hle9
      have hlh9 := hlh8.trans hle9
      clear hst8 hfr8 hk9
      rw [hd15, kidsW_cons] at hwk
      have hbk9 := bulk_kid hm_x15
      have hlk9 : wk.length ≤ bulkC t := by have h1 := congrArg List.length hwk; have h2 := hwl; unfold wordsC at h2; simp only [List.length_append, List.length_cons] at h1 h2; omega
      refine hK14 _ _ ?_; clear hK14
      refine seq_any fun _ hK17 => ?_
      refine rp0 hst9 hfr9 (.cons rfl (ob_move rfl) <| .cons rfl (ob_move rfl) <| .cons rfl (ob_lss rfl rfl) <| .nil) ?_
      intro a10 w10 m10 hst10 hle10 hk10
      have hfr10 := hk10.fr (T' := [(112, _), (5, _), (1, _), (3, _), (4, _), (110, _), (111, _), (7, _), (119, _)]) (.old rfl rfl <| .old rfl rfl <| .old rfl rfl <| .old rfl rfl <| .old rfl rfl <| .old rfl rfl <| .old rfl rfl <| .old rfl rfl <| .new rfl <| .nil)
      replace hv15 := hv15.mono hle10
      have hlh10 := hlh9.trans hle10
      clear hst9 hfr9 hk10
      refine hK17 _ _ ?_; clear hK17
      refine cond_any hfr10 rfl rfl (fun hb119 => ?_) (fun hb119 => ?_)
      · try simp only [nq1, nq2, nq3, nq4, nq5, nq6, nq7, nq8, nq9, u8_eq] at hb119
        refine region_cut 4 (by kernel_rfl) ?_
        refine ops_seq (tch := []) hst10 hfr10 (by kernel_rfl) (by kernel_rfl) (by kernel_rfl) (.cons rfl (ob_move rfl) <| .cons rfl (ob_loadLA (j := 2) rfl rfl Tryd.isAgg25 Tryd.sizeOf25 rfl) <| .cons rfl (ob_callE rfl (.cons rfl <| .nil) Tryd.call56 (fun w m hK => by have hle_ := KC.le hK; have hA := KC.agree hK; have hT := tab_keep hT hK.st.ext; have hv15 := hv15.mono hle_; exact plainT_c hA hv15 hT (ihk x15 hm_x15) (by omega))) <| .cons rfl (ob_buildSlice (.cons rfl <| .nil) Tryd.underlying29 Tryd.sizeOf9 Tryd.zeroValue9 rfl rfl rfl rfl) <| .nil) ?_
        intro a11 w11 m11 hst11 hle11 hk11
        have hfr11 := hk11.fr (T' := [(112, _), (5, _), (1, _), (3, _), (4, _), (110, _), (111, _), (7, _), (120, _)]) (.old rfl rfl <| .old rfl rfl <| .old rfl rfl <| .old rfl rfl <| .old rfl rfl <| .old rfl rfl <| .old rfl rfl <| .old rfl rfl <| .new rfl <| .nil)
        obtain ⟨gs9, e18, hs9⟩ := hk11.ex 123 rfl
        replace hfr11 := hfr11.cons e18
        have hlh11 := hlh10.trans hle11
        clear hst10 hfr10 hk11
        refine call_res [] [_] [_, _] hst11 hfr11 rfl (.cons rfl <| .nil) Tryd.call53 (add_c (l := wk) (ws := [plainC x15]) hst11.agree (strs_row (l := [plainC x15]) hs9 (by simp)) (hst11.sub (A := []) (B := [_]) (rs := [_, _])) (by simp only [List.length_cons, List.length_nil, List.length_append]; omega)) ?_
        intro vr12 w12 m12 rs12 hst12 hle12 hp12
        obtain ⟨oq, cq, rfl⟩ := hp12
        simp only [List.nil_append, List.cons_append] at hst12
        have hfr12 := (hfr11.sub (T' := [(112, _), (5, _), (1, _), (3, _), (4, _), (110, _), (111, _), (7, _), (120, _), (123, _)]) (.cons rfl <| .cons rfl <| .cons rfl <| .cons rfl <| .cons rfl <| .cons rfl <| .cons rfl <| .cons rfl <| .cons rfl <| .cons rfl <| .nil)).put (d := 124) (v := vr12) (by kernel_rfl) rfl
        have hlh12 := hlh11.trans hle12
        clear hst11 hfr11
        have hkw9 : kidW (fromC t.kind t.kids.length) y x15 = plainC x15 := by unfold kidW; rw [if_pos (by omega)]
        rw [← hkw9] at hst12
        refine hK13 _ _ ?_; clear hK13
        refine rp0 hst12 hfr12 (.cons rfl (ob_add rfl rfl ⟨by omega, by omega⟩) <| .cons rfl (ob_move rfl) <| .nil) ?_
        intro a13 w13 m13 hst13 hle13 hk13
        have hfr13 := hk13.fr (T' := [(5, _), (1, _), (3, _), (4, _), (110, _), (111, _), (112, _)]) (.old rfl rfl <| .old rfl rfl <| .old rfl rfl <| .old rfl rfl <| .old rfl rfl <| .old rfl rfl <| .new rfl <| .nil)
        have hlh13 := hlh12.trans hle13
        clear hst12 hfr12 hk13
        have hst13 := hst13.take 2
        exact ⟨(y + 1, (wk ++ [kidW (fromC t.kind t.kids.length) y x15]), oq, cq), m13, by show t.kids.length - (y + 1) < t.kids.length - y; omega, ⟨hst13, hlh13, hfr13.sub (.cons rfl <| .cons rfl <| .cons rfl <| .cons rfl <| .cons rfl <| .cons rfl <| .cons rfl <| .nil), ⟨by show y + 1 ≤ t.kids.length; omega, by rw [List.append_assoc]; exact hwk⟩⟩⟩
      · try simp only [nq1, nq2, nq3, nq4, nq5, nq6, nq7, nq8, nq9, u8_eq] at hb119
        refine region_cut 4 (by kernel_rfl) ?_
        refine ops_seq (tch := []) hst10 hfr10 (by kernel_rfl) (by kernel_rfl) (by kernel_rfl) (.cons rfl (ob_move rfl) <| .cons rfl (ob_loadLA (j := 2) rfl rfl Tryd.isAgg25 Tryd.sizeOf25 rfl) <| .cons rfl (ob_callE rfl (.cons rfl <| .nil) Tryd.call57 (fun w m hK => by have hle_ := KC.le hK; have hA := KC.agree hK; have hT := tab_keep hT hK.st.ext; have hv15 := hv15.mono hle_; exact braces_c hA hv15 hT (ihk x15 hm_x15) (by omega))) <| .cons rfl (ob_buildSlice (.cons rfl <| .nil) Tryd.underlying29 Tryd.sizeOf9 Tryd.zeroValue9 rfl rfl rfl rfl) <| .nil) ?_
        intro a11 w11 m11 hst11 hle11 hk11
        have hfr11 := hk11.fr (T' := [(112, _), (5, _), (1, _), (3, _), (4, _), (110, _), (111, _), (7, _), (125, _)]) (.old rfl rfl <| .old rfl rfl <| .old rfl rfl <| .old rfl rfl <| .old rfl rfl <| .old rfl rfl <| .old rfl rfl <| .old rfl rfl <| .new rfl <| .nil)
        obtain ⟨gs9, e19, hs9⟩ := hk11.ex 128 rfl
        replace hfr11 := hfr11.cons e19
        have hlh11 := hlh10.trans hle11
        clear hst10 hfr10 hk11
        refine call_res [] [_] [_, _] hst11 hfr11 rfl (.cons rfl <| .nil) Tryd.call53 (add_c (l := wk) (ws := [bracesC x15]) hst11.agree (strs_row (l := [bracesC x15]) hs9 (by simp)) (hst11.sub (A := []) (B := [_]) (rs := [_, _])) (by simp only [List.length_cons, List.length_nil, List.length_append]; omega)) ?_
        intro vr12 w12 m12 rs12 hst12 hle12 hp12
        obtain ⟨oq, cq, rfl⟩ := hp12
        simp only [List.nil_append, List.cons_append] at hst12
        have hfr12 := (hfr11.sub (T' := [(112, _), (5, _), (1, _), (3, _), (4, _), (110, _), (111, _), (7, _), (125, _), (128, _)]) (.cons rfl <| .cons rfl <| .cons rfl <| .cons rfl <| .cons rfl <| .cons rfl <| .cons rfl <| .cons rfl <| .cons rfl <| .cons rfl <| .nil)).put (d := 129) (v := vr12) (by kernel_rfl) rfl
        have hlh12 := hlh11.trans hle12
        clear hst11 hfr11
        have hkw9 : kidW (fromC t.kind t.kids.length) y x15 = bracesC x15 := by unfold kidW; rw [if_neg (by omega)]
        rw [← hkw9] at hst12
        refine hK13 _ _ ?_; clear hK13
        refine rp0 hst12 hfr12 (.cons rfl (ob_add rfl rfl ⟨by omega, by omega⟩) <| .cons rfl (ob_move rfl) <| .nil) ?_
        intro a13 w13 m13 hst13 hle13 hk13
        have hfr13 := hk13.fr (T' := [(5, _), (1, _), (3, _), (4, _), (110, _), (111, _), (112, _)]) (.old rfl rfl <| .old rfl rfl <| .old rfl rfl <| .old rfl rfl <| .old rfl rfl <| .old rfl rfl <| .new rfl <| .nil)
        have hlh13 := hlh12.trans hle13
        clear hst12 hfr12 hk13
        have hst13 := hst13.take 2
        exact ⟨(y + 1, (wk ++ [kidW (fromC t.kind t.kids.length) y x15]), oq, cq), m13, by show t.kids.length - (y + 1) < t.kids.length - y; omega, ⟨hst13, hlh13, hfr13.sub (.cons rfl <| .cons rfl <| .cons rfl <| .cons rfl <| .cons rfl <| .cons rfl <| .cons rfl <| .nil), ⟨by show y + 1 ≤ t.kids.length; omega, by rw [List.append_assoc]; exact hwk⟩⟩⟩
    · try simp only [nq1, nq2, nq3, nq4, nq5, nq6, nq7, nq8, nq9, u8_eq] at hb113
      have hge : y = t.kids.length := by omega
      rw [List.drop_of_length_le (by omega), kidsW, List.append_nil] at hwk
      refine wp_exit ?_
      refine hK8 _ _ ?_; clear hK8
      refine seq_any fun _ hK20 => ?_
      refine seq_any fun _ hK21 => ?_
      refine rp0 hst8 hfr8 (.cons rfl (ob_fieldAddrO (off := 5) rfl Tryd.underlying25 rfl rfl Tryd.sizeOf23 rfl) <| .cons rfl (ob_load1 rfl hc1 Tryd.isAgg23 rfl) <| .cons rfl (ob_len rfl Tryd.underlying23) <| .cons rfl (ob_move rfl) <| .nil) ?_
      intro a9 w9 m9 hst9 hle9 hk9
      have hfr9 := hk9.fr (T' := [(112, _), (5, _), (3, _), (4, _), (132, _), (133, _), (134, _)]) (.old rfl rfl <| .old rfl rfl <| .old rfl rfl <| .old rfl rfl <| .new rfl <| .new rfl <| .new rfl <| .nil)
      replace haa_t := haa_t.mono hle9
      have hlh9 := hlh8.trans hle9
      clear hst8 hfr8 hk9
      refine hK21 _ _ ?_; clear hK21
      refine wp_block ?_
      have hlq22 := hlh9
      refine loop_any (T := [(112, _), (5, _), (3, _), (4, _), (132, _), (133, _)]) (fun (y : Nat × List Str × Option Addr × Nat) => ([(134, .int .i64 (y.1 : Int))] : List (Nat × Value))) (fun y => [.blk (.pointer (some ⟨gL, 0, none⟩)) (.cells [.slice y.2.2.1 (y.2.1).length y.2.2.2].toArray 29), .row (.slice y.2.2.1 (y.2.1).length y.2.2.2) (y.2.1).length 1 9 ((y.2.1).map S)]) (fun (y : Nat × List Str × Option Addr × Nat) m => (fun (y : Nat) (wa : List Str) (oa : Option Addr) (ca : Nat) => (y ≤ t.arms.length) ∧ (wa ++ armsW (t.arms.drop y) = wordsC t)) y.1 y.2.1 y.2.2.1 y.2.2.2) (fun y => t.arms.length - y.1) ((0, wk, ok, ck)) ⟨hst9, MLe.refl _, hfr9.sub (.cons rfl <| .cons rfl <| .cons rfl <| .cons rfl <| .cons rfl <| .cons rfl <| .cons rfl <| .nil), ⟨Nat.zero_le _, by rw [hwk]; rfl⟩⟩ fun y a10 w10 m10 hh10 => ?_
      have hst10 := hh10.st; have hle10 := hh10.le; have hfr10 := hh10.fr; have hrel := hh10.rel; clear hh10
      replace haa_t := haa_t.mono hle10
      clear hst9 hfr9
      obtain ⟨y, wa, oa, ca⟩ := y
      dsimp only at hrel hfr10 hst10
      obtain ⟨hyn, hwa⟩ := hrel
      have hlh10 := hle10
      refine seq_any fun _ hK23 => ?_
      refine rp0 hst10 hfr10 (.cons rfl (ob_lss rfl rfl) <| .nil) ?_
      intro a11 w11 m11 hst11 hle11 hk11
      have hfr11 := hk11.fr (T' := [(134, _), (112, _), (5, _), (3, _), (4, _), (132, _), (133, _), (135, _)]) (.old rfl rfl <| .old rfl rfl <| .old rfl rfl <| .old rfl rfl <| .old rfl rfl <| .old rfl rfl <| .old rfl rfl <| .new rfl <| .nil)
      replace haa_t := haa_t.mono hle11
      have hlh11 := hlh10.trans hle11
      clear hst10 hfr10 hk11
      refine hK23 _ _ ?_; clear hK23
      refine seq_any fun _ hK24 => ?_
      refine cond_any hfr11 rfl rfl (fun hb135 => ?_) (fun hb135 => ?_)
      · try simp only [nq1, nq2, nq3, nq4, nq5, nq6, nq7, nq8, nq9, u8_eq] at hb135
        refine wp_skip ?_
        refine hK24 _ _ ?_; clear hK24
        refine seq_any fun _ hK25 => ?_
        refine wp_block ?_
        refine seq_any fun _ hK26 => ?_
        obtain ⟨p27, vs27, x27, ho27, hd27, hm_x27, ht27, hcv27, hl27, hv27⟩ := haa_t.nth (k := y) (by omega)
        cases ho27
        obtain ⟨oV27, cV27, bs27, rfl, hva27, hbd27⟩ := hv27.open_
        have hbv27 := hva27.big; have hcv27_ := hva27.cap
        obtain ⟨⟨oK27b, cK27b, oA27b, cA27b⟩, rfl, ⟨hik27b, hin27b⟩, hkk27b, haa27b⟩ := hbd27.open_
        dsimp only at hkk27b haa27b
        have hbg27b := hkk27b.big; have hcp27b := hkk27b.cap; have hbh27b := haa27b.big; have hcq27b := haa27b.cap
        replace hst11 := hst11.more (r := .free) trivial List.nodup_nil (by simp [Res.blocks])
        refine ra0 (tch := [(2, 2, (fun v => .blk v _)), (3, 2, (fun v => .blk v _))]) hst11 hfr11 (.cons rfl (ob_indexAddr (k := y) rfl rfl Tryd.underlying23 Tryd.sizeOf35 rfl (by omega)) <| .cons rfl (ob_loadS' rfl hcv27 Tryd.isAgg35 Tryd.sizeOf35 rfl rfl) <| .consT rfl rfl (fun _ => rfl) rfl (ob_allocL Tryd.zeroValue35 rfl) <| .consT rfl rfl (fun _ => rfl) rfl (ob_imgT 9 rfl rfl rfl fun y9 => ob_storeF rfl rfl rfl rfl rfl Tryd.sizeOf35 rfl rfl rfl) <| .nil) ?_
        intro a12 w12 m12 hst12 hle12 hk12
        have hfr12 := hk12.fr (T' := [(134, _), (112, _), (5, _), (3, _), (4, _), (132, _), (133, _)]) (.old rfl rfl <| .old rfl rfl <| .old rfl rfl <| .old rfl rfl <| .old rfl rfl <| .old rfl rfl <| .old rfl rfl <| .nil)
        obtain ⟨g28, e28, _⟩ := hk12.ex 9 rfl
        replace hfr12 := hfr12.cons e28
        replace hst12 := hst12.fin (L' := [_, _, _]) (.cons e28 <| .cons e28 <| .nil)
        try simp only [List.take_succ_cons, List.take_zero, List.drop_succ_cons, List.drop_zero, List.cons_append, List.nil_append, List.append_nil, List.length_cons, List.length_nil, Nat.zero_add, Nat.reduceAdd] at hst12
        replace hva27 := hva27.mono hle12
        replace hbd27 := hbd27.mono hle12
        have hlh12 := hlh11.trans hle12
        clear hst11 hfr11 hk12
        rw [hd27, armsW_cons] at hwa
        have hba9 := bulk_arm hm_x27
        have hvl9 := sum_len2 x27.vars
        have hla9 : wa.length ≤ bulkC t := by have h1 := congrArg List.length hwa; simp only [List.length_append] at h1; omega
        refine hK26 _ _ ?_; clear hK26
        refine seq_any fun _ hK29 => ?_
        refine region_cut 2 (by kernel_rfl) ?_
        refine ops_seq (tch := []) hst12 hfr12 (by kernel_rfl) (by kernel_rfl) (by kernel_rfl) (.cons rfl (ob_move rfl) <| .cons rfl (ob_buildSlice (.cons rfl <| .nil) Tryd.underlying29 Tryd.sizeOf9 Tryd.zeroValue9 rfl rfl rfl rfl) <| .nil) ?_
        intro a13 w13 m13 hst13 hle13 hk13
        have hfr13 := hk13.fr (T' := [(134, _), (112, _), (5, _), (3, _), (4, _), (132, _), (133, _), (9, _), (138, _)]) (.old rfl rfl <| .old rfl rfl <| .old rfl rfl <| .old rfl rfl <| .old rfl rfl <| .old rfl rfl <| .old rfl rfl <| .old rfl rfl <| .new rfl <| .nil)
        obtain ⟨gs9, e30, hs9⟩ := hk13.ex 139 rfl
        replace hfr13 := hfr13.cons e30
        replace hva27 := hva27.mono hle13
        replace hbd27 := hbd27.mono hle13
        have hlh13 := hlh12.trans hle13
        clear hst12 hfr12 hk13
        refine call_res [] [_] [_, _] hst13 hfr13 rfl (.cons rfl <| .nil) Tryd.call53 (add_c (l := wa) (ws := [[124]]) hst13.agree (strs_row (l := [[124]]) hs9 (by simp)) (hst13.sub (A := []) (B := [_]) (rs := [_, _])) (by simp only [List.length_cons, List.length_nil, List.length_append]; omega)) ?_
        intro vr14 w14 m14 rs14 hst14 hle14 hp14
        obtain ⟨oq, cq, rfl⟩ := hp14
        simp only [List.nil_append, List.cons_append] at hst14
        have hfr14 := (hfr13.sub (T' := [(134, _), (112, _), (5, _), (3, _), (4, _), (132, _), (133, _), (9, _), (138, _), (139, _)]) (.cons rfl <| .cons rfl <| .cons rfl <| .cons rfl <| .cons rfl <| .cons rfl <| .cons rfl <| .cons rfl <| .cons rfl <| .cons rfl <| .nil)).put (d := 140) (v := vr14) (by kernel_rfl) rfl
        replace hva27 := hva27.mono hle14
        replace hbd27 := hbd27.mono hle14
        replace hs9 := hs9.mono hle14
        have hlh14 := hlh13.trans hle14
        clear hst13 hfr13
        refine hK29 _ _ ?_; clear hK29
        refine seq_any fun _ hK31 => ?_
        refine seq_any fun _ hK32 => ?_
        refine rp0 hst14 hfr14 (.cons rfl (ob_fieldAddrO (off := 2) rfl Tryd.underlying35 rfl rfl Tryd.sizeOf4 rfl) <| .cons rfl (ob_loadL (j := 2) rfl rfl Tryd.isAgg4 rfl) <| .nil) ?_
        intro a15 w15 m15 hst15 hle15 hk15
        have hfr15 := hk15.fr (T' := [(134, _), (112, _), (5, _), (3, _), (4, _), (132, _), (133, _), (9, _), (142, _)]) (.old rfl rfl <| .old rfl rfl <| .old rfl rfl <| .old rfl rfl <| .old rfl rfl <| .old rfl rfl <| .old rfl rfl <| .old rfl rfl <| .new rfl <| .nil)
        replace hva27 := hva27.mono hle15
        replace hbd27 := hbd27.mono hle15
        have hlh15 := hlh14.trans hle15
        clear hst14 hfr14 hk15
        refine hK32 _ _ ?_; clear hK32
        refine cond_any hfr15 rfl rfl (fun hb142 => ?_) (fun hb142 => ?_)
        · try simp only [nq1, nq2, nq3, nq4, nq5, nq6, nq7, nq8, nq9, u8_eq] at hb142
          refine region_cut 2 (by kernel_rfl) ?_
          refine ops_seq (tch := []) hst15 hfr15 (by kernel_rfl) (by kernel_rfl) (by kernel_rfl) (.cons rfl (ob_move rfl) <| .cons rfl (ob_buildSlice (.cons rfl <| .nil) Tryd.underlying29 Tryd.sizeOf9 Tryd.zeroValue9 rfl rfl rfl rfl) <| .nil) ?_
          intro a16 w16 m16 hst16 hle16 hk16
          have hfr16 := hk16.fr (T' := [(134, _), (112, _), (5, _), (3, _), (4, _), (132, _), (133, _), (9, _), (143, _)]) (.old rfl rfl <| .old rfl rfl <| .old rfl rfl <| .old rfl rfl <| .old rfl rfl <| .old rfl rfl <| .old rfl rfl <| .old rfl rfl <| .new rfl <| .nil)
          obtain ⟨gs9, e33, hs9⟩ := hk16.ex 144 rfl
          replace hfr16 := hfr16.cons e33
          replace hva27 := hva27.mono hle16
          replace hbd27 := hbd27.mono hle16
          have hlh16 := hlh15.trans hle16
          clear hst15 hfr15 hk16
          refine call_res [] [_] [_, _] hst16 hfr16 rfl (.cons rfl <| .nil) Tryd.call53 (add_c (l := (wa ++ [[124]])) (ws := [[116, 97, 105, 108]]) hst16.agree (strs_row (l := [[116, 97, 105, 108]]) hs9 (by simp)) (hst16.sub (A := []) (B := [_]) (rs := [_, _])) (by simp only [List.length_cons, List.length_nil, List.length_append]; omega)) ?_
          intro vr17 w17 m17 rs17 hst17 hle17 hp17
          obtain ⟨oq, cq, rfl⟩ := hp17
          simp only [List.nil_append, List.cons_append] at hst17
          have hfr17 := (hfr16.sub (T' := [(134, _), (112, _), (5, _), (3, _), (4, _), (132, _), (133, _), (9, _), (143, _), (144, _)]) (.cons rfl <| .cons rfl <| .cons rfl <| .cons rfl <| .cons rfl <| .cons rfl <| .cons rfl <| .cons rfl <| .cons rfl <| .cons rfl <| .nil)).put (d := 145) (v := vr17) (by kernel_rfl) rfl
          replace hva27 := hva27.mono hle17
          replace hbd27 := hbd27.mono hle17
          replace hs9 := hs9.mono hle17
          have hlh17 := hlh16.trans hle17
          clear hst16 hfr16
          refine hK31 _ _ ?_; clear hK31
          refine seq_any fun _ hK34 => ?_
          refine region_cut 4 (by kernel_rfl) ?_
          refine ops_seq (tch := []) hst17 hfr17 (by kernel_rfl) (by kernel_rfl) (by kernel_rfl) (.cons rfl (ob_move rfl) <| .cons rfl (ob_fieldAddrO (off := 0) rfl Tryd.underlying35 rfl rfl Tryd.sizeOf9 rfl) <| .cons rfl (ob_loadL (j := 2) rfl rfl Tryd.isAgg9 rfl) <| .cons rfl (ob_buildSlice (.cons rfl <| .nil) Tryd.underlying29 Tryd.sizeOf9 Tryd.zeroValue9 rfl rfl rfl rfl) <| .nil) ?_
          intro a18 w18 m18 hst18 hle18 hk18
          have hfr18 := hk18.fr (T' := [(134, _), (112, _), (5, _), (3, _), (4, _), (132, _), (133, _), (9, _), (143, _), (144, _), (146, _)]) (.old rfl rfl <| .old rfl rfl <| .old rfl rfl <| .old rfl rfl <| .old rfl rfl <| .old rfl rfl <| .old rfl rfl <| .old rfl rfl <| .old rfl rfl <| .old rfl rfl <| .new rfl <| .nil)
          obtain ⟨gs9, e35, hs9⟩ := hk18.ex 149 rfl
          replace hfr18 := hfr18.cons e35
          replace hva27 := hva27.mono hle18
          replace hbd27 := hbd27.mono hle18
          have hlh18 := hlh17.trans hle18
          clear hst17 hfr17 hk18
          refine call_res [] [_] [_, _] hst18 hfr18 rfl (.cons rfl <| .nil) Tryd.call53 (add_c (l := ((wa ++ [[124]]) ++ [[116, 97, 105, 108]])) (ws := [x27.name]) hst18.agree (strs_row (l := [x27.name]) hs9 (by simp)) (hst18.sub (A := []) (B := [_]) (rs := [_, _])) (by simp only [List.length_cons, List.length_nil, List.length_append]; omega)) ?_
          intro vr19 w19 m19 rs19 hst19 hle19 hp19
          obtain ⟨oq, cq, rfl⟩ := hp19
          simp only [List.nil_append, List.cons_append] at hst19
          have hfr19 := (hfr18.sub (T' := [(134, _), (112, _), (5, _), (3, _), (4, _), (132, _), (133, _), (9, _), (143, _), (144, _), (146, _), (149, _)]) (.cons rfl <| .cons rfl <| .cons rfl <| .cons rfl <| .cons rfl <| .cons rfl <| .cons rfl <| .cons rfl <| .cons rfl <| .cons rfl <| .cons rfl <| .cons rfl <| .nil)).put (d := 150) (v := vr19) (by kernel_rfl) rfl
          replace hva27 := hva27.mono hle19
          replace hbd27 := hbd27.mono hle19
          replace hs9 := hs9.mono hle19
          have hlh19 := hlh18.trans hle19
          clear hst18 hfr18
          refine hK34 _ _ ?_; clear hK34
          refine seq_any fun _ hK36 => ?_
          refine region_cut 3 (by kernel_rfl) ?_
          refine ops_seq (tch := []) hst19 hfr19 (by kernel_rfl) (by kernel_rfl) (by kernel_rfl) (.cons rfl (ob_move rfl) <| .cons rfl (ob_fieldAddrO (off := 1) rfl Tryd.underlying35 rfl rfl Tryd.sizeOf29 rfl) <| .cons rfl (ob_loadL (j := 2) rfl rfl Tryd.isAgg29 rfl) <| .nil) ?_
          intro a20 w20 m20 hst20 hle20 hk20
          have hfr20 := hk20.fr (T' := [(134, _), (112, _), (5, _), (3, _), (4, _), (132, _), (133, _), (9, _), (143, _), (144, _), (146, _), (149, _), (151, _), (153, _)]) (.old rfl rfl <| .old rfl rfl <| .old rfl rfl <| .old rfl rfl <| .old rfl rfl <| .old rfl rfl <| .old rfl rfl <| .old rfl rfl <| .old rfl rfl <| .old rfl rfl <| .old rfl rfl <| .old rfl rfl <| .new rfl <| .new rfl <| .nil)
          replace hva27 := hva27.mono hle20
          replace hbd27 := hbd27.mono hle20
          have hlh20 := hlh19.trans hle20
          clear hst19 hfr19 hk20
          refine call_res [] [_] [_, _] hst20 hfr20 rfl (.cons rfl <| .nil) Tryd.call53 (add_c (l := (((wa ++ [[124]]) ++ [[116, 97, 105, 108]]) ++ [x27.name])) (ws := x27.vars) hst20.agree hva27 (hst20.sub (A := []) (B := [_]) (rs := [_, _])) (by simp only [List.length_cons, List.length_nil, List.length_append]; omega)) ?_
          intro vr21 w21 m21 rs21 hst21 hle21 hp21
          obtain ⟨oq, cq, rfl⟩ := hp21
          simp only [List.nil_append, List.cons_append] at hst21
          have hfr21 := (hfr20.sub (T' := [(134, _), (112, _), (5, _), (3, _), (4, _), (132, _), (133, _), (9, _), (143, _), (144, _), (146, _), (149, _), (151, _), (153, _)]) (.cons rfl <| .cons rfl <| .cons rfl <| .cons rfl <| .cons rfl <| .cons rfl <| .cons rfl <| .cons rfl <| .cons rfl <| .cons rfl <| .cons rfl <| .cons rfl <| .cons rfl <| .cons rfl <| .nil)).put (d := 154) (v := vr21) (by kernel_rfl) rfl
          replace hbd27 := hbd27.mono hle21
          have hlh21 := hlh20.trans hle21
          clear hst20 hfr20
          refine hK36 _ _ ?_; clear hK36
          refine region_cut 5 (by kernel_rfl) ?_
          refine ops_seq (tch := []) hst21 hfr21 (by kernel_rfl) (by kernel_rfl) (by kernel_rfl) (.cons rfl (ob_move rfl) <| .cons rfl (ob_fieldAddrO (off := 3) rfl Tryd.underlying35 rfl rfl Tryd.sizeOf25 rfl) <| .cons rfl (ob_loadLS (j := 2) rfl rfl Tryd.isAgg25 Tryd.sizeOf25 rfl rfl) <| .cons rfl (ob_callE rfl (.cons rfl <| .nil) Tryd.call57 (fun w m hK => by have hle_ := KC.le hK; have hA := KC.agree hK; have hT := tab_keep hT hK.st.ext; have hbd27 := hbd27.mono hle_; exact braces_c hA hbd27 hT (iha x27 hm_x27) (by omega))) <| .cons rfl (ob_buildSlice (.cons rfl <| .nil) Tryd.underlying29 Tryd.sizeOf9 Tryd.zeroValue9 rfl rfl rfl rfl) <| .nil) ?_
          intro a22 w22 m22 hst22 hle22 hk22
          have hfr22 := hk22.fr (T' := [(134, _), (112, _), (5, _), (3, _), (4, _), (132, _), (133, _), (9, _), (143, _), (144, _), (146, _), (149, _), (151, _), (153, _), (155, _)]) (.old rfl rfl <| .old rfl rfl <| .old rfl rfl <| .old rfl rfl <| .old rfl rfl <| .old rfl rfl <| .old rfl rfl <| .old rfl rfl <| .old rfl rfl <| .old rfl rfl <| .old rfl rfl <| .old rfl rfl <| .old rfl rfl <| .old rfl rfl <| .new rfl <| .nil)
          obtain ⟨gs9, e37, hs9⟩ := hk22.ex 159 rfl
          replace hfr22 := hfr22.cons e37
          have hlh22 := hlh21.trans hle22
          clear hst21 hfr21 hk22
          refine call_res [] [_] [_, _] hst22 hfr22 rfl (.cons rfl <| .nil) Tryd.call53 (add_c (l := ((((wa ++ [[124]]) ++ [[116, 97, 105, 108]]) ++ [x27.name]) ++ x27.vars)) (ws := [bracesC x27.body]) hst22.agree (strs_row (l := [bracesC x27.body]) hs9 (by simp)) (hst22.sub (A := []) (B := [_]) (rs := [_, _])) (by simp only [List.length_cons, List.length_nil, List.length_append]; omega)) ?_
          intro vr23 w23 m23 rs23 hst23 hle23 hp23
          obtain ⟨oq, cq, rfl⟩ := hp23
          simp only [List.nil_append, List.cons_append] at hst23
          have hfr23 := (hfr22.sub (T' := [(134, _), (112, _), (5, _), (3, _), (4, _), (132, _), (133, _), (9, _), (143, _), (144, _), (146, _), (149, _), (151, _), (153, _), (155, _), (159, _)]) (.cons rfl <| .cons rfl <| .cons rfl <| .cons rfl <| .cons rfl <| .cons rfl <| .cons rfl <| .cons rfl <| .cons rfl <| .cons rfl <| .cons rfl <| .cons rfl <| .cons rfl <| .cons rfl <| .cons rfl <| .cons rfl <| .nil)).put (d := 160) (v := vr23) (by kernel_rfl) rfl
          have hlh23 := hlh22.trans hle23
          clear hst22 hfr22
          have haw9 : (((((wa ++ [[124]]) ++ [[116, 97, 105, 108]]) ++ [x27.name]) ++ x27.vars) ++ [bracesC x27.body]) = wa ++ armW x27 := by unfold armW; simp [hb142]
          rw [haw9] at hst23
          refine hK25 _ _ ?_; clear hK25
          refine rp0 hst23 hfr23 (.cons rfl (ob_add rfl rfl ⟨by omega, by omega⟩) <| .cons rfl (ob_move rfl) <| .nil) ?_
          intro a24 w24 m24 hst24 hle24 hk24
          have hfr24 := hk24.fr (T' := [(112, _), (5, _), (3, _), (4, _), (132, _), (133, _), (134, _)]) (.old rfl rfl <| .old rfl rfl <| .old rfl rfl <| .old rfl rfl <| .old rfl rfl <| .old rfl rfl <| .new rfl <| .nil)
          have hlh24 := hlh23.trans hle24
          clear hst23 hfr23 hk24
          have hst24 := hst24.take 2
          exact ⟨(y + 1, (wa ++ armW x27), oq, cq), m24, by show t.arms.length - (y + 1) < t.arms.length - y; omega, ⟨hst24, hlh24, hfr24.sub (.cons rfl <| .cons rfl <| .cons rfl <| .cons rfl <| .cons rfl <| .cons rfl <| .cons rfl <| .nil), ⟨by show y + 1 ≤ t.arms.length; omega, by rw [List.append_assoc]; exact hwa⟩⟩⟩
        · try simp only [nq1, nq2, nq3, nq4, nq5, nq6, nq7, nq8, nq9, u8_eq] at hb142
          refine wp_skip ?_
          refine hK31 _ _ ?_; clear hK31
          refine seq_any fun _ hK38 => ?_
          refine region_cut 4 (by kernel_rfl) ?_
          refine ops_seq (tch := []) hst15 hfr15 (by kernel_rfl) (by kernel_rfl) (by kernel_rfl) (.cons rfl (ob_move rfl) <| .cons rfl (ob_fieldAddrO (off := 0) rfl Tryd.underlying35 rfl rfl Tryd.sizeOf9 rfl) <| .cons rfl (ob_loadL (j := 2) rfl rfl Tryd.isAgg9 rfl) <| .cons rfl (ob_buildSlice (.cons rfl <| .nil) Tryd.underlying29 Tryd.sizeOf9 Tryd.zeroValue9 rfl rfl rfl rfl) <| .nil) ?_
          intro a16 w16 m16 hst16 hle16 hk16
          have hfr16 := hk16.fr (T' := [(134, _), (112, _), (5, _), (3, _), (4, _), (132, _), (133, _), (9, _), (146, _)]) (.old rfl rfl <| .old rfl rfl <| .old rfl rfl <| .old rfl rfl <| .old rfl rfl <| .old rfl rfl <| .old rfl rfl <| .old rfl rfl <| .new rfl <| .nil)
          obtain ⟨gs9, e39, hs9⟩ := hk16.ex 149 rfl
          replace hfr16 := hfr16.cons e39
          replace hva27 := hva27.mono hle16
          replace hbd27 := hbd27.mono hle16
          have hlh16 := hlh15.trans hle16
          clear hst15 hfr15 hk16
          refine call_res [] [_] [_, _] hst16 hfr16 rfl (.cons rfl <| .nil) Tryd.call53 (add_c (l := (wa ++ [[124]])) (ws := [x27.name]) hst16.agree (strs_row (l := [x27.name]) hs9 (by simp)) (hst16.sub (A := []) (B := [_]) (rs := [_, _])) (by simp only [List.length_cons, List.length_nil, List.length_append]; omega)) ?_
          intro vr17 w17 m17 rs17 hst17 hle17 hp17
          obtain ⟨oq, cq, rfl⟩ := hp17
          simp only [List.nil_append, List.cons_append] at hst17
          have hfr17 := (hfr16.sub (T' := [(134, _), (112, _), (5, _), (3, _), (4, _), (132, _), (133, _), (9, _), (146, _), (149, _)]) (.cons rfl <| .cons rfl <| .cons rfl <| .cons rfl <| .cons rfl <| .cons rfl <| .cons rfl <| .cons rfl <| .cons rfl <| .cons rfl <| .nil)).put (d := 150) (v := vr17) (by kernel_rfl) rfl
          replace hva27 := hva27.mono hle17
          replace hbd27 := hbd27.mono hle17
          replace hs9 := hs9.mono hle17
          have hlh17 := hlh16.trans hle17
          clear hst16 hfr16
          refine hK38 _ _ ?_; clear hK38
          refine seq_any fun _ hK40 => ?_
          refine region_cut 3 (by kernel_rfl) ?_
          refine ops_seq (tch := []) hst17 hfr17 (by kernel_rfl) (by kernel_rfl) (by kernel_rfl) (.cons rfl (ob_move rfl) <| .cons rfl (ob_fieldAddrO (off := 1) rfl Tryd.underlying35 rfl rfl Tryd.sizeOf29 rfl) <| .cons rfl (ob_loadL (j := 2) rfl rfl Tryd.isAgg29 rfl) <| .nil) ?_
          intro a18 w18 m18 hst18 hle18 hk18
          have hfr18 := hk18.fr (T' := [(134, _), (112, _), (5, _), (3, _), (4, _), (132, _), (133, _), (9, _), (146, _), (149, _), (151, _), (153, _)]) (.old rfl rfl <| .old rfl rfl <| .old rfl rfl <| .old rfl rfl <| .old rfl rfl <| .old rfl rfl <| .old rfl rfl <| .old rfl rfl <| .old rfl rfl <| .old rfl rfl <| .new rfl <| .new rfl <| .nil)
          replace hva27 := hva27.mono hle18
          replace hbd27 := hbd27.mono hle18
          have hlh18 := hlh17.trans hle18
          clear hst17 hfr17 hk18
          refine call_res [] [_] [_, _] hst18 hfr18 rfl (.cons rfl <| .nil) Tryd.call53 (add_c (l := ((wa ++ [[124]]) ++ [x27.name])) (ws := x27.vars) hst18.agree hva27 (hst18.sub (A := []) (B := [_]) (rs := [_, _])) (by simp only [List.length_cons, List.length_nil, List.length_append]; omega)) ?_
          intro vr19 w19 m19 rs19 hst19 hle19 hp19
          obtain ⟨oq, cq, rfl⟩ := hp19
          simp only [List.nil_append, List.cons_append] at hst19
          have hfr19 := (hfr18.sub (T' := [(134, _), (112, _), (5, _), (3, _), (4, _), (132, _), (133, _), (9, _), (146, _), (149, _), (151, _), (153, _)]) (.cons rfl <| .cons rfl <| .cons rfl <| .cons rfl <| .cons rfl <| .cons rfl <| .cons rfl <| .cons rfl <| .cons rfl <| .cons rfl <| .cons rfl <| .cons rfl <| .nil)).put (d := 154) (v := vr19) (by kernel_rfl) rfl
          replace hbd27 := hbd27.mono hle19
          have hlh19 := hlh18.trans hle19
          clear hst18 hfr18
          refine hK40 _ _ ?_; clear hK40
          refine region_cut 5 (by kernel_rfl) ?_
          refine ops_seq (tch := []) hst19 hfr19 (by kernel_rfl) (by kernel_rfl) (by kernel_rfl) (.cons rfl (ob_move rfl) <| .cons rfl (ob_fieldAddrO (off := 3) rfl Tryd.underlying35 rfl rfl Tryd.sizeOf25 rfl) <| .cons rfl (ob_loadLS (j := 2) rfl rfl Tryd.isAgg25 Tryd.sizeOf25 rfl rfl) <| .cons rfl (ob_callE rfl (.cons rfl <| .nil) Tryd.call57 (fun w m hK => by have hle_ := KC.le hK; have hA := KC.agree hK; have hT := tab_keep hT hK.st.ext; have hbd27 := hbd27.mono hle_; exact braces_c hA hbd27 hT (iha x27 hm_x27) (by omega))) <| .cons rfl (ob_buildSlice (.cons rfl <| .nil) Tryd.underlying29 Tryd.sizeOf9 Tryd.zeroValue9 rfl rfl rfl rfl) <| .nil) ?_
          intro a20 w20 m20 hst20 hle20 hk20
          have hfr20 := hk20.fr (T' := [(134, _), (112, _), (5, _), (3, _), (4, _), (132, _), (133, _), (9, _), (146, _), (149, _), (151, _), (153, _), (155, _)]) (.old rfl rfl <| .old rfl rfl <| .old rfl rfl <| .old rfl rfl <| .old rfl rfl <| .old rfl rfl <| .old rfl rfl <| .old rfl rfl <| .old rfl rfl <| .old rfl rfl <| .old rfl rfl <| .old rfl rfl <| .new rfl <| .nil)
          obtain ⟨gs9, e41, hs9⟩ := hk20.ex 159 rfl
          replace hfr20 := hfr20.cons e41
          have hlh20 := hlh19.trans hle20
          clear hst19 hfr19 hk20
          refine call_res [] [_] [_, _] hst20 hfr20 rfl (.cons rfl <| .nil) Tryd.call53 (add_c (l := (((wa ++ [[124]]) ++ [x27.name]) ++ x27.vars)) (ws := [bracesC x27.body]) hst20.agree (strs_row (l := [bracesC x27.body]) hs9 (by simp)) (hst20.sub (A := []) (B := [_]) (rs := [_, _])) (by simp only [List.length_cons, List.length_nil, List.length_append]; omega)) ?_
          intro vr21 w21 m21 rs21 hst21 hle21 hp21
          obtain ⟨oq, cq, rfl⟩ := hp21
          simp only [List.nil_append, List.cons_append] at hst21
          have hfr21 := (hfr20.sub (T' := [(134, _), (112, _), (5, _), (3, _), (4, _), (132, _), (133, _), (9, _), (146, _), (149, _), (151, _), (153, _), (155, _), (159, _)]) (.cons rfl <| .cons rfl <| .cons rfl <| .cons rfl <| .cons rfl <| .cons rfl <| .cons rfl <| .cons rfl <| .cons rfl <| .cons rfl <| .cons rfl <| .cons rfl <| .cons rfl <| .cons rfl <| .nil)).put (d := 160) (v := vr21) (by kernel_rfl) rfl
          have hlh21 := hlh20.trans hle21
          clear hst20 hfr20
          have haw9 : ((((wa ++ [[124]]) ++ [x27.name]) ++ x27.vars) ++ [bracesC x27.body]) = wa ++ armW x27 := by unfold armW; simp [hb142]
          rw [haw9] at hst21
          refine hK25 _ _ ?_; clear hK25
          refine rp0 hst21 hfr21 (.cons rfl (ob_add rfl rfl ⟨by omega, by omega⟩) <| .cons rfl (ob_move rfl) <| .nil) ?_
          intro a22 w22 m22 hst22 hle22 hk22
          have hfr22 := hk22.fr (T' := [(112, _), (5, _), (3, _), (4, _), (132, _), (133, _), (134, _)]) (.old rfl rfl <| .old rfl rfl <| .old rfl rfl <| .old rfl rfl <| .old rfl rfl <| .old rfl rfl <| .new rfl <| .nil)
          have hlh22 := hlh21.trans hle22
          clear hst21 hfr21 hk22
          have hst22 := hst22.take 2
          exact ⟨(y + 1, (wa ++ armW x27), oq, cq), m22, by show t.arms.length - (y + 1) < t.arms.length - y; omega, ⟨hst22, hlh22, hfr22.sub (.cons rfl <| .cons rfl <| .cons rfl <| .cons rfl <| .cons rfl <| .cons rfl <| .cons rfl <| .nil), ⟨by show y + 1 ≤ t.arms.length; omega, by rw [List.append_assoc]; exact hwa⟩⟩⟩
      · try simp only [nq1, nq2, nq3, nq4, nq5, nq6, nq7, nq8, nq9, u8_eq] at hb135
        have hge : y = t.arms.length := by omega
        rw [List.drop_of_length_le (by omega), armsW, List.append_nil] at hwa
        subst hwa
        refine wp_exit ?_
        refine hK20 _ _ ?_; clear hK20
        refine seq_any fun _ hK42 => ?_
        obtain ⟨o5, c5, e5, hq5, hd5, he5, hx5⟩ := Res.row_at (hst11.loc.at_ (k := 1) rfl)
        obtain ⟨rfl, rfl⟩ : oa = o5 ∧ ca = c5 := by injection e5 with q1 q2 q3; exact ⟨q1, q3⟩
        have hs5 : Strs m11 oa (wordsC t).length ca (wordsC t) := Strs.of_row hq5 rfl hd5 (by omega)
        refine rp0 hst11 hfr11 (.cons rfl (ob_loadL' (j := 0) rfl rfl Tryd.isAgg29 rfl) <| .cons rfl (ob_callE rfl (.cons rfl <| .cons rfl <| .nil) Tryd.call58 (fun w m hK => by have hle_ := KC.le hK; have hA := KC.agree hK; have hs5 := hs5.mono hle_; exact join_c (l := wordsC t) (sep := [32]) hA hs5 (by omega) (by have := join_len1 (wordsC t); unfold joinW at this; omega))) <| .cons rfl (ob_assign rfl) <| .nil) ?_
        intro a12 w12 m12 hst12 hle12 hk12
        have hfr12 := hk12.fr (T' := [(134, _), (112, _), (5, _), (2, _)]) (.old rfl rfl <| .old rfl rfl <| .old rfl rfl <| .new rfl <| .nil)
        have hlh12 := hlh11.trans hle12
        clear hst11 hfr11 hk12
        refine hK42 _ _ ?_; clear hK42
        refine wp_ret ?_
        repeat (with_reducible first | refine then_ret ?_ | refine block_ret ?_)
        exact fn_ret hst12 hfr12 rfl (.tmp rfl <| .nil) (by refine congrArg S ?_; rw [textC_eq, if_neg (by omega), if_neg (by omega), if_neg (by omega), if_neg (by omega)])
  · have hlj7 : MLe m4 m4 := MLe.refl _
    refine seq_any fun _ hK44 => ?_
    refine rp0 hst4 hfr4 (.cons rfl (ob_fieldAddrO (off := 0) rfl Tryd.underlying25 rfl rfl Tryd.sizeOf3 rfl) <| .cons rfl (ob_load1 rfl hc1 Tryd.isAgg3 rfl) <| .nil) ?_
    intro a5 w5 m5 hst5 hle5 hk5
    have hfr5 := hk5.fr (T' := [(1, _), (3, _), (4, _), (5, _), (12, _)]) (.old rfl rfl <| .old rfl rfl <| .old rfl rfl <| .old rfl rfl <| .new rfl <| .nil)
    replace h_t := h_t.mono hle5
    replace hkk_t := hkk_t.mono hle5
    replace haa_t := haa_t.mono hle5
    replace hc1 := hc1.mono hle5
    replace hrow_nm := hrow_nm.mono hle5
    replace hlj7 := hlj7.trans hle5
    clear hst4 hfr4 hk5
    refine hK44 _ _ ?_; clear hK44
    refine wp_block ?_
    refine seq_any fun _ hK45 => ?_
    refine rp0 hst5 hfr5 (.cons rfl (ob_eql rfl rfl) <| .cons rfl (ob_assign rfl) <| .nil) ?_
    intro a6 w6 m6 hst6 hle6 hk6
    have hfr6 := hk6.fr (T' := [(1, _), (3, _), (4, _), (5, _), (12, _), (13, _)]) (.old rfl rfl <| .old rfl rfl <| .old rfl rfl <| .old rfl rfl <| .old rfl rfl <| .new rfl <| .nil)
    replace h_t := h_t.mono hle6
    replace hkk_t := hkk_t.mono hle6
    replace haa_t := haa_t.mono hle6
    replace hc1 := hc1.mono hle6
    replace hrow_nm := hrow_nm.mono hle6
    replace hlj7 := hlj7.trans hle6
    clear hst5 hfr5 hk6
    refine hK45 _ _ ?_; clear hK45
    refine cond_any hfr6 rfl rfl (fun hb13 => ?_) (fun hb13 => ?_)
    · try simp only [nq1, nq2, nq3, nq4, nq5, nq6, nq7, nq8, nq9, u8_eq] at hb13
      refine seq_any fun _ hK46 => ?_
      refine rp0 hst6 hfr6 (.cons rfl (ob_fieldAddrO (off := 1) rfl Tryd.underlying25 rfl rfl Tryd.sizeOf9 rfl) <| .cons rfl (ob_load1 rfl hc1 Tryd.isAgg9 rfl) <| .cons rfl (ob_assign rfl) <| .nil) ?_
      intro a7 w7 m7 hst7 hle7 hk7
      have hfr7 := hk7.fr (T' := [(5, _), (2, _)]) (.old rfl rfl <| .new rfl <| .nil)
      clear hst6 hfr6 hk7
      refine hK46 _ _ ?_; clear hK46
      refine wp_ret ?_
      repeat (with_reducible first | refine then_ret ?_ | refine block_ret ?_)
      exact fn_ret hst7 hfr7 rfl (.tmp rfl <| .nil) (by refine congrArg S ?_; rw [textC_eq, if_pos hb13])
    · try simp only [nq1, nq2, nq3, nq4, nq5, nq6, nq7, nq8, nq9, u8_eq] at hb13
      refine seq_any fun _ hK48 => ?_
      refine rp0 hst6 hfr6 (.cons rfl (ob_eql rfl rfl) <| .cons rfl (ob_assign rfl) <| .nil) ?_
      intro a7 w7 m7 hst7 hle7 hk7
      have hfr7 := hk7.fr (T' := [(1, _), (3, _), (4, _), (5, _), (12, _), (17, _)]) (.old rfl rfl <| .old rfl rfl <| .old rfl rfl <| .old rfl rfl <| .old rfl rfl <| .new rfl <| .nil)
      replace h_t := h_t.mono hle7
      replace hkk_t := hkk_t.mono hle7
      replace haa_t := haa_t.mono hle7
      replace hc1 := hc1.mono hle7
      replace hrow_nm := hrow_nm.mono hle7
      replace hlj7 := hlj7.trans hle7
      clear hst6 hfr6 hk7
      refine hK48 _ _ ?_; clear hK48
      refine cond_any hfr7 rfl rfl (fun hb17 => ?_) (fun hb17 => ?_)
      · try simp only [nq1, nq2, nq3, nq4, nq5, nq6, nq7, nq8, nq9, u8_eq] at hb17
        refine seq_any fun _ hK49 => ?_
        refine rp0 hst7 hfr7 (.cons rfl (ob_fieldAddrO (off := 3) rfl Tryd.underlying25 rfl rfl Tryd.sizeOf3 rfl) <| .cons rfl (ob_load1 rfl hc1 Tryd.isAgg3 rfl) <| .cons rfl (ob_callE rfl (.cons rfl <| .nil) Tryd.call54 (fun w m hK => by have hle_ := KC.le hK; have hA := KC.agree hK; have hT := tab_keep hT hK.st.ext; have h_t := h_t.mono hle_; have hkk_t := hkk_t.mono hle_; have haa_t := haa_t.mono hle_; have hc1 := hc1.mono hle_; have hrow_nm := hrow_nm.mono hle_; exact itoa_c hA hT (by assumption))) <| .cons rfl (ob_assign rfl) <| .nil) ?_
        intro a8 w8 m8 hst8 hle8 hk8
        have hfr8 := hk8.fr (T' := [(5, _), (2, _)]) (.old rfl rfl <| .new rfl <| .nil)
        clear hst7 hfr7 hk8
        refine hK49 _ _ ?_; clear hK49
        refine wp_ret ?_
        repeat (with_reducible first | refine then_ret ?_ | refine block_ret ?_)
        exact fn_ret hst8 hfr8 rfl (.tmp rfl <| .nil) (by refine congrArg S ?_; rw [textC_eq, if_neg hb13, if_pos hb17])
      · try simp only [nq1, nq2, nq3, nq4, nq5, nq6, nq7, nq8, nq9, u8_eq] at hb17
        refine seq_any fun _ hK51 => ?_
        refine rp0 hst7 hfr7 (.cons rfl (ob_eql rfl rfl) <| .cons rfl (ob_assign rfl) <| .nil) ?_
        intro a8 w8 m8 hst8 hle8 hk8
        have hfr8 := hk8.fr (T' := [(1, _), (3, _), (4, _), (5, _), (12, _), (22, _)]) (.old rfl rfl <| .old rfl rfl <| .old rfl rfl <| .old rfl rfl <| .old rfl rfl <| .new rfl <| .nil)
        replace hc1 := hc1.mono hle8
        replace hlj7 := hlj7.trans hle8
        clear hst7 hfr7 hk8
        refine hK51 _ _ ?_; clear hK51
        refine cond_any hfr8 rfl rfl (fun hb22 => ?_) (fun hb22 => ?_)
        · try simp only [nq1, nq2, nq3, nq4, nq5, nq6, nq7, nq8, nq9, u8_eq] at hb22
          refine seq_any fun _ hK52 => ?_
          refine rp0 hst8 hfr8 (.cons rfl (ob_fieldAddrO (off := 3) rfl Tryd.underlying25 rfl rfl Tryd.sizeOf3 rfl) <| .cons rfl (ob_load1 rfl hc1 Tryd.isAgg3 rfl) <| .cons rfl (ob_eql rfl rfl) <| .cons rfl (ob_callE rfl (.cons rfl <| .nil) Tryd.call55 (fun w m hK => by have hle_ := KC.le hK; have hA := KC.agree hK; exact fbool_c hA)) <| .cons rfl (ob_assign rfl) <| .nil) ?_
          intro a9 w9 m9 hst9 hle9 hk9
          have hfr9 := hk9.fr (T' := [(5, _), (2, _)]) (.old rfl rfl <| .new rfl <| .nil)
          clear hst8 hfr8 hk9
          refine hK52 _ _ ?_; clear hK52
          refine wp_ret ?_
          repeat (with_reducible first | refine then_ret ?_ | refine block_ret ?_)
          exact fn_ret hst9 hfr9 rfl (.tmp rfl <| .nil) (by refine congrArg S ?_; rw [textC_eq, if_neg hb13, if_neg hb17, if_pos hb22])
        · try simp only [nq1, nq2, nq3, nq4, nq5, nq6, nq7, nq8, nq9, u8_eq] at hb22
          refine seq_any fun _ hK54 => ?_
          refine rp0 hst8 hfr8 (.cons rfl (ob_eql rfl rfl) <| .cons rfl (ob_assign rfl) <| .nil) ?_
          intro a9 w9 m9 hst9 hle9 hk9
          have hfr9 := hk9.fr (T' := [(1, _), (3, _), (4, _), (5, _), (12, _), (28, _)]) (.old rfl rfl <| .old rfl rfl <| .old rfl rfl <| .old rfl rfl <| .old rfl rfl <| .new rfl <| .nil)
          replace hc1 := hc1.mono hle9
          replace hlj7 := hlj7.trans hle9
          clear hst8 hfr8 hk9
          refine hK54 _ _ ?_; clear hK54
          refine cond_any hfr9 rfl rfl (fun hb28 => ?_) (fun hb28 => ?_)
          · try simp only [nq1, nq2, nq3, nq4, nq5, nq6, nq7, nq8, nq9, u8_eq] at hb28
            refine seq_any fun _ hK55 => ?_
            refine rp0 hst9 hfr9 (.cons rfl (ob_assign rfl) <| .nil) ?_
            intro a10 w10 m10 hst10 hle10 hk10
            have hfr10 := hk10.fr (T' := [(5, _), (2, _)]) (.old rfl rfl <| .new rfl <| .nil)
            clear hst9 hfr9 hk10
            refine hK55 _ _ ?_; clear hK55
            refine wp_ret ?_
            repeat (with_reducible first | refine then_ret ?_ | refine block_ret ?_)
            exact fn_ret hst10 hfr10 rfl (.tmp rfl <| .nil) (by refine congrArg S ?_; rw [textC_eq, if_neg hb13, if_neg hb17, if_neg hb22, if_pos hb28])
          · try simp only [nq1, nq2, nq3, nq4, nq5, nq6, nq7, nq8, nq9, u8_eq] at hb28
            refine seq_any fun _ hK57 => ?_
            refine rp0 hst9 hfr9 (.cons rfl (ob_eql rfl rfl) <| .cons rfl (ob_assign rfl) <| .nil) ?_
            intro a10 w10 m10 hst10 hle10 hk10
            have hfr10 := hk10.fr (T' := [(1, _), (3, _), (4, _), (5, _), (12, _), (30, _)]) (.old rfl rfl <| .old rfl rfl <| .old rfl rfl <| .old rfl rfl <| .old rfl rfl <| .new rfl <| .nil)
            replace hc1 := hc1.mono hle10
            replace hlj7 := hlj7.trans hle10
            clear hst9 hfr9 hk10
            refine hK57 _ _ ?_; clear hK57
            refine cond_any hfr10 rfl rfl (fun hb30 => ?_) (fun hb30 => ?_)
            · try simp only [nq1, nq2, nq3, nq4, nq5, nq6, nq7, nq8, nq9, u8_eq] at hb30
              refine region_cut 4 (by kernel_rfl) ?_
              refine ops_seq (tch := []) hst10 hfr10 (by kernel_rfl) (by kernel_rfl) (by kernel_rfl) (.cons rfl (ob_move rfl) <| .cons rfl (ob_fieldAddrO (off := 1) rfl Tryd.underlying25 rfl rfl Tryd.sizeOf9 rfl) <| .cons rfl (ob_load1 rfl hc1 Tryd.isAgg9 rfl) <| .cons rfl (ob_buildSlice (.cons rfl <| .cons rfl <| .nil) Tryd.underlying29 Tryd.sizeOf9 Tryd.zeroValue9 rfl rfl rfl rfl) <| .nil) ?_
              intro a11 w11 m11 hst11 hle11 hk11
              have hfr11 := hk11.fr (T' := [(1, _), (3, _), (4, _), (5, _), (12, _), (32, _)]) (.old rfl rfl <| .old rfl rfl <| .old rfl rfl <| .old rfl rfl <| .old rfl rfl <| .new rfl <| .nil)
              obtain ⟨gs9, e58, hs9⟩ := hk11.ex 35 rfl
              replace hfr11 := hfr11.cons e58
              replace hlj7 := hlj7.trans hle11
              clear hst10 hfr10 hk11
              refine call_res [] [] [_, _] hst11 hfr11 rfl (.cons rfl <| .nil) Tryd.call53 (add_c (l := []) (ws := [[102, 117, 110], t.name]) hst11.agree (strs_row (l := [[102, 117, 110], t.name]) hs9 (by simp)) (hst11.sub (A := []) (B := []) (rs := [_, _])) (by simp only [List.length_cons, List.length_nil, List.length_append]; omega)) ?_
              intro vr12 w12 m12 rs12 hst12 hle12 hp12
              obtain ⟨oq, cq, rfl⟩ := hp12
              simp only [List.nil_append, List.cons_append] at hst12
              have hfr12 := (hfr11.sub (T' := [(1, _), (3, _), (4, _), (5, _), (12, _), (32, _), (35, _)]) (.cons rfl <| .cons rfl <| .cons rfl <| .cons rfl <| .cons rfl <| .cons rfl <| .cons rfl <| .nil)).put (d := 36) (v := vr12) (by kernel_rfl) rfl
              replace hlj7 := hlj7.trans hle12
              clear hst11 hfr11
              repeat (with_reducible first | refine then_exit ?_ | refine block_exit ?_ | refine block_normal ?_)
              exact hj7 ([[102, 117, 110], t.name], 0, oq, cq) _ _ _ ⟨hst12, hlj7, hfr12.sub (.cons rfl <| .cons rfl <| .cons rfl <| .cons rfl <| .nil), ⟨by unfold headW; simp [*], by unfold fromC; simp [*], by omega⟩⟩
            · try simp only [nq1, nq2, nq3, nq4, nq5, nq6, nq7, nq8, nq9, u8_eq] at hb30
              refine seq_any fun _ hK59 => ?_
              refine rp0 hst10 hfr10 (.cons rfl (ob_eql rfl rfl) <| .cons rfl (ob_assign rfl) <| .nil) ?_
              intro a11 w11 m11 hst11 hle11 hk11
              have hfr11 := hk11.fr (T' := [(1, _), (3, _), (4, _), (5, _), (12, _), (37, _)]) (.old rfl rfl <| .old rfl rfl <| .old rfl rfl <| .old rfl rfl <| .old rfl rfl <| .new rfl <| .nil)
              replace hc1 := hc1.mono hle11
              replace hlj7 := hlj7.trans hle11
              clear hst10 hfr10 hk11
              refine hK59 _ _ ?_; clear hK59
              refine cond_any hfr11 rfl rfl (fun hb37 => ?_) (fun hb37 => ?_)
              · try simp only [nq1, nq2, nq3, nq4, nq5, nq6, nq7, nq8, nq9, u8_eq] at hb37
                refine seq_any fun _ hK60 => ?_
                refine region_cut 2 (by kernel_rfl) ?_
                refine ops_seq (tch := []) hst11 hfr11 (by kernel_rfl) (by kernel_rfl) (by kernel_rfl) (.cons rfl (ob_move rfl) <| .cons rfl (ob_buildSlice (.cons rfl <| .nil) Tryd.underlying29 Tryd.sizeOf9 Tryd.zeroValue9 rfl rfl rfl rfl) <| .nil) ?_
                intro a12 w12 m12 hst12 hle12 hk12
                have hfr12 := hk12.fr (T' := [(1, _), (3, _), (4, _), (5, _), (12, _), (39, _)]) (.old rfl rfl <| .old rfl rfl <| .old rfl rfl <| .old rfl rfl <| .old rfl rfl <| .new rfl <| .nil)
                obtain ⟨gs9, e61, hs9⟩ := hk12.ex 40 rfl
                replace hfr12 := hfr12.cons e61
                replace hlj7 := hlj7.trans hle12
                clear hst11 hfr11 hk12
                refine call_res [] [] [_, _] hst12 hfr12 rfl (.cons rfl <| .nil) Tryd.call53 (add_c (l := []) (ws := [[99, 97, 108, 108]]) hst12.agree (strs_row (l := [[99, 97, 108, 108]]) hs9 (by simp)) (hst12.sub (A := []) (B := []) (rs := [_, _])) (by simp only [List.length_cons, List.length_nil, List.length_append]; omega)) ?_
                intro vr13 w13 m13 rs13 hst13 hle13 hp13
                obtain ⟨oq, cq, rfl⟩ := hp13
                simp only [List.nil_append, List.cons_append] at hst13
                have hfr13 := (hfr12.sub (T' := [(1, _), (3, _), (4, _), (5, _), (12, _), (39, _), (40, _)]) (.cons rfl <| .cons rfl <| .cons rfl <| .cons rfl <| .cons rfl <| .cons rfl <| .cons rfl <| .nil)).put (d := 41) (v := vr13) (by kernel_rfl) rfl
                replace hlj7 := hlj7.trans hle13
                clear hst12 hfr12
                refine hK60 _ _ ?_; clear hK60
                refine rp0 hst13 hfr13 (.cons rfl (ob_assign rfl) <| .nil) ?_
                intro a14 w14 m14 hst14 hle14 hk14
                have hfr14 := hk14.fr (T' := [(1, _), (3, _), (4, _), (5, _)]) (.old rfl rfl <| .old rfl rfl <| .old rfl rfl <| .new rfl <| .nil)
                replace hlj7 := hlj7.trans hle14
                clear hst13 hfr13 hk14
                repeat (with_reducible first | refine then_exit ?_ | refine block_exit ?_ | refine block_normal ?_)
                exact hj7 ([[99, 97, 108, 108]], 2, oq, cq) _ _ _ ⟨hst14, hlj7, hfr14.sub (.cons rfl <| .cons rfl <| .cons rfl <| .cons rfl <| .nil), ⟨by unfold headW; simp [*], by unfold fromC; simp [*], by omega⟩⟩
              · try simp only [nq1, nq2, nq3, nq4, nq5, nq6, nq7, nq8, nq9, u8_eq] at hb37
                refine seq_any fun _ hK62 => ?_
                refine rp0 hst11 hfr11 (.cons rfl (ob_eql rfl rfl) <| .cons rfl (ob_assign rfl) <| .nil) ?_
                intro a12 w12 m12 hst12 hle12 hk12
                have hfr12 := hk12.fr (T' := [(1, _), (3, _), (4, _), (5, _), (12, _), (42, _)]) (.old rfl rfl <| .old rfl rfl <| .old rfl rfl <| .old rfl rfl <| .old rfl rfl <| .new rfl <| .nil)
                replace hc1 := hc1.mono hle12
                replace hlj7 := hlj7.trans hle12
                clear hst11 hfr11 hk12
                refine hK62 _ _ ?_; clear hK62
                refine cond_any hfr12 rfl rfl (fun hb42 => ?_) (fun hb42 => ?_)
                · try simp only [nq1, nq2, nq3, nq4, nq5, nq6, nq7, nq8, nq9, u8_eq] at hb42
                  refine region_cut 4 (by kernel_rfl) ?_
                  refine ops_seq (tch := []) hst12 hfr12 (by kernel_rfl) (by kernel_rfl) (by kernel_rfl) (.cons rfl (ob_move rfl) <| .cons rfl (ob_fieldAddrO (off := 1) rfl Tryd.underlying25 rfl rfl Tryd.sizeOf9 rfl) <| .cons rfl (ob_load1 rfl hc1 Tryd.isAgg9 rfl) <| .cons rfl (ob_buildSlice (.cons rfl <| .cons rfl <| .nil) Tryd.underlying29 Tryd.sizeOf9 Tryd.zeroValue9 rfl rfl rfl rfl) <| .nil) ?_
                  intro a13 w13 m13 hst13 hle13 hk13
                  have hfr13 := hk13.fr (T' := [(1, _), (3, _), (4, _), (5, _), (12, _), (44, _)]) (.old rfl rfl <| .old rfl rfl <| .old rfl rfl <| .old rfl rfl <| .old rfl rfl <| .new rfl <| .nil)
                  obtain ⟨gs9, e63, hs9⟩ := hk13.ex 47 rfl
                  replace hfr13 := hfr13.cons e63
                  replace hlj7 := hlj7.trans hle13
                  clear hst12 hfr12 hk13
                  refine call_res [] [] [_, _] hst13 hfr13 rfl (.cons rfl <| .nil) Tryd.call53 (add_c (l := []) (ws := [[108, 101, 116], t.name]) hst13.agree (strs_row (l := [[108, 101, 116], t.name]) hs9 (by simp)) (hst13.sub (A := []) (B := []) (rs := [_, _])) (by simp only [List.length_cons, List.length_nil, List.length_append]; omega)) ?_
                  intro vr14 w14 m14 rs14 hst14 hle14 hp14
                  obtain ⟨oq, cq, rfl⟩ := hp14
                  simp only [List.nil_append, List.cons_append] at hst14
                  have hfr14 := (hfr13.sub (T' := [(1, _), (3, _), (4, _), (5, _), (12, _), (44, _), (47, _)]) (.cons rfl <| .cons rfl <| .cons rfl <| .cons rfl <| .cons rfl <| .cons rfl <| .cons rfl <| .nil)).put (d := 48) (v := vr14) (by kernel_rfl) rfl
                  replace hlj7 := hlj7.trans hle14
                  clear hst13 hfr13
                  repeat (with_reducible first | refine then_exit ?_ | refine block_exit ?_ | refine block_normal ?_)
                  exact hj7 ([[108, 101, 116], t.name], 0, oq, cq) _ _ _ ⟨hst14, hlj7, hfr14.sub (.cons rfl <| .cons rfl <| .cons rfl <| .cons rfl <| .nil), ⟨by unfold headW; simp [*], by unfold fromC; simp [*], by omega⟩⟩
                · try simp only [nq1, nq2, nq3, nq4, nq5, nq6, nq7, nq8, nq9, u8_eq] at hb42
                  refine seq_any fun _ hK64 => ?_
                  refine rp0 hst12 hfr12 (.cons rfl (ob_eql rfl rfl) <| .cons rfl (ob_assign rfl) <| .nil) ?_
                  intro a13 w13 m13 hst13 hle13 hk13
                  have hfr13 := hk13.fr (T' := [(1, _), (3, _), (4, _), (5, _), (12, _), (49, _)]) (.old rfl rfl <| .old rfl rfl <| .old rfl rfl <| .old rfl rfl <| .old rfl rfl <| .new rfl <| .nil)
                  replace hc1 := hc1.mono hle13
                  replace hlj7 := hlj7.trans hle13
                  clear hst12 hfr12 hk13
                  refine hK64 _ _ ?_; clear hK64
                  refine cond_any hfr13 rfl rfl (fun hb49 => ?_) (fun hb49 => ?_)
                  · try simp only [nq1, nq2, nq3, nq4, nq5, nq6, nq7, nq8, nq9, u8_eq] at hb49
                    refine region_cut 4 (by kernel_rfl) ?_
                    refine ops_seq (tch := []) hst13 hfr13 (by kernel_rfl) (by kernel_rfl) (by kernel_rfl) (.cons rfl (ob_move rfl) <| .cons rfl (ob_fieldAddrO (off := 1) rfl Tryd.underlying25 rfl rfl Tryd.sizeOf9 rfl) <| .cons rfl (ob_load1 rfl hc1 Tryd.isAgg9 rfl) <| .cons rfl (ob_buildSlice (.cons rfl <| .cons rfl <| .nil) Tryd.underlying29 Tryd.sizeOf9 Tryd.zeroValue9 rfl rfl rfl rfl) <| .nil) ?_
                    intro a14 w14 m14 hst14 hle14 hk14
                    have hfr14 := hk14.fr (T' := [(1, _), (3, _), (4, _), (5, _), (12, _), (51, _)]) (.old rfl rfl <| .old rfl rfl <| .old rfl rfl <| .old rfl rfl <| .old rfl rfl <| .new rfl <| .nil)
                    obtain ⟨gs9, e65, hs9⟩ := hk14.ex 54 rfl
                    replace hfr14 := hfr14.cons e65
                    replace hlj7 := hlj7.trans hle14
                    clear hst13 hfr13 hk14
                    refine call_res [] [] [_, _] hst14 hfr14 rfl (.cons rfl <| .nil) Tryd.call53 (add_c (l := []) (ws := [[98, 105, 110, 100], t.name]) hst14.agree (strs_row (l := [[98, 105, 110, 100], t.name]) hs9 (by simp)) (hst14.sub (A := []) (B := []) (rs := [_, _])) (by simp only [List.length_cons, List.length_nil, List.length_append]; omega)) ?_
                    intro vr15 w15 m15 rs15 hst15 hle15 hp15
                    obtain ⟨oq, cq, rfl⟩ := hp15
                    simp only [List.nil_append, List.cons_append] at hst15
                    have hfr15 := (hfr14.sub (T' := [(1, _), (3, _), (4, _), (5, _), (12, _), (51, _), (54, _)]) (.cons rfl <| .cons rfl <| .cons rfl <| .cons rfl <| .cons rfl <| .cons rfl <| .cons rfl <| .nil)).put (d := 55) (v := vr15) (by kernel_rfl) rfl
                    replace hlj7 := hlj7.trans hle15
                    clear hst14 hfr14
                    repeat (with_reducible first | refine then_exit ?_ | refine block_exit ?_ | refine block_normal ?_)
                    exact hj7 ([[98, 105, 110, 100], t.name], 0, oq, cq) _ _ _ ⟨hst15, hlj7, hfr15.sub (.cons rfl <| .cons rfl <| .cons rfl <| .cons rfl <| .nil), ⟨by unfold headW; simp [*], by unfold fromC; simp [*], by omega⟩⟩
                  · try simp only [nq1, nq2, nq3, nq4, nq5, nq6, nq7, nq8, nq9, u8_eq] at hb49
                    refine seq_any fun _ hK66 => ?_
                    refine rp0 hst13 hfr13 (.cons rfl (ob_eql rfl rfl) <| .cons rfl (ob_assign rfl) <| .nil) ?_
                    intro a14 w14 m14 hst14 hle14 hk14
                    have hfr14 := hk14.fr (T' := [(1, _), (3, _), (4, _), (5, _), (12, _), (56, _)]) (.old rfl rfl <| .old rfl rfl <| .old rfl rfl <| .old rfl rfl <| .old rfl rfl <| .new rfl <| .nil)
                    replace hc1 := hc1.mono hle14
                    replace hlj7 := hlj7.trans hle14
                    clear hst13 hfr13 hk14
                    refine hK66 _ _ ?_; clear hK66
                    refine cond_any hfr14 rfl rfl (fun hb56 => ?_) (fun hb56 => ?_)
                    · try simp only [nq1, nq2, nq3, nq4, nq5, nq6, nq7, nq8, nq9, u8_eq] at hb56
                      refine region_cut 6 (by kernel_rfl) ?_
                      refine ops_seq (tch := []) hst14 hfr14 (by kernel_rfl) (by kernel_rfl) (by kernel_rfl) (.cons rfl (ob_move rfl) <| .cons rfl (ob_fieldAddrO (off := 1) rfl Tryd.underlying25 rfl rfl Tryd.sizeOf9 rfl) <| .cons rfl (ob_load1 rfl hc1 Tryd.isAgg9 rfl) <| .cons rfl (ob_fieldAddrO (off := 2) rfl Tryd.underlying25 rfl rfl Tryd.sizeOf9 rfl) <| .cons rfl (ob_load1 rfl hc1 Tryd.isAgg9 rfl) <| .cons rfl (ob_buildSlice (.cons rfl <| .cons rfl <| .cons rfl <| .nil) Tryd.underlying29 Tryd.sizeOf9 Tryd.zeroValue9 rfl rfl rfl rfl) <| .nil) ?_
                      intro a15 w15 m15 hst15 hle15 hk15
                      have hfr15 := hk15.fr (T' := [(1, _), (3, _), (4, _), (5, _), (12, _), (58, _)]) (.old rfl rfl <| .old rfl rfl <| .old rfl rfl <| .old rfl rfl <| .old rfl rfl <| .new rfl <| .nil)
                      obtain ⟨gs9, e67, hs9⟩ := hk15.ex 63 rfl
                      replace hfr15 := hfr15.cons e67
                      replace hlj7 := hlj7.trans hle15
                      clear hst14 hfr14 hk15
                      refine call_res [] [] [_, _] hst15 hfr15 rfl (.cons rfl <| .nil) Tryd.call53 (add_c (l := []) (ws := [[114, 101, 99], t.name, t.param]) hst15.agree (strs_row (l := [[114, 101, 99], t.name, t.param]) hs9 (by simp)) (hst15.sub (A := []) (B := []) (rs := [_, _])) (by simp only [List.length_cons, List.length_nil, List.length_append]; omega)) ?_
                      intro vr16 w16 m16 rs16 hst16 hle16 hp16
                      obtain ⟨oq, cq, rfl⟩ := hp16
                      simp only [List.nil_append, List.cons_append] at hst16
                      have hfr16 := (hfr15.sub (T' := [(1, _), (3, _), (4, _), (5, _), (12, _), (58, _), (63, _)]) (.cons rfl <| .cons rfl <| .cons rfl <| .cons rfl <| .cons rfl <| .cons rfl <| .cons rfl <| .nil)).put (d := 64) (v := vr16) (by kernel_rfl) rfl
                      replace hlj7 := hlj7.trans hle16
                      clear hst15 hfr15
                      repeat (with_reducible first | refine then_exit ?_ | refine block_exit ?_ | refine block_normal ?_)
                      exact hj7 ([[114, 101, 99], t.name, t.param], 0, oq, cq) _ _ _ ⟨hst16, hlj7, hfr16.sub (.cons rfl <| .cons rfl <| .cons rfl <| .cons rfl <| .nil), ⟨by unfold headW; simp [*], by unfold fromC; simp [*], by omega⟩⟩
                    · try simp only [nq1, nq2, nq3, nq4, nq5, nq6, nq7, nq8, nq9, u8_eq] at hb56
                      refine seq_any fun _ hK68 => ?_
                      refine rp0 hst14 hfr14 (.cons rfl (ob_eql rfl rfl) <| .cons rfl (ob_assign rfl) <| .nil) ?_
                      intro a15 w15 m15 hst15 hle15 hk15
                      have hfr15 := hk15.fr (T' := [(1, _), (3, _), (4, _), (5, _), (12, _), (65, _)]) (.old rfl rfl <| .old rfl rfl <| .old rfl rfl <| .old rfl rfl <| .old rfl rfl <| .new rfl <| .nil)
                      replace hc1 := hc1.mono hle15
                      replace hlj7 := hlj7.trans hle15
                      clear hst14 hfr14 hk15
                      refine hK68 _ _ ?_; clear hK68
                      refine cond_any hfr15 rfl rfl (fun hb65 => ?_) (fun hb65 => ?_)
                      · try simp only [nq1, nq2, nq3, nq4, nq5, nq6, nq7, nq8, nq9, u8_eq] at hb65
                        refine seq_any fun _ hK69 => ?_
                        refine region_cut 2 (by kernel_rfl) ?_
                        refine ops_seq (tch := []) hst15 hfr15 (by kernel_rfl) (by kernel_rfl) (by kernel_rfl) (.cons rfl (ob_move rfl) <| .cons rfl (ob_buildSlice (.cons rfl <| .nil) Tryd.underlying29 Tryd.sizeOf9 Tryd.zeroValue9 rfl rfl rfl rfl) <| .nil) ?_
                        intro a16 w16 m16 hst16 hle16 hk16
                        have hfr16 := hk16.fr (T' := [(1, _), (3, _), (4, _), (5, _), (12, _), (67, _)]) (.old rfl rfl <| .old rfl rfl <| .old rfl rfl <| .old rfl rfl <| .old rfl rfl <| .new rfl <| .nil)
                        obtain ⟨gs9, e70, hs9⟩ := hk16.ex 68 rfl
                        replace hfr16 := hfr16.cons e70
                        replace hlj7 := hlj7.trans hle16
                        clear hst15 hfr15 hk16
                        refine call_res [] [] [_, _] hst16 hfr16 rfl (.cons rfl <| .nil) Tryd.call53 (add_c (l := []) (ws := [[105, 102]]) hst16.agree (strs_row (l := [[105, 102]]) hs9 (by simp)) (hst16.sub (A := []) (B := []) (rs := [_, _])) (by simp only [List.length_cons, List.length_nil, List.length_append]; omega)) ?_
                        intro vr17 w17 m17 rs17 hst17 hle17 hp17
                        obtain ⟨oq, cq, rfl⟩ := hp17
                        simp only [List.nil_append, List.cons_append] at hst17
                        have hfr17 := (hfr16.sub (T' := [(1, _), (3, _), (4, _), (5, _), (12, _), (67, _), (68, _)]) (.cons rfl <| .cons rfl <| .cons rfl <| .cons rfl <| .cons rfl <| .cons rfl <| .cons rfl <| .nil)).put (d := 69) (v := vr17) (by kernel_rfl) rfl
                        replace hlj7 := hlj7.trans hle17
                        clear hst16 hfr16
                        refine hK69 _ _ ?_; clear hK69
                        refine rp0 hst17 hfr17 (.cons rfl (ob_assign rfl) <| .nil) ?_
                        intro a18 w18 m18 hst18 hle18 hk18
                        have hfr18 := hk18.fr (T' := [(1, _), (3, _), (4, _), (5, _)]) (.old rfl rfl <| .old rfl rfl <| .old rfl rfl <| .new rfl <| .nil)
                        replace hlj7 := hlj7.trans hle18
                        clear hst17 hfr17 hk18
                        repeat (with_reducible first | refine then_exit ?_ | refine block_exit ?_ | refine block_normal ?_)
                        exact hj7 ([[105, 102]], 1, oq, cq) _ _ _ ⟨hst18, hlj7, hfr18.sub (.cons rfl <| .cons rfl <| .cons rfl <| .cons rfl <| .nil), ⟨by unfold headW; simp [*], by unfold fromC; simp [*], by omega⟩⟩
                      · try simp only [nq1, nq2, nq3, nq4, nq5, nq6, nq7, nq8, nq9, u8_eq] at hb65
                        refine seq_any fun _ hK71 => ?_
                        refine rp0 hst15 hfr15 (.cons rfl (ob_eql rfl rfl) <| .cons rfl (ob_assign rfl) <| .nil) ?_
                        intro a16 w16 m16 hst16 hle16 hk16
                        have hfr16 := hk16.fr (T' := [(1, _), (3, _), (4, _), (5, _), (12, _), (70, _)]) (.old rfl rfl <| .old rfl rfl <| .old rfl rfl <| .old rfl rfl <| .old rfl rfl <| .new rfl <| .nil)
                        replace hc1 := hc1.mono hle16
                        replace hlj7 := hlj7.trans hle16
                        clear hst15 hfr15 hk16
                        refine hK71 _ _ ?_; clear hK71
                        refine cond_any hfr16 rfl rfl (fun hb70 => ?_) (fun hb70 => ?_)
                        · try simp only [nq1, nq2, nq3, nq4, nq5, nq6, nq7, nq8, nq9, u8_eq] at hb70
                          refine seq_any fun _ hK72 => ?_
                          refine region_cut 4 (by kernel_rfl) ?_
                          refine ops_seq (tch := []) hst16 hfr16 (by kernel_rfl) (by kernel_rfl) (by kernel_rfl) (.cons rfl (ob_move rfl) <| .cons rfl (ob_fieldAddrO (off := 1) rfl Tryd.underlying25 rfl rfl Tryd.sizeOf9 rfl) <| .cons rfl (ob_load1 rfl hc1 Tryd.isAgg9 rfl) <| .cons rfl (ob_buildSlice (.cons rfl <| .cons rfl <| .nil) Tryd.underlying29 Tryd.sizeOf9 Tryd.zeroValue9 rfl rfl rfl rfl) <| .nil) ?_
                          intro a17 w17 m17 hst17 hle17 hk17
                          have hfr17 := hk17.fr (T' := [(1, _), (3, _), (4, _), (5, _), (12, _), (72, _)]) (.old rfl rfl <| .old rfl rfl <| .old rfl rfl <| .old rfl rfl <| .old rfl rfl <| .new rfl <| .nil)
                          obtain ⟨gs9, e73, hs9⟩ := hk17.ex 75 rfl
                          replace hfr17 := hfr17.cons e73
                          replace hc1 := hc1.mono hle17
                          replace hlj7 := hlj7.trans hle17
                          clear hst16 hfr16 hk17
                          refine call_res [] [] [_, _] hst17 hfr17 rfl (.cons rfl <| .nil) Tryd.call53 (add_c (l := []) (ws := [[111, 112], t.name]) hst17.agree (strs_row (l := [[111, 112], t.name]) hs9 (by simp)) (hst17.sub (A := []) (B := []) (rs := [_, _])) (by simp only [List.length_cons, List.length_nil, List.length_append]; omega)) ?_
                          intro vr18 w18 m18 rs18 hst18 hle18 hp18
                          obtain ⟨oq, cq, rfl⟩ := hp18
                          simp only [List.nil_append, List.cons_append] at hst18
                          have hfr18 := (hfr17.sub (T' := [(1, _), (3, _), (4, _), (5, _), (12, _), (72, _), (75, _)]) (.cons rfl <| .cons rfl <| .cons rfl <| .cons rfl <| .cons rfl <| .cons rfl <| .cons rfl <| .nil)).put (d := 76) (v := vr18) (by kernel_rfl) rfl
                          replace hc1 := hc1.mono hle18
                          replace hlj7 := hlj7.trans hle18
                          clear hst17 hfr17
                          refine hK72 _ _ ?_; clear hK72
                          refine rp0 hst18 hfr18 (.cons rfl (ob_fieldAddrO (off := 4) rfl Tryd.underlying25 rfl rfl Tryd.sizeOf22 rfl) <| .cons rfl (ob_load1 rfl hc1 Tryd.isAgg22 rfl) <| .cons rfl (ob_len rfl Tryd.underlying22) <| .cons rfl (ob_assign rfl) <| .nil) ?_
                          intro a19 w19 m19 hst19 hle19 hk19
                          have hfr19 := hk19.fr (T' := [(1, _), (3, _), (4, _), (5, _)]) (.old rfl rfl <| .old rfl rfl <| .old rfl rfl <| .new rfl <| .nil)
                          replace hlj7 := hlj7.trans hle19
                          clear hst18 hfr18 hk19
                          repeat (with_reducible first | refine then_exit ?_ | refine block_exit ?_ | refine block_normal ?_)
                          exact hj7 ([[111, 112], t.name], t.kids.length, oq, cq) _ _ _ ⟨hst19, hlj7, hfr19.sub (.cons rfl <| .cons rfl <| .cons rfl <| .cons rfl <| .nil), ⟨by unfold headW; simp [*], by unfold fromC; simp [*], by omega⟩⟩
                        · try simp only [nq1, nq2, nq3, nq4, nq5, nq6, nq7, nq8, nq9, u8_eq] at hb70
                          refine seq_any fun _ hK74 => ?_
                          refine rp0 hst16 hfr16 (.cons rfl (ob_eql rfl rfl) <| .cons rfl (ob_assign rfl) <| .nil) ?_
                          intro a17 w17 m17 hst17 hle17 hk17
                          have hfr17 := hk17.fr (T' := [(1, _), (3, _), (4, _), (5, _), (12, _), (80, _)]) (.old rfl rfl <| .old rfl rfl <| .old rfl rfl <| .old rfl rfl <| .old rfl rfl <| .new rfl <| .nil)
                          replace hc1 := hc1.mono hle17
                          replace hlj7 := hlj7.trans hle17
                          clear hst16 hfr16 hk17
                          refine hK74 _ _ ?_; clear hK74
                          refine cond_any hfr17 rfl rfl (fun hb80 => ?_) (fun hb80 => ?_)
                          · try simp only [nq1, nq2, nq3, nq4, nq5, nq6, nq7, nq8, nq9, u8_eq] at hb80
                            refine seq_any fun _ hK75 => ?_
                            refine region_cut 4 (by kernel_rfl) ?_
                            refine ops_seq (tch := []) hst17 hfr17 (by kernel_rfl) (by kernel_rfl) (by kernel_rfl) (.cons rfl (ob_move rfl) <| .cons rfl (ob_fieldAddrO (off := 1) rfl Tryd.underlying25 rfl rfl Tryd.sizeOf9 rfl) <| .cons rfl (ob_load1 rfl hc1 Tryd.isAgg9 rfl) <| .cons rfl (ob_buildSlice (.cons rfl <| .cons rfl <| .nil) Tryd.underlying29 Tryd.sizeOf9 Tryd.zeroValue9 rfl rfl rfl rfl) <| .nil) ?_
                            intro a18 w18 m18 hst18 hle18 hk18
                            have hfr18 := hk18.fr (T' := [(1, _), (3, _), (4, _), (5, _), (12, _), (82, _)]) (.old rfl rfl <| .old rfl rfl <| .old rfl rfl <| .old rfl rfl <| .old rfl rfl <| .new rfl <| .nil)
                            obtain ⟨gs9, e76, hs9⟩ := hk18.ex 85 rfl
                            replace hfr18 := hfr18.cons e76
                            replace hc1 := hc1.mono hle18
                            replace hlj7 := hlj7.trans hle18
                            clear hst17 hfr17 hk18
                            refine call_res [] [] [_, _] hst18 hfr18 rfl (.cons rfl <| .nil) Tryd.call53 (add_c (l := []) (ws := [[99, 111, 110], t.name]) hst18.agree (strs_row (l := [[99, 111, 110], t.name]) hs9 (by simp)) (hst18.sub (A := []) (B := []) (rs := [_, _])) (by simp only [List.length_cons, List.length_nil, List.length_append]; omega)) ?_
                            intro vr19 w19 m19 rs19 hst19 hle19 hp19
                            obtain ⟨oq, cq, rfl⟩ := hp19
                            simp only [List.nil_append, List.cons_append] at hst19
                            have hfr19 := (hfr18.sub (T' := [(1, _), (3, _), (4, _), (5, _), (12, _), (82, _), (85, _)]) (.cons rfl <| .cons rfl <| .cons rfl <| .cons rfl <| .cons rfl <| .cons rfl <| .cons rfl <| .nil)).put (d := 86) (v := vr19) (by kernel_rfl) rfl
                            replace hc1 := hc1.mono hle19
                            replace hlj7 := hlj7.trans hle19
                            clear hst18 hfr18
                            refine hK75 _ _ ?_; clear hK75
                            refine rp0 hst19 hfr19 (.cons rfl (ob_fieldAddrO (off := 4) rfl Tryd.underlying25 rfl rfl Tryd.sizeOf22 rfl) <| .cons rfl (ob_load1 rfl hc1 Tryd.isAgg22 rfl) <| .cons rfl (ob_len rfl Tryd.underlying22) <| .cons rfl (ob_assign rfl) <| .nil) ?_
                            intro a20 w20 m20 hst20 hle20 hk20
                            have hfr20 := hk20.fr (T' := [(1, _), (3, _), (4, _), (5, _)]) (.old rfl rfl <| .old rfl rfl <| .old rfl rfl <| .new rfl <| .nil)
                            replace hlj7 := hlj7.trans hle20
                            clear hst19 hfr19 hk20
                            repeat (with_reducible first | refine then_exit ?_ | refine block_exit ?_ | refine block_normal ?_)
                            exact hj7 ([[99, 111, 110], t.name], t.kids.length, oq, cq) _ _ _ ⟨hst20, hlj7, hfr20.sub (.cons rfl <| .cons rfl <| .cons rfl <| .cons rfl <| .nil), ⟨by unfold headW; simp [*], by unfold fromC; simp [*], by omega⟩⟩
                          · try simp only [nq1, nq2, nq3, nq4, nq5, nq6, nq7, nq8, nq9, u8_eq] at hb80
                            refine seq_any fun _ hK77 => ?_
                            refine rp0 hst17 hfr17 (.cons rfl (ob_eql rfl rfl) <| .cons rfl (ob_assign rfl) <| .nil) ?_
                            intro a18 w18 m18 hst18 hle18 hk18
                            have hfr18 := hk18.fr (T' := [(1, _), (3, _), (4, _), (5, _), (12, _), (90, _)]) (.old rfl rfl <| .old rfl rfl <| .old rfl rfl <| .old rfl rfl <| .old rfl rfl <| .new rfl <| .nil)
                            replace hc1 := hc1.mono hle18
                            replace hlj7 := hlj7.trans hle18
                            clear hst17 hfr17 hk18
                            refine hK77 _ _ ?_; clear hK77
                            refine cond_any hfr18 rfl rfl (fun hb90 => ?_) (fun hb90 => ?_)
                            · try simp only [nq1, nq2, nq3, nq4, nq5, nq6, nq7, nq8, nq9, u8_eq] at hb90
                              refine seq_any fun _ hK78 => ?_
                              refine region_cut 2 (by kernel_rfl) ?_
                              refine ops_seq (tch := []) hst18 hfr18 (by kernel_rfl) (by kernel_rfl) (by kernel_rfl) (.cons rfl (ob_move rfl) <| .cons rfl (ob_buildSlice (.cons rfl <| .nil) Tryd.underlying29 Tryd.sizeOf9 Tryd.zeroValue9 rfl rfl rfl rfl) <| .nil) ?_
                              intro a19 w19 m19 hst19 hle19 hk19
                              have hfr19 := hk19.fr (T' := [(1, _), (3, _), (4, _), (5, _), (12, _), (92, _)]) (.old rfl rfl <| .old rfl rfl <| .old rfl rfl <| .old rfl rfl <| .old rfl rfl <| .new rfl <| .nil)
                              obtain ⟨gs9, e79, hs9⟩ := hk19.ex 93 rfl
                              replace hfr19 := hfr19.cons e79
                              replace hlj7 := hlj7.trans hle19
                              clear hst18 hfr18 hk19
                              refine call_res [] [] [_, _] hst19 hfr19 rfl (.cons rfl <| .nil) Tryd.call53 (add_c (l := []) (ws := [[109, 97, 116, 99, 104]]) hst19.agree (strs_row (l := [[109, 97, 116, 99, 104]]) hs9 (by simp)) (hst19.sub (A := []) (B := []) (rs := [_, _])) (by simp only [List.length_cons, List.length_nil, List.length_append]; omega)) ?_
                              intro vr20 w20 m20 rs20 hst20 hle20 hp20
                              obtain ⟨oq, cq, rfl⟩ := hp20
                              simp only [List.nil_append, List.cons_append] at hst20
                              have hfr20 := (hfr19.sub (T' := [(1, _), (3, _), (4, _), (5, _), (12, _), (92, _), (93, _)]) (.cons rfl <| .cons rfl <| .cons rfl <| .cons rfl <| .cons rfl <| .cons rfl <| .cons rfl <| .nil)).put (d := 94) (v := vr20) (by kernel_rfl) rfl
                              replace hlj7 := hlj7.trans hle20
                              clear hst19 hfr19
                              refine hK78 _ _ ?_; clear hK78
                              refine rp0 hst20 hfr20 (.cons rfl (ob_assign rfl) <| .nil) ?_
                              intro a21 w21 m21 hst21 hle21 hk21
                              have hfr21 := hk21.fr (T' := [(1, _), (3, _), (4, _), (5, _)]) (.old rfl rfl <| .old rfl rfl <| .old rfl rfl <| .new rfl <| .nil)
                              replace hlj7 := hlj7.trans hle21
                              clear hst20 hfr20 hk21
                              repeat (with_reducible first | refine then_exit ?_ | refine block_exit ?_ | refine block_normal ?_)
                              exact hj7 ([[109, 97, 116, 99, 104]], 1, oq, cq) _ _ _ ⟨hst21, hlj7, hfr21.sub (.cons rfl <| .cons rfl <| .cons rfl <| .cons rfl <| .nil), ⟨by unfold headW; simp [*], by unfold fromC; simp [*], by omega⟩⟩
                            · try simp only [nq1, nq2, nq3, nq4, nq5, nq6, nq7, nq8, nq9, u8_eq] at hb90
                              refine seq_any fun _ hK80 => ?_
                              refine rp0 hst18 hfr18 (.cons rfl (ob_eql rfl rfl) <| .cons rfl (ob_assign rfl) <| .nil) ?_
                              intro a19 w19 m19 hst19 hle19 hk19
                              have hfr19 := hk19.fr (T' := [(1, _), (3, _), (4, _), (5, _), (12, _), (95, _)]) (.old rfl rfl <| .old rfl rfl <| .old rfl rfl <| .old rfl rfl <| .old rfl rfl <| .new rfl <| .nil)
                              replace hc1 := hc1.mono hle19
                              replace hlj7 := hlj7.trans hle19
                              clear hst18 hfr18 hk19
                              refine hK80 _ _ ?_; clear hK80
                              refine cond_any hfr19 rfl rfl (fun hb95 => ?_) (fun hb95 => ?_)
                              · try simp only [nq1, nq2, nq3, nq4, nq5, nq6, nq7, nq8, nq9, u8_eq] at hb95
                                refine seq_any fun _ hK81 => ?_
                                refine region_cut 4 (by kernel_rfl) ?_
                                refine ops_seq (tch := []) hst19 hfr19 (by kernel_rfl) (by kernel_rfl) (by kernel_rfl) (.cons rfl (ob_move rfl) <| .cons rfl (ob_fieldAddrO (off := 1) rfl Tryd.underlying25 rfl rfl Tryd.sizeOf9 rfl) <| .cons rfl (ob_load1 rfl hc1 Tryd.isAgg9 rfl) <| .cons rfl (ob_buildSlice (.cons rfl <| .cons rfl <| .nil) Tryd.underlying29 Tryd.sizeOf9 Tryd.zeroValue9 rfl rfl rfl rfl) <| .nil) ?_
                                intro a20 w20 m20 hst20 hle20 hk20
                                have hfr20 := hk20.fr (T' := [(1, _), (3, _), (4, _), (5, _), (12, _), (97, _)]) (.old rfl rfl <| .old rfl rfl <| .old rfl rfl <| .old rfl rfl <| .old rfl rfl <| .new rfl <| .nil)
                                obtain ⟨gs9, e82, hs9⟩ := hk20.ex 100 rfl
                                replace hfr20 := hfr20.cons e82
                                replace hlj7 := hlj7.trans hle20
                                clear hst19 hfr19 hk20
                                refine call_res [] [] [_, _] hst20 hfr20 rfl (.cons rfl <| .nil) Tryd.call53 (add_c (l := []) (ws := [[121, 105, 101, 108, 100], t.name]) hst20.agree (strs_row (l := [[121, 105, 101, 108, 100], t.name]) hs9 (by simp)) (hst20.sub (A := []) (B := []) (rs := [_, _])) (by simp only [List.length_cons, List.length_nil, List.length_append]; omega)) ?_
                                intro vr21 w21 m21 rs21 hst21 hle21 hp21
                                obtain ⟨oq, cq, rfl⟩ := hp21
                                simp only [List.nil_append, List.cons_append] at hst21
                                have hfr21 := (hfr20.sub (T' := [(1, _), (3, _), (4, _), (5, _), (12, _), (97, _), (100, _)]) (.cons rfl <| .cons rfl <| .cons rfl <| .cons rfl <| .cons rfl <| .cons rfl <| .cons rfl <| .nil)).put (d := 101) (v := vr21) (by kernel_rfl) rfl
                                replace hlj7 := hlj7.trans hle21
                                clear hst20 hfr20
                                refine hK81 _ _ ?_; clear hK81
                                refine rp0 hst21 hfr21 (.cons rfl (ob_assign rfl) <| .nil) ?_
                                intro a22 w22 m22 hst22 hle22 hk22
                                have hfr22 := hk22.fr (T' := [(1, _), (3, _), (4, _), (5, _)]) (.old rfl rfl <| .old rfl rfl <| .old rfl rfl <| .new rfl <| .nil)
                                replace hlj7 := hlj7.trans hle22
                                clear hst21 hfr21 hk22
                                repeat (with_reducible first | refine then_exit ?_ | refine block_exit ?_ | refine block_normal ?_)
                                exact hj7 ([[121, 105, 101, 108, 100], t.name], 1, oq, cq) _ _ _ ⟨hst22, hlj7, hfr22.sub (.cons rfl <| .cons rfl <| .cons rfl <| .cons rfl <| .nil), ⟨by unfold headW; simp [*], by unfold fromC; simp [*], by omega⟩⟩
                              · try simp only [nq1, nq2, nq3, nq4, nq5, nq6, nq7, nq8, nq9, u8_eq] at hb95
                                refine seq_any fun _ hK83 => ?_
                                refine rp0 hst19 hfr19 (.cons rfl (ob_eql rfl rfl) <| .cons rfl (ob_assign rfl) <| .nil) ?_
                                intro a20 w20 m20 hst20 hle20 hk20
                                have hfr20 := hk20.fr (T' := [(1, _), (3, _), (4, _), (5, _), (102, _)]) (.old rfl rfl <| .old rfl rfl <| .old rfl rfl <| .old rfl rfl <| .new rfl <| .nil)
                                replace hc1 := hc1.mono hle20
                                replace hlj7 := hlj7.trans hle20
                                clear hst19 hfr19 hk20
                                refine hK83 _ _ ?_; clear hK83
                                refine cond_any hfr20 rfl rfl (fun hb102 => ?_) (fun hb102 => ?_)
                                · try simp only [nq1, nq2, nq3, nq4, nq5, nq6, nq7, nq8, nq9, u8_eq] at hb102
                                  refine region_cut 4 (by kernel_rfl) ?_
                                  refine ops_seq (tch := []) hst20 hfr20 (by kernel_rfl) (by kernel_rfl) (by kernel_rfl) (.cons rfl (ob_move rfl) <| .cons rfl (ob_fieldAddrO (off := 1) rfl Tryd.underlying25 rfl rfl Tryd.sizeOf9 rfl) <| .cons rfl (ob_load1 rfl hc1 Tryd.isAgg9 rfl) <| .cons rfl (ob_buildSlice (.cons rfl <| .cons rfl <| .nil) Tryd.underlying29 Tryd.sizeOf9 Tryd.zeroValue9 rfl rfl rfl rfl) <| .nil) ?_
                                  intro a21 w21 m21 hst21 hle21 hk21
                                  have hfr21 := hk21.fr (T' := [(1, _), (3, _), (4, _), (5, _), (104, _)]) (.old rfl rfl <| .old rfl rfl <| .old rfl rfl <| .old rfl rfl <| .new rfl <| .nil)
                                  obtain ⟨gs9, e84, hs9⟩ := hk21.ex 107 rfl
                                  replace hfr21 := hfr21.cons e84
                                  replace hlj7 := hlj7.trans hle21
                                  clear hst20 hfr20 hk21
                                  refine call_res [] [] [_, _] hst21 hfr21 rfl (.cons rfl <| .nil) Tryd.call53 (add_c (l := []) (ws := [[112, 114, 111, 109, 112, 116], t.name]) hst21.agree (strs_row (l := [[112, 114, 111, 109, 112, 116], t.name]) hs9 (by simp)) (hst21.sub (A := []) (B := []) (rs := [_, _])) (by simp only [List.length_cons, List.length_nil, List.length_append]; omega)) ?_
                                  intro vr22 w22 m22 rs22 hst22 hle22 hp22
                                  obtain ⟨oq, cq, rfl⟩ := hp22
                                  simp only [List.nil_append, List.cons_append] at hst22
                                  have hfr22 := (hfr21.sub (T' := [(1, _), (3, _), (4, _), (5, _), (104, _), (107, _)]) (.cons rfl <| .cons rfl <| .cons rfl <| .cons rfl <| .cons rfl <| .cons rfl <| .nil)).put (d := 108) (v := vr22) (by kernel_rfl) rfl
                                  replace hlj7 := hlj7.trans hle22
                                  clear hst21 hfr21
                                  repeat (with_reducible first | refine then_exit ?_ | refine block_exit ?_ | refine block_normal ?_)
                                  exact hj7 ([[112, 114, 111, 109, 112, 116], t.name], 0, oq, cq) _ _ _ ⟨hst22, hlj7, hfr22.sub (.cons rfl <| .cons rfl <| .cons rfl <| .cons rfl <| .nil), ⟨by unfold headW; simp [*], by unfold fromC; simp [*], by omega⟩⟩
                                · try simp only [nq1, nq2, nq3, nq4, nq5, nq6, nq7, nq8, nq9, u8_eq] at hb102
                                  refine wp_skip ?_
                                  repeat (with_reducible first | refine then_exit ?_ | refine block_exit ?_ | refine block_normal ?_)
                                  exact hj7 ([], 0, none, 0) _ _ _ ⟨hst20, hlj7, hfr20.sub (.cons rfl <| .cons rfl <| .cons rfl <| .cons rfl <| .nil), ⟨by unfold headW; simp [*], by unfold fromC; simp [*], by omega⟩⟩
theorem text_c (t : Cd) : text_G t := Cd.rec_ (p := text_G) (fun t ihk iha => text_s ihk iha) t

end Go.Proofs.YtlihpgjabohebaaDoor
