/-
  'brocadelaw05': what is said, raw; what is shown in any case. Conditions: those of each theorem.
-/
import Derived.Test.YtfphefkfbhjfdaaRef5
namespace Go.Proofs.Ytfphefkfbhjfdaa
set_option linter.all false
set_option maxRecDepth 4000
open Go.RowKit
abbrev QQ := Option Nat × Option Nat
abbrev ZZ := ((Option Addr × Nat) × (Option Addr × Nat)) × ((Option Addr × Nat) × (Option Addr × Nat))
structure Say where
  n : Int
  ofRow : Bool
  ty : Ty
  row : Rw
abbrev sayV (x : Say) (y : (Option Addr × Nat) × (Option Addr × Nat)) (z : Option Addr × Nat) : List Value := .int .i64 x.n :: .bool x.ofRow :: (tyV x.ty y ++ rwV x.row z)
def SayR (m : Mem) (x : Say) (vs : List Value) : Prop := ∃ y z, vs = sayV x y z ∧ InI64 x.n ∧ TyR m x.ty (tyV x.ty y) ∧ RwR m x.row (rwV x.row z)
theorem SayR.mono {m m' : Mem} {x : Say} {vs : List Value} (h : SayR m x vs) (hm : MLe m m') : SayR m' x vs := by obtain ⟨y, z, e, h0, h1, h2⟩ := h; exact ⟨y, z, e, h0, h1.mono hm, h2.mono hm⟩
abbrev Says (m : Mem) (o : Option Addr) (n c : Nat) (l : List Say) : Prop := Sl (fun m vs x => SayR m x vs) 10 m o n c l
theorem Says.mono {m m' : Mem} {o : Option Addr} {n c : Nat} {l : List Say} (h : Says m o n c l) (hm : MLe m m') : Says m' o n c l := Sl.mono h (fun _ _ e => e.mono hm) hm
def keyS (n : Int) : Int := 1 + band n 7
theorem band7 (n : Int) : 0 ≤ band n 7 ∧ band n 7 ≤ 7 := band_le n 7 (by omega)
def cutS (r : Rw) (k : Nat) : Rw := ⟨(r.labels.take (min r.labels.length k)).drop 0, r.var⟩
theorem rset_len {α : Type} (n : Int) (x : α) (l : List (Int × α)) : (rset n x l).length ≤ l.length + 1 := by unfold rset; rw [List.length_append]; have := List.length_filter_le (fun p : Int × α => !decide (p.1 = n)) l; simp only [List.length_cons, List.length_nil]; omega
/-- One thing more is said; as the document says it. -/
def sayS (s : Sub) (x : Say) : Sub := if x.ofRow then ⟨s.ts, aset (keyS x.n) (cutS x.row 10) s.rs⟩ else if cntW x.ty ≤ 30 then ⟨aset (keyS x.n) x.ty s.ts, s.rs⟩ else s
def sayR (s : Sub) (x : Say) : Sub := if x.ofRow then ⟨s.ts, rset (keyS x.n) (cutS x.row 10) s.rs⟩ else if cntW x.ty ≤ 30 then ⟨rset (keyS x.n) x.ty s.ts, s.rs⟩ else s
def saidS (l : List Say) : Sub := (l.take 10).foldl sayS ⟨[], []⟩
def saidR (l : List Say) : Sub := (l.take 10).foldl sayR ⟨[], []⟩
def MP.said (s r : Sub) : MP := MP.mem (fun y : (Option Nat × Option Nat) × (((Option Addr × Nat) × (Option Addr × Nat)) × ((Option Addr × Nat) × (Option Addr × Nat))) => .tuple #[.agg (subV y.1).toArray, .agg (rsV r y.2).toArray]) (fun y m => SubR m s (subV y.1) ∧ RSubR m r (rsV r y.2)) fun hm h => ⟨h.1.mono hm, h.2.mono hm⟩
set_option maxHeartbeats 3200000 in
theorem said_c {w : World} {m : Mem} {o_l : Option Addr} {c_l : Nat} {l : List Say} (hA : Agree w m) (h_l : Says m o_l l.length c_l l) (hw : ∀ x ∈ l, wdT x.ty ≤ 17592186044000 ∧ x.row.labels.length ≤ 8796093022208) : FnV Try.prog 9 #[.slice o_l l.length c_l] w m (fun _ m v => (MP.said (saidS l) (saidR l)).p m v) := by
  have hb_l := h_l.big; have hc_l := h_l.cap
  refine fn_enter (vs := [_]) Try.func9 rfl rfl rfl fun a0 hfr0 => ?_
  have hst0 := st_enter hA (loc_nil [] _ w m)
  have hM : MLe m m := MLe.refl m
  refine seq_any fun _ hK1 => ?_
  replace hst0 := hst0.more (r := .free) trivial List.nodup_nil (by simp [Res.blocks])
  replace hst0 := hst0.more (r := .free) trivial List.nodup_nil (by simp [Res.blocks])
  refine ra0 (tch := [(0, 0, (fun v => .blk v _)), (1, 1, (fun v => .blk v _))]) hst0 hfr0 (.consT rfl rfl (fun _ => rfl) rfl (ob_allocL Try.zeroValue36 rfl) <| .consT rfl rfl (fun _ => rfl) rfl (ob_allocL Try.zeroValue40 rfl) <| .nil) ?_
  intro a1 w1 m1 hst1 hle1 hk1
  have hfr1 := hk1.fr (T' := [(0, _)]) (.old rfl rfl <| .nil)
  obtain ⟨g2, e2, _⟩ := hk1.ex 2 rfl
  replace hfr1 := hfr1.cons e2
  obtain ⟨g3, e3, _⟩ := hk1.ex 3 rfl
  replace hfr1 := hfr1.cons e3
  replace hst1 := hst1.fin (L' := [_, _]) (.cons e2 <| .cons e3 <| .nil)
  replace h_l := h_l.mono hle1
  clear hst0 hfr0 hk1
  refine hK1 _ _ ?_; clear hK1
  refine seq_any fun _ hK4 => ?_
  replace hst1 := hst1.more (r := .free) trivial List.nodup_nil (by simp [Res.blocks])
  refine ra0 (tch := [(1, 2, (fun v => .blk v _)), (2, 2, (fun v => .blkx v _ _))]) hst1 hfr1 (.cons rfl (ob_call (φ := MP.sub ⟨[], []⟩) rfl (.nil) Try.call20 (fun w m hK => by have hle_ := KC.le hK; have hA := KC.agree hK; exact FnG.mono (none_c hA) fun _ _ _ _ h => h)) <| .consT rfl rfl (fun _ => rfl) rfl (ob_allocL Try.zeroValue36 rfl) <| .consT rfl rfl (fun _ => rfl) rfl (ob_imgT 4 rfl rfl rfl fun y4 => ob_imgTX 8 rfl rfl rfl fun y8 => ob_storeF rfl rfl rfl rfl rfl Try.sizeOf36 rfl rfl rfl) <| .nil) ?_
  intro a2 w2 m2 hst2 hle2 hk2
  have hfr2 := hk2.fr (T' := [(0, _), (2, _), (3, _)]) (.old rfl rfl <| .old rfl rfl <| .old rfl rfl <| .nil)
  obtain ⟨g4, e5, _⟩ := hk2.ex 4 rfl
  replace hfr2 := hfr2.cons e5
  replace hst2 := hst2.fin (L' := [_, _, _]) (.cons e5 <| .cons e5 <| .nil)
  try simp only [List.take_succ_cons, List.take_zero, List.drop_succ_cons, List.drop_zero, List.cons_append, List.nil_append, List.append_nil, List.length_cons, List.length_nil, Nat.zero_add, Nat.reduceAdd] at hst2
  obtain ⟨⟨q1, q2⟩, hS0, hst2⟩ := hst2.unx (k := 2) rfl (fun _ => rfl)
  replace h_l := h_l.mono hle2
  clear hst1 hfr1 hk2
  refine hK4 _ _ ?_; clear hK4
  refine seq_any fun _ hK7 => ?_
  replace hst2 := hst2.more (r := .free) trivial List.nodup_nil (by simp [Res.blocks])
  refine ra0 (tch := [(1, 3, (fun v => .blk v _)), (2, 3, (fun v => .blk v _))]) hst2 hfr2 (.cons rfl (ob_buildS (.nil) Try.underlying40 Try.zeroValue40 (.cons Try.sizeOf37 <| .cons Try.sizeOf23 <| .cons Try.sizeOf37 <| .cons Try.sizeOf38 <| .nil) rfl) <| .consT rfl rfl (fun _ => rfl) rfl (ob_allocL Try.zeroValue40 rfl) <| .consT rfl rfl (fun _ => rfl) rfl (ob_imgT 5 rfl rfl rfl fun y5 => ob_storeF rfl rfl rfl rfl rfl Try.sizeOf40 rfl rfl rfl) <| .nil) ?_
  intro a3 w3 m3 hst3 hle3 hk3
  have hfr3 := hk3.fr (T' := [(0, _), (2, _), (3, _), (4, _)]) (.old rfl rfl <| .old rfl rfl <| .old rfl rfl <| .old rfl rfl <| .nil)
  obtain ⟨g5, e8, _⟩ := hk3.ex 5 rfl
  replace hfr3 := hfr3.cons e8
  replace hst3 := hst3.fin (L' := [_, _, _, _]) (.cons e8 <| .cons e8 <| .nil)
  try simp only [List.take_succ_cons, List.take_zero, List.drop_succ_cons, List.drop_zero, List.cons_append, List.nil_append, List.append_nil, List.length_cons, List.length_nil, Nat.zero_add, Nat.reduceAdd] at hst3
  replace h_l := h_l.mono hle3
  replace hS0 := hS0.mono hle3
  clear hst2 hfr2 hk3
  refine hK7 _ _ ?_; clear hK7
  refine seq_any fun _ hK9 => ?_
  refine seq_any fun _ hK10 => ?_
  refine rp0 hst3 hfr3 (.cons rfl (ob_assign rfl) <| .nil) ?_
  intro a4 w4 m4 hst4 hle4 hk4
  have hfr4 := hk4.fr (T' := [(0, _), (2, _), (3, _), (4, _), (5, _), (6, _)]) (.old rfl rfl <| .old rfl rfl <| .old rfl rfl <| .old rfl rfl <| .old rfl rfl <| .new rfl <| .nil)
  replace h_l := h_l.mono hle4
  replace hS0 := hS0.mono hle4
  clear hst3 hfr3 hk4
  refine hK10 _ _ ?_; clear hK10
  refine wp_block ?_
  refine loop_any (T := [(0, _), (2, _), (3, _), (4, _), (5, _)]) (fun (y : Nat × Sub × QQ × Sub × ZZ) => ([(6, .int .i64 (y.1 : Int))] : List (Nat × Value))) (fun y => [_, _, .blk (.pointer (some ⟨g4, 0, none⟩)) (.cells (subV y.2.2.1).toArray 36), .blk (.pointer (some ⟨g5, 0, none⟩)) (.cells (rsV y.2.2.2.1 y.2.2.2.2).toArray 40)]) (fun (y : Nat × Sub × QQ × Sub × ZZ) m => (fun (y : Nat) (s : Sub) (q : QQ) (r : Sub) (z : ZZ) => (y ≤ min l.length 10) ∧ (SubR m s (subV q)) ∧ (RSubR m r (rsV r z)) ∧ (s = (l.take y).foldl sayS ⟨[], []⟩) ∧ (r = (l.take y).foldl sayR ⟨[], []⟩) ∧ (r.ts.length ≤ y ∧ r.rs.length ≤ y)) y.1 y.2.1 y.2.2.1 y.2.2.2.1 y.2.2.2.2) (fun y => min l.length 10 - y.1) ((0, ⟨[], []⟩, (q1, q2), ⟨[], []⟩, (((none, 0), (none, 0)), ((none, 0), (none, 0))))) ⟨hst4, MLe.refl _, hfr4.sub (.cons rfl <| .cons rfl <| .cons rfl <| .cons rfl <| .cons rfl <| .cons rfl <| .nil), ⟨Nat.zero_le _, hS0, ⟨_, rfl, Sl.empty, Sl.empty, Sl.empty, Sl.empty⟩, rfl, rfl, ⟨Nat.le_refl _, Nat.le_refl _⟩⟩⟩ fun y a5 w5 m5 hh5 => ?_
  have hst5 := hh5.st; have hle5 := hh5.le; have hfr5 := hh5.fr; have hrel := hh5.rel; clear hh5
  replace h_l := h_l.mono hle5
  clear hst4 hfr4
  obtain ⟨y, s, q, r, z⟩ := y
  dsimp only at hrel hfr5 hst5
  obtain ⟨hyn, hS, hR, hs9, hr9, hl9⟩ := hrel
  obtain ⟨hl8, hl9⟩ := hl9
  have hlh5 := hle5
  refine seq_any fun _ hK12 => ?_
  refine seq_any fun _ hK13 => ?_
  refine rp0 hst5 hfr5 (.cons rfl (ob_move rfl) <| .cons rfl (ob_move rfl) <| .cons rfl (ob_len rfl Try.underlying22) <| .cons rfl (ob_lss rfl rfl) <| .cons rfl (ob_move rfl) <| .cons rfl (ob_move rfl) <| .cons rfl (ob_lss rfl rfl) <| .cons rfl (ob_and rfl rfl rfl) <| .nil) ?_
  intro a6 w6 m6 hst6 hle6 hk6
  have hfr6 := hk6.fr (T' := [(6, _), (0, _), (2, _), (3, _), (4, _), (5, _), (17, _)]) (.old rfl rfl <| .old rfl rfl <| .old rfl rfl <| .old rfl rfl <| .old rfl rfl <| .old rfl rfl <| .new rfl <| .nil)
  replace h_l := h_l.mono hle6
  replace hS := hS.mono hle6
  replace hR := hR.mono hle6
  have hlh6 := hlh5.trans hle6
  clear hst5 hfr5 hk6
  refine hK13 _ _ ?_; clear hK13
  refine cond_any hfr6 rfl rfl (fun hb17 => ?_) (fun hb17 => ?_)
  · try simp only [nq1, nq2, nq3, nq4, nq5, nq6, nq7, nq8, nq9, u8_eq] at hb17
    refine wp_skip ?_
    refine hK12 _ _ ?_; clear hK12
    refine seq_any fun _ hK14 => ?_
    refine wp_block ?_
    refine seq_any fun _ hK15 => ?_
    obtain ⟨p16, vs16, x16, ho16, hd16, hm_x16, ht16, hcv16, hl16, hv16⟩ := h_l.nth (k := y) (by omega)
    cases ho16
    obtain ⟨⟨⟨oa16, ca16⟩, ob16, cb16⟩, ⟨oc16, cc16⟩, rfl, hn16, hty16, hrw16⟩ := id hv16
    have hrl16 := (rwV_open hrw16).1
    replace hst6 := hst6.more (r := .free) trivial List.nodup_nil (by simp [Res.blocks])
    refine ra0 (tch := [(4, 4, (fun v => .blk v _)), (5, 4, (fun v => .blk v _))]) hst6 hfr6 (.cons rfl (ob_move rfl) <| .cons rfl (ob_move rfl) <| .cons rfl (ob_indexAddr (k := y) rfl rfl Try.underlying22 Try.sizeOf64 rfl (by omega)) <| .cons rfl (ob_loadS' rfl hcv16 Try.isAgg64 Try.sizeOf64 rfl rfl) <| .consT rfl rfl (fun _ => rfl) rfl (ob_allocL Try.zeroValue64 rfl) <| .consT rfl rfl (fun _ => rfl) rfl (ob_imgT 7 rfl rfl rfl fun y7 => ob_storeF rfl rfl rfl rfl rfl Try.sizeOf64 rfl rfl rfl) <| .nil) ?_
    intro a7 w7 m7 hst7 hle7 hk7
    have hfr7 := hk7.fr (T' := [(6, _), (0, _), (2, _), (3, _), (4, _), (5, _)]) (.old rfl rfl <| .old rfl rfl <| .old rfl rfl <| .old rfl rfl <| .old rfl rfl <| .old rfl rfl <| .nil)
    obtain ⟨g7, e17, _⟩ := hk7.ex 7 rfl
    replace hfr7 := hfr7.cons e17
    replace hst7 := hst7.fin (L' := [_, _, _, _, _]) (.cons e17 <| .cons e17 <| .nil)
    try simp only [List.take_succ_cons, List.take_zero, List.drop_succ_cons, List.drop_zero, List.cons_append, List.nil_append, List.append_nil, List.length_cons, List.length_nil, Nat.zero_add, Nat.reduceAdd] at hst7
    replace hS := hS.mono hle7
    replace hR := hR.mono hle7
    replace hty16 := hty16.mono hle7
    replace hrw16 := hrw16.mono hle7
    replace hrl16 := hrl16.mono hle7
    have hlh7 := hlh6.trans hle7
    clear hst6 hfr6 hk7
    have hwx := hw x16 hm_x16
    refine hK15 _ _ ?_; clear hK15
    refine seq_any fun _ hK18 => ?_
    have hb7 := band7 x16.n
    refine ra0 (tch := [(5, 4, (fun _ => .blk _ _))]) hst7 hfr7 (.cons rfl (ob_fieldAddrO (off := 0) rfl Try.underlying64 rfl rfl Try.sizeOf3 rfl) <| .cons rfl (ob_loadL (j := 4) rfl rfl Try.isAgg3 rfl) <| .cons rfl (ob_band rfl rfl) <| .cons rfl (ob_add rfl rfl ⟨by omega, by omega⟩) <| .cons rfl (ob_fieldAddrO (off := 0) rfl Try.underlying64 rfl rfl Try.sizeOf3 rfl) <| .consT rfl rfl (fun _ => rfl) rfl (ob_store rfl rfl rfl Try.sizeOf3 rfl rfl rfl) <| .nil) ?_
    intro a8 w8 m8 hst8 hle8 hk8
    have hfr8 := hk8.fr (T' := [(6, _), (0, _), (2, _), (3, _), (4, _), (5, _), (7, _)]) (.old rfl rfl <| .old rfl rfl <| .old rfl rfl <| .old rfl rfl <| .old rfl rfl <| .old rfl rfl <| .old rfl rfl <| .nil)
    replace hst8 := hst8.fin (L' := [_, _, _, _, _]) (.cons rfl <| .nil)
    try simp only [List.take_succ_cons, List.take_zero, List.drop_succ_cons, List.drop_zero, List.cons_append, List.nil_append, List.append_nil, List.length_cons, List.length_nil, Nat.zero_add, Nat.reduceAdd] at hst8
    replace hS := hS.mono hle8
    replace hR := hR.mono hle8
    replace hty16 := hty16.mono hle8
    replace hrw16 := hrw16.mono hle8
    replace hrl16 := hrl16.mono hle8
    have hlh8 := hlh7.trans hle8
    clear hst7 hfr7 hk8
    refine hK18 _ _ ?_; clear hK18
    refine seq_any fun _ hK19 => ?_
    have hcpx := hrl16.cap
    have emin : (if (10 : Int) < (x16.row.labels.length : Int) then (10 : Int) else (x16.row.labels.length : Int)) = ((min x16.row.labels.length 10 : Nat) : Int) := by split <;> omega
    refine ra0 (tch := [(11, 4, (fun _ => .blk _ _))]) hst8 hfr8 (.cons rfl (ob_fieldAddrO (off := 8) rfl Try.underlying64 rfl rfl Try.sizeOf26 rfl) <| .cons rfl (ob_fieldAddrO (off := 0) rfl Try.underlying26 rfl rfl Try.sizeOf24 rfl) <| .cons rfl (ob_loadL (k := 8) (j := 4) rfl rfl Try.isAgg24 rfl) <| .cons rfl (ob_fieldAddrO (off := 8) rfl Try.underlying64 rfl rfl Try.sizeOf26 rfl) <| .cons rfl (ob_fieldAddrO (off := 0) rfl Try.underlying26 rfl rfl Try.sizeOf24 rfl) <| .cons rfl (ob_loadL (k := 8) (j := 4) rfl rfl Try.isAgg24 rfl) <| .cons rfl (ob_len rfl Try.underlying24) <| .cons rfl (ob_min2 rfl rfl) <| .cons rfl (ob_slice rfl .none (.some rfl emin) Try.underlying24 Try.sizeOf9 (by omega) (by omega)) <| .cons rfl (ob_fieldAddrO (off := 8) rfl Try.underlying64 rfl rfl Try.sizeOf26 rfl) <| .cons rfl (ob_fieldAddrO (off := 0) rfl Try.underlying26 rfl rfl Try.sizeOf24 rfl) <| .consT rfl rfl (fun _ => rfl) rfl (ob_store (k := 8) rfl rfl rfl Try.sizeOf24 rfl rfl rfl) <| .nil) ?_
    intro a9 w9 m9 hst9 hle9 hk9
    have hfr9 := hk9.fr (T' := [(6, _), (0, _), (2, _), (3, _), (4, _), (5, _), (7, _)]) (.old rfl rfl <| .old rfl rfl <| .old rfl rfl <| .old rfl rfl <| .old rfl rfl <| .old rfl rfl <| .old rfl rfl <| .nil)
    replace hst9 := hst9.fin (L' := [_, _, _, _, _]) (.cons rfl <| .nil)
    try simp only [List.take_succ_cons, List.take_zero, List.drop_succ_cons, List.drop_zero, List.cons_append, List.nil_append, List.append_nil, List.length_cons, List.length_nil, Nat.zero_add, Nat.reduceAdd] at hst9
    replace hS := hS.mono hle9
    replace hR := hR.mono hle9
    replace hty16 := hty16.mono hle9
    replace hrw16 := hrw16.mono hle9
    replace hrl16 := hrl16.mono hle9
    have hlh9 := hlh8.trans hle9
    clear hst8 hfr8 hk9
    have hcut : Strs _ _ _ _ _ := hrl16.cut (l := 0) (k := min x16.row.labels.length 10) (Nat.zero_le _) (Nat.min_le_left _ _)
    have hlk : min x16.row.labels.length 10 - 0 = ((x16.row.labels.take (min x16.row.labels.length 10)).drop 0).length := by simp
    rw [hlk] at hcut hst9
    refine hK19 _ _ ?_; clear hK19
    refine seq_any fun _ hK20 => ?_
    refine rp0 hst9 hfr9 (.cons rfl (ob_fieldAddrO (off := 1) rfl Try.underlying64 rfl rfl Try.sizeOf4 rfl) <| .cons rfl (ob_loadL (j := 4) rfl rfl Try.isAgg4 rfl) <| .nil) ?_
    intro a10 w10 m10 hst10 hle10 hk10
    have hfr10 := hk10.fr (T' := [(6, _), (0, _), (2, _), (3, _), (4, _), (5, _), (7, _), (41, _)]) (.old rfl rfl <| .old rfl rfl <| .old rfl rfl <| .old rfl rfl <| .old rfl rfl <| .old rfl rfl <| .old rfl rfl <| .new rfl <| .nil)
    replace hS := hS.mono hle10
    replace hR := hR.mono hle10
    replace hty16 := hty16.mono hle10
    replace hrw16 := hrw16.mono hle10
    replace hcut := hcut.mono hle10
    have hlh10 := hlh9.trans hle10
    clear hst9 hfr9 hk10
    refine hK20 _ _ ?_; clear hK20
    refine cond_any hfr10 rfl rfl (fun hb41 => ?_) (fun hb41 => ?_)
    · try simp only [nq1, nq2, nq3, nq4, nq5, nq6, nq7, nq8, nq9, u8_eq] at hb41
      refine seq_any fun _ hK21 => ?_
      refine ra0 (tch := [(6, 2, (fun _ => .blkx _ _ _))]) hst10 hfr10 (.cons rfl (ob_loadLA (j := 2) rfl rfl Try.isAgg36 Try.sizeOf36 rfl) <| .cons rfl (ob_fieldAddrO (off := 0) rfl Try.underlying64 rfl rfl Try.sizeOf3 rfl) <| .cons rfl (ob_loadL (j := 4) rfl rfl Try.isAgg3 rfl) <| .cons rfl (ob_fieldAddrO (off := 8) rfl Try.underlying64 rfl rfl Try.sizeOf26 rfl) <| .cons rfl (ob_loadLS (j := 4) rfl rfl Try.isAgg26 Try.sizeOf26 rfl rfl) <| .cons rfl (ob_call (φ := MP.sub ⟨s.ts, aset (keyS x16.n) (cutS x16.row 10) s.rs⟩) rfl (.cons rfl <| .cons rfl <| .cons rfl <| .nil) Try.call11 (fun w m hK => by have hle_ := KC.le hK; have hA := KC.agree hK; have hS := hS.mono hle_; have hrw16 := hrw16.mono hle_; have hcut := hcut.mono hle_; exact FnG.mono (setRow_c (n := keyS x16.n) (r := cutS x16.row 10) hA hS ⟨_, _, rfl, hcut, (rwV_open hrw16).2⟩ (by show (cutS x16.row 10).labels.length ≤ _; unfold cutS; simp; omega)) fun _ _ _ _ h => h)) <| .consT rfl rfl (fun _ => rfl) rfl (ob_imgTX 47 rfl rfl rfl fun y47 => ob_store' rfl rfl rfl Try.sizeOf36 rfl rfl rfl) <| .nil) ?_
      intro a11 w11 m11 hst11 hle11 hk11
      have hfr11 := hk11.fr (T' := [(6, _), (0, _), (2, _), (3, _), (4, _), (5, _), (7, _)]) (.old rfl rfl <| .old rfl rfl <| .old rfl rfl <| .old rfl rfl <| .old rfl rfl <| .old rfl rfl <| .old rfl rfl <| .nil)
      replace hst11 := hst11.fin (L' := [_, _, _, _, _]) (.cons rfl <| .nil)
      try simp only [List.take_succ_cons, List.take_zero, List.drop_succ_cons, List.drop_zero, List.cons_append, List.nil_append, List.append_nil, List.length_cons, List.length_nil, Nat.zero_add, Nat.reduceAdd] at hst11
      obtain ⟨⟨q3, q4⟩, hS1, hst11⟩ := hst11.unx (k := 2) rfl (fun _ => rfl)
      replace hR := hR.mono hle11
      replace hrw16 := hrw16.mono hle11
      replace hcut := hcut.mono hle11
      have hlh11 := hlh10.trans hle11
      clear hst10 hfr10 hk11
      refine hK21 _ _ ?_; clear hK21
      refine ra0 (tch := [(6, 3, (fun _ => .blkx _ _ _))]) hst11 hfr11 (.cons rfl (ob_loadLA (j := 3) rfl rfl Try.isAgg40 Try.sizeOf40 rfl) <| .cons rfl (ob_fieldAddrO (off := 0) rfl Try.underlying64 rfl rfl Try.sizeOf3 rfl) <| .cons rfl (ob_loadL (j := 4) rfl rfl Try.isAgg3 rfl) <| .cons rfl (ob_fieldAddrO (off := 8) rfl Try.underlying64 rfl rfl Try.sizeOf26 rfl) <| .cons rfl (ob_loadLS (j := 4) rfl rfl Try.isAgg26 Try.sizeOf26 rfl rfl) <| .cons rfl (ob_call (φ := MP.rsub ⟨r.ts, rset (keyS x16.n) (cutS x16.row 10) r.rs⟩) rfl (.cons rfl <| .cons rfl <| .cons rfl <| .nil) Try.call25 (fun w m hK => by have hle_ := KC.le hK; have hA := KC.agree hK; have hR := hR.mono hle_; have hrw16 := hrw16.mono hle_; have hcut := hcut.mono hle_; exact FnG.mono (rsetRow_c (n := keyS x16.n) (x := cutS x16.row 10) hA hR ⟨_, _, rfl, hcut, (rwV_open hrw16).2⟩ (by omega)) fun _ _ _ _ h => h)) <| .consT rfl rfl (fun _ => rfl) rfl (ob_imgTX 53 rfl rfl rfl fun y53 => ob_store' rfl rfl rfl Try.sizeOf40 rfl rfl rfl) <| .nil) ?_
      intro a12 w12 m12 hst12 hle12 hk12
      have hfr12 := hk12.fr (T' := [(6, _), (0, _), (2, _), (3, _), (4, _), (5, _)]) (.old rfl rfl <| .old rfl rfl <| .old rfl rfl <| .old rfl rfl <| .old rfl rfl <| .old rfl rfl <| .nil)
      replace hst12 := hst12.fin (L' := [_, _, _, _, _]) (.cons rfl <| .nil)
      try simp only [List.take_succ_cons, List.take_zero, List.drop_succ_cons, List.drop_zero, List.cons_append, List.nil_append, List.append_nil, List.length_cons, List.length_nil, Nat.zero_add, Nat.reduceAdd] at hst12
      obtain ⟨z1, hR1, hst12⟩ := hst12.unx (k := 3) rfl (fun _ => rfl)
      replace hS1 := hS1.mono hle12
      have hlh12 := hlh11.trans hle12
      clear hst11 hfr11 hk12
      have hkS : sayS s x16 = ⟨s.ts, aset (keyS x16.n) (cutS x16.row 10) s.rs⟩ := by unfold sayS; rw [if_pos hb41]
      have hkR : sayR r x16 = ⟨r.ts, rset (keyS x16.n) (cutS x16.row 10) r.rs⟩ := by unfold sayR; rw [if_pos hb41]
      have hrl9 := rset_len (keyS x16.n) (cutS x16.row 10) r.rs
      refine hK14 _ _ ?_; clear hK14
      refine rp0 hst12 hfr12 (.cons rfl (ob_move rfl) <| .cons rfl (ob_add rfl rfl ⟨by omega, by omega⟩) <| .cons rfl (ob_assign rfl) <| .nil) ?_
      intro a13 w13 m13 hst13 hle13 hk13
      have hfr13 := hk13.fr (T' := [(0, _), (2, _), (3, _), (4, _), (5, _), (6, _)]) (.old rfl rfl <| .old rfl rfl <| .old rfl rfl <| .old rfl rfl <| .old rfl rfl <| .new rfl <| .nil)
      replace hS1 := hS1.mono hle13
      replace hR1 := hR1.mono hle13
      have hlh13 := hlh12.trans hle13
      clear hst12 hfr12 hk13
      have hst13 := hst13.take 4
      exact ⟨(y + 1, ⟨s.ts, aset (keyS x16.n) (cutS x16.row 10) s.rs⟩, (q3, q4), ⟨r.ts, rset (keyS x16.n) (cutS x16.row 10) r.rs⟩, z1), m13, by show min l.length 10 - (y + 1) < min l.length 10 - y; omega, ⟨hst13, hlh13, hfr13.sub (.cons rfl <| .cons rfl <| .cons rfl <| .cons rfl <| .cons rfl <| .cons rfl <| .nil), ⟨by show y + 1 ≤ min l.length 10; omega, hS1, hR1, by rw [ht16, List.foldl_append, ← hs9]; exact hkS.symm, by rw [ht16, List.foldl_append, ← hr9]; exact hkR.symm, ⟨by show r.ts.length ≤ y + 1; omega, by show (rset _ _ _).length ≤ y + 1; omega⟩⟩⟩⟩
    · try simp only [nq1, nq2, nq3, nq4, nq5, nq6, nq7, nq8, nq9, u8_eq] at hb41
      refine seq_any fun _ hK24 => ?_
      refine rp0 hst10 hfr10 (.cons rfl (ob_fieldAddrO (off := 2) rfl Try.underlying64 rfl rfl Try.sizeOf28 rfl) <| .cons rfl (ob_loadLS (j := 4) rfl rfl Try.isAgg28 Try.sizeOf28 rfl rfl) <| .cons rfl (ob_callE rfl (.cons rfl <| .nil) Try.call8 (fun w m hK => by have hle_ := KC.le hK; have hA := KC.agree hK; have hty16 := hty16.mono hle_; exact count_c x16.ty hA hty16)) <| .cons rfl (ob_leq rfl rfl) <| .nil) ?_
      intro a11 w11 m11 hst11 hle11 hk11
      have hfr11 := hk11.fr (T' := [(6, _), (0, _), (2, _), (3, _), (4, _), (5, _), (7, _), (57, _)]) (.old rfl rfl <| .old rfl rfl <| .old rfl rfl <| .old rfl rfl <| .old rfl rfl <| .old rfl rfl <| .old rfl rfl <| .new rfl <| .nil)
      replace hS := hS.mono hle11
      replace hR := hR.mono hle11
      replace hty16 := hty16.mono hle11
      have hlh11 := hlh10.trans hle11
      clear hst10 hfr10 hk11
      refine hK24 _ _ ?_; clear hK24
      refine cond_any hfr11 rfl rfl (fun hb57 => ?_) (fun hb57 => ?_)
      · try simp only [nq1, nq2, nq3, nq4, nq5, nq6, nq7, nq8, nq9, u8_eq] at hb57
        refine seq_any fun _ hK25 => ?_
        refine ra0 (tch := [(6, 2, (fun _ => .blkx _ _ _))]) hst11 hfr11 (.cons rfl (ob_loadLA (j := 2) rfl rfl Try.isAgg36 Try.sizeOf36 rfl) <| .cons rfl (ob_fieldAddrO (off := 0) rfl Try.underlying64 rfl rfl Try.sizeOf3 rfl) <| .cons rfl (ob_loadL (j := 4) rfl rfl Try.isAgg3 rfl) <| .cons rfl (ob_fieldAddrO (off := 2) rfl Try.underlying64 rfl rfl Try.sizeOf28 rfl) <| .cons rfl (ob_loadLS (j := 4) rfl rfl Try.isAgg28 Try.sizeOf28 rfl rfl) <| .cons rfl (ob_call (φ := MP.sub ⟨aset (keyS x16.n) x16.ty s.ts, s.rs⟩) rfl (.cons rfl <| .cons rfl <| .cons rfl <| .nil) Try.call10 (fun w m hK => by have hle_ := KC.le hK; have hA := KC.agree hK; have hS := hS.mono hle_; have hty16 := hty16.mono hle_; exact FnG.mono (setType_c (n := keyS x16.n) (t := x16.ty) hA hS hty16 (by omega)) fun _ _ _ _ h => h)) <| .consT rfl rfl (fun _ => rfl) rfl (ob_imgTX 63 rfl rfl rfl fun y63 => ob_store' rfl rfl rfl Try.sizeOf36 rfl rfl rfl) <| .nil) ?_
        intro a12 w12 m12 hst12 hle12 hk12
        have hfr12 := hk12.fr (T' := [(6, _), (0, _), (2, _), (3, _), (4, _), (5, _), (7, _)]) (.old rfl rfl <| .old rfl rfl <| .old rfl rfl <| .old rfl rfl <| .old rfl rfl <| .old rfl rfl <| .old rfl rfl <| .nil)
        replace hst12 := hst12.fin (L' := [_, _, _, _, _]) (.cons rfl <| .nil)
        try simp only [List.take_succ_cons, List.take_zero, List.drop_succ_cons, List.drop_zero, List.cons_append, List.nil_append, List.append_nil, List.length_cons, List.length_nil, Nat.zero_add, Nat.reduceAdd] at hst12
        obtain ⟨⟨q3, q4⟩, hS1, hst12⟩ := hst12.unx (k := 2) rfl (fun _ => rfl)
        replace hR := hR.mono hle12
        replace hty16 := hty16.mono hle12
        have hlh12 := hlh11.trans hle12
        clear hst11 hfr11 hk12
        refine hK25 _ _ ?_; clear hK25
        refine ra0 (tch := [(6, 3, (fun _ => .blkx _ _ _))]) hst12 hfr12 (.cons rfl (ob_loadLA (j := 3) rfl rfl Try.isAgg40 Try.sizeOf40 rfl) <| .cons rfl (ob_fieldAddrO (off := 0) rfl Try.underlying64 rfl rfl Try.sizeOf3 rfl) <| .cons rfl (ob_loadL (j := 4) rfl rfl Try.isAgg3 rfl) <| .cons rfl (ob_fieldAddrO (off := 2) rfl Try.underlying64 rfl rfl Try.sizeOf28 rfl) <| .cons rfl (ob_loadLS (j := 4) rfl rfl Try.isAgg28 Try.sizeOf28 rfl rfl) <| .cons rfl (ob_call (φ := MP.rsub ⟨rset (keyS x16.n) x16.ty r.ts, r.rs⟩) rfl (.cons rfl <| .cons rfl <| .cons rfl <| .nil) Try.call26 (fun w m hK => by have hle_ := KC.le hK; have hA := KC.agree hK; have hR := hR.mono hle_; have hty16 := hty16.mono hle_; exact FnG.mono (rsetType_c (n := keyS x16.n) (x := x16.ty) hA hR hty16 (by omega)) fun _ _ _ _ h => h)) <| .consT rfl rfl (fun _ => rfl) rfl (ob_imgTX 69 rfl rfl rfl fun y69 => ob_store' rfl rfl rfl Try.sizeOf40 rfl rfl rfl) <| .nil) ?_
        intro a13 w13 m13 hst13 hle13 hk13
        have hfr13 := hk13.fr (T' := [(6, _), (0, _), (2, _), (3, _), (4, _), (5, _)]) (.old rfl rfl <| .old rfl rfl <| .old rfl rfl <| .old rfl rfl <| .old rfl rfl <| .old rfl rfl <| .nil)
        replace hst13 := hst13.fin (L' := [_, _, _, _, _]) (.cons rfl <| .nil)
        try simp only [List.take_succ_cons, List.take_zero, List.drop_succ_cons, List.drop_zero, List.cons_append, List.nil_append, List.append_nil, List.length_cons, List.length_nil, Nat.zero_add, Nat.reduceAdd] at hst13
        obtain ⟨z1, hR1, hst13⟩ := hst13.unx (k := 3) rfl (fun _ => rfl)
        replace hS1 := hS1.mono hle13
        have hlh13 := hlh12.trans hle13
        clear hst12 hfr12 hk13
        have hkS : sayS s x16 = ⟨aset (keyS x16.n) x16.ty s.ts, s.rs⟩ := by unfold sayS; rw [if_neg (by rw [hb41]; decide), if_pos (by omega)]
        have hkR : sayR r x16 = ⟨rset (keyS x16.n) x16.ty r.ts, r.rs⟩ := by unfold sayR; rw [if_neg (by rw [hb41]; decide), if_pos (by omega)]
        have hrl9 := rset_len (keyS x16.n) x16.ty r.ts
        refine hK14 _ _ ?_; clear hK14
        refine rp0 hst13 hfr13 (.cons rfl (ob_move rfl) <| .cons rfl (ob_add rfl rfl ⟨by omega, by omega⟩) <| .cons rfl (ob_assign rfl) <| .nil) ?_
        intro a14 w14 m14 hst14 hle14 hk14
        have hfr14 := hk14.fr (T' := [(0, _), (2, _), (3, _), (4, _), (5, _), (6, _)]) (.old rfl rfl <| .old rfl rfl <| .old rfl rfl <| .old rfl rfl <| .old rfl rfl <| .new rfl <| .nil)
        replace hS1 := hS1.mono hle14
        replace hR1 := hR1.mono hle14
        have hlh14 := hlh13.trans hle14
        clear hst13 hfr13 hk14
        have hst14 := hst14.take 4
        exact ⟨(y + 1, ⟨aset (keyS x16.n) x16.ty s.ts, s.rs⟩, (q3, q4), ⟨rset (keyS x16.n) x16.ty r.ts, r.rs⟩, z1), m14, by show min l.length 10 - (y + 1) < min l.length 10 - y; omega, ⟨hst14, hlh14, hfr14.sub (.cons rfl <| .cons rfl <| .cons rfl <| .cons rfl <| .cons rfl <| .cons rfl <| .nil), ⟨by show y + 1 ≤ min l.length 10; omega, hS1, hR1, by rw [ht16, List.foldl_append, ← hs9]; exact hkS.symm, by rw [ht16, List.foldl_append, ← hr9]; exact hkR.symm, ⟨by show (rset _ _ _).length ≤ y + 1; omega, by show r.rs.length ≤ y + 1; omega⟩⟩⟩⟩
      · try simp only [nq1, nq2, nq3, nq4, nq5, nq6, nq7, nq8, nq9, u8_eq] at hb57
        have hkS : sayS s x16 = s := by unfold sayS; rw [if_neg (by rw [hb41]; decide), if_neg (by omega)]
        have hkR : sayR r x16 = r := by unfold sayR; rw [if_neg (by rw [hb41]; decide), if_neg (by omega)]
        refine wp_skip ?_
        refine hK14 _ _ ?_; clear hK14
        refine rp0 hst11 hfr11 (.cons rfl (ob_move rfl) <| .cons rfl (ob_add rfl rfl ⟨by omega, by omega⟩) <| .cons rfl (ob_assign rfl) <| .nil) ?_
        intro a12 w12 m12 hst12 hle12 hk12
        have hfr12 := hk12.fr (T' := [(0, _), (2, _), (3, _), (4, _), (5, _), (6, _)]) (.old rfl rfl <| .old rfl rfl <| .old rfl rfl <| .old rfl rfl <| .old rfl rfl <| .new rfl <| .nil)
        replace hS := hS.mono hle12
        replace hR := hR.mono hle12
        have hlh12 := hlh11.trans hle12
        clear hst11 hfr11 hk12
        have hst12 := hst12.take 4
        exact ⟨(y + 1, s, q, r, z), m12, by show min l.length 10 - (y + 1) < min l.length 10 - y; omega, ⟨hst12, hlh12, hfr12.sub (.cons rfl <| .cons rfl <| .cons rfl <| .cons rfl <| .cons rfl <| .cons rfl <| .nil), ⟨by show y + 1 ≤ min l.length 10; omega, hS, hR, by rw [ht16, List.foldl_append, ← hs9]; exact hkS.symm, by rw [ht16, List.foldl_append, ← hr9]; exact hkR.symm, ⟨by show r.ts.length ≤ y + 1; omega, by show r.rs.length ≤ y + 1; omega⟩⟩⟩⟩
  · try simp only [nq1, nq2, nq3, nq4, nq5, nq6, nq7, nq8, nq9, u8_eq] at hb17
    have hge : y = min l.length 10 := by omega
    have htk : l.take y = l.take 10 := by rw [hge]; rcases Nat.le_total l.length 10 with h | h; (rw [Nat.min_eq_left h, List.take_length, List.take_of_length_le h]); (rw [Nat.min_eq_right h])
    rw [htk] at hs9 hr9
    have hs10 : s = saidS l := hs9
    have hr10 : r = saidR l := hr9
    subst hs10
    subst hr10
    refine wp_exit ?_
    refine hK9 _ _ ?_; clear hK9
    refine seq_any fun _ hK28 => ?_
    refine region_any (tch := [(2, 0, (fun _ => .blk _ _)), (3, 1, (fun _ => .blk _ _))]) (fun _ => mixed) hst6 hfr6 (by kernel_rfl) (by kernel_rfl) (by kernel_rfl) (.cons rfl (ob_loadLA (j := 2) rfl rfl Try.isAgg36 Try.sizeOf36 rfl) <| .cons rfl (ob_loadLA (j := 3) rfl rfl Try.isAgg40 Try.sizeOf40 rfl) <| .consT rfl rfl (fun _ => rfl) rfl (ob_store' rfl rfl rfl Try.sizeOf36 rfl rfl rfl) <| .consT rfl rfl (fun _ => rfl) rfl (ob_store' rfl rfl rfl Try.sizeOf40 rfl rfl rfl) <| .nil) ?_
    intro a7 w7 m7 hst7 hle7 hk7
    have hfr7 := hk7.fr (T' := [(6, _), (2, _), (3, _)]) (.old rfl rfl <| .old rfl rfl <| .old rfl rfl <| .nil)
    replace hst7 := hst7.fin (L' := [_, _, _, _]) (.cons rfl <| .cons rfl <| .nil)
    try simp only [List.take_succ_cons, List.take_zero, List.drop_succ_cons, List.drop_zero, List.cons_append, List.nil_append, List.append_nil, List.length_cons, List.length_nil, Nat.zero_add, Nat.reduceAdd] at hst7
    replace hS := hS.mono hle7
    replace hR := hR.mono hle7
    have hlh7 := hlh6.trans hle7
    clear hst6 hfr6 hk7
    refine hK28 _ _ ?_; clear hK28
    refine wp_ret ?_
    repeat (with_reducible first | refine then_ret ?_ | refine block_ret ?_)
    exact fn_ret hst7 hfr7 rfl (.cell rfl (load_blk (blk_heap (hst7.loc.at_ (k := 0) rfl)) Try.isAgg36 Try.sizeOf36) <| .cell rfl (load_blk (blk_heap (hst7.loc.at_ (k := 1) rfl)) Try.isAgg40 Try.sizeOf40) <| .nil) (⟨(q, z), rfl, hS, hR⟩)

end Go.Proofs.Ytfphefkfbhjfdaa
