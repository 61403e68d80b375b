/-
  A law of chapter 14, walked. Conditions: those of the theorem.
-/
import Derived.Test.YteamjgbhcjojaaaDoorShown1
import Derived.Test.YteamjgbhcjojaaaDoorPure7
namespace Go.Proofs.YteamjgbhcjojaaaDoor
set_option linter.all false
set_option maxRecDepth 4000
open Go.RowKit
theorem nodup_take {α : Type} {l : List α} {y : Nat} {x : α} (h : l.Nodup) (e : l.drop y = x :: l.drop (y + 1)) (hx : x ∈ l.take y) : False := by
  rw [← List.take_append_drop y l, e] at h
  exact (List.nodup_append.1 h).2.2 x hx x (.head _) rfl
theorem flag_ok {q : Bool} (h : (!q) = false) : q = true := by cases q; cases h; rfl
theorem var_name {t : Tm} : RtT t → ∀ {s : Str}, VarIn s t → s ∈ nameT t := by
  induction t using Tm.rec_ with
  | h t ihk iha =>
    intro hr s hv
    have hk1 : t.kind = 1 → t.kids = [] ∧ t.arms = [] := fun h1 => by
      have h2 := hr.here
      refine ⟨?_, h2.2 (by omega) (by omega)⟩
      have h3 := h2.1
      unfold kidsM at h3
      rw [h1] at h3
      simp at h3
      exact List.eq_nil_of_length_eq_zero (by omega)
    rw [nameT_eq]
    cases hv with
    | here h hn => rw [if_pos h, hn]; exact List.mem_singleton.2 rfl
    | @kid _ u hu hs =>
      have h1 : t.kind ≠ 1 := fun h => by rw [(hk1 h).1] at hu; cases hu
      rw [if_neg h1]
      exact nameAs_sub (nameKs_mem (ihk u hu (hr.kid hu) hs) hu)
    | @arm _ a ha hs =>
      have h1 : t.kind ≠ 1 := fun h => by rw [(hk1 h).2] at ha; cases ha
      rw [if_neg h1]
      exact nameAs_mem (iha a ha (hr.arm ha) hs) ha
theorem turn_bulk (sx sy : Str) (hs : sy.length ≤ 7) (t : Tm) : bulkM (turnT sx sy t) ≤ 8 * bulkM t := by
  induction t using Tm.rec_ with
  | h t ihk iha =>
    have hk : ∀ (l : List Tm), (∀ u ∈ l, u ∈ t.kids) → ∀ (f : Nat → List Str) (i : Nat), bulkKs (turnKs sx sy f i l) ≤ 8 * bulkKs l := by
      intro l
      induction l with
      | nil => intro _ f i; rw [turnKs]; exact Nat.zero_le _
      | cons u l ih =>
        intro hm f i
        have h1 := ihk u (hm u (.head _)); have h2 := ih (fun v hv => hm v (.tail _ hv)) f (i + 1)
        rw [turnKs, bulkKs, bulkKs]
        split <;> omega
    have ha : ∀ (l : List Ar), (∀ u ∈ l, u ∈ t.arms) → bulkAs (turnAs sx sy l) ≤ 8 * bulkAs l := by
      intro l
      induction l with
      | nil => intro _; rw [turnAs]; exact Nat.zero_le _
      | cons u l ih =>
        intro hm
        have h1 := iha u (hm u (.head _)); have h2 := ih (fun v hv => hm v (.tail _ hv))
        have h5 : bulkM (if sx ∈ u.vars then u.body else turnT sx sy u.body) ≤ 8 * bulkM u.body := by split <;> omega
        rw [turnAs_cons, bulkAs_cons, bulkAs_cons]
        show u.name.length + (u.vars.map fun x => x.length + 2).sum + bulkM (if sx ∈ u.vars then u.body else turnT sx sy u.body) + bulkAs (turnAs sx sy l) ≤ _
        omega
    have h1 := hk t.kids (fun _ h => h) (boundR t.kind t.name t.param) 0; have h2 := ha t.arms (fun _ h => h)
    have h3 : (turnS sx sy t).length ≤ t.name.length + 7 := by unfold turnS; split <;> omega
    have h4 := bulkM_eq t
    rw [turnT_eq, bulkM_eq]
    simp only [Tm.name, Tm.param, Tm.kids, Tm.arms] at h1 h2 h3 h4 ⊢
    omega
def letter (b : UInt8) : Str := [IntKind.u8.wrap (97 + (b.toNat : Int).tmod 26)].map fun n => UInt8.ofNat n.toNat
theorem letter_us (b : UInt8) : letter b ≠ us := by
  have h : ∀ n : Fin 256, ([IntKind.u8.wrap (97 + ((n.val : Nat) : Int).tmod 26)].map fun n => UInt8.ofNat n.toNat) ≠ us := by decide +kernel
  have := h ⟨b.toNat, b.toNat_lt⟩
  exact this
set_option maxHeartbeats 1600000 in
theorem rewriteNames_c {w : World} {m : Mem} {p : Pg} {vs_p : List Value} {n : Int} {a : UInt8} {b : UInt8} (hA : Agree w m) (h_p : PgR m p vs_p) (hT : Tab w) (hbo : opsN p.effects ≤ 1000000000) (hbc : consN p.datas ≤ 1000000000) (hbd : p.datas.length ≤ 1000000000) (hB : bulkM p.body ≤ 2100000) : FnV Tryd.prog 5 #[.agg vs_p.toArray, .int .i64 n, .int .u8 (a.toNat : Int), .int .u8 (b.toNat : Int)] w m (fun _ _ v => v = .bool true) := by
  obtain ⟨oE_p, cE_p, oD_p, cD_p, bs_p, rfl, hef_p, hda_p, hpb_p⟩ := id h_p
  have hbe_p := hef_p.big; have hce_p := hef_p.cap; have hbda_p := hda_p.big; have hcd_p := hda_p.cap
  obtain ⟨⟨oK_pb, cK_pb, oA_pb, cA_pb, oR_pb, cR_pb, t0_pb, t1_pb, t2_pb, t3_pb, t4_pb, t5_pb, u0_pb, u1_pb, u2_pb, u3_pb, u4_pb, u5_pb⟩, rfl, hon_pb, hkk_pb, haa_pb, hrr_pb⟩ := hpb_p.open_
  dsimp only at hkk_pb haa_pb hrr_pb
  have hbg_pb := hkk_pb.big; have hcp_pb := hkk_pb.cap; have hbh_pb := haa_pb.big; have hcq_pb := haa_pb.cap
  refine fn_enter (vs := [_, _, _, _]) Tryd.func5 rfl rfl rfl fun a0 hfr0 => ?_
  have hst0 := st_enter hA (loc_nil [] _ w m)
  have hM : MLe m m := MLe.refl m
  refine seq_any fun _ hK1 => ?_
  refine rp0 hst0 hfr0 (.cons rfl (ob_box rfl rfl) <| .cons rfl (ob_assign rfl) <| .nil) ?_
  intro a1 w1 m1 hst1 hle1 hk1
  have hfr1 := hk1.fr (T' := [(1, _), (2, _), (3, _)]) (.old rfl rfl <| .old rfl rfl <| .old rfl rfl <| .nil)
  obtain ⟨g2, e2, hc4⟩ := hk1.ex 4 rfl
  replace hfr1 := hfr1.cons e2
  replace h_p := h_p.mono hle1
  replace hef_p := hef_p.mono hle1
  replace hda_p := hda_p.mono hle1
  replace hpb_p := hpb_p.mono hle1
  replace hkk_pb := hkk_pb.mono hle1
  replace haa_pb := haa_pb.mono hle1
  replace hrr_pb := hrr_pb.mono hle1
  clear hst0 hfr0 hk1
  refine hK1 _ _ ?_; clear hK1
  refine seq_any fun _ hK3 => ?_
  refine rp0 hst1 hfr1 (.cons rfl (ob_callE rfl (.nil) Tryd.call7 (fun w m hK => by have hle_ := KC.le hK; have hA := KC.agree hK; have hT := tab_keep hT hK.st.ext; have h_p := h_p.mono hle_; have hef_p := hef_p.mono hle_; have hda_p := hda_p.mono hle_; have hpb_p := hpb_p.mono hle_; have hkk_pb := hkk_pb.mono hle_; have haa_pb := haa_pb.mono hle_; have hrr_pb := hrr_pb.mono hle_; have hc4 := hc4.mono hle_; exact shown_c hA (by first | assumption | omega | simp_all))) <| .cons rfl (ob_assign rfl) <| .nil) ?_
  intro a2 w2 m2 hst2 hle2 hk2
  have hfr2 := hk2.fr (T' := [(1, _), (2, _), (3, _), (4, _), (9, _)]) (.old rfl rfl <| .old rfl rfl <| .old rfl rfl <| .old rfl rfl <| .new rfl <| .nil)
  replace h_p := h_p.mono hle2
  replace hc4 := hc4.mono hle2
  clear hst1 hfr1 hk2
  refine hK3 _ _ ?_; clear hK3
  refine seq_any fun _ hK4 => ?_
  replace hst2 := hst2.more (r := .free) trivial List.nodup_nil (by simp [Res.blocks])
  refine ra0 (tch := [(6, 0, (fun v => .blk v _)), (7, 0, (fun v => .blkx v _ _))]) hst2 hfr2 (.cons rfl (ob_loadS' rfl hc4 Tryd.isAgg35 Tryd.sizeOf35 rfl rfl) <| .cons rfl (ob_move rfl) <| .cons rfl (ob_call (φ := MP.partB 2100000) rfl (.cons rfl <| .cons rfl <| .nil) Tryd.call8 (fun w m hK => by have hle_ := KC.le hK; have hA := KC.agree hK; have h_p := h_p.mono hle_; exact FnG.mono (part_c hA h_p hbo hbc hbd 2100000 hB (by omega)) fun _ _ _ _ h => h)) <| .cons rfl (ob_imgV 19 rfl rfl rfl fun y19 => ob_move rfl) <| .cons rfl (ob_imgV 16 rfl rfl rfl fun y16 => ob_extract rfl rfl) <| .cons rfl (ob_imgV 16 rfl rfl rfl fun y16 => ob_extract rfl rfl) <| .consT rfl rfl (fun _ => rfl) rfl (ob_allocL Tryd.zeroValue33 rfl) <| .consT rfl rfl (fun _ => rfl) rfl (ob_imgT 10 rfl rfl rfl fun y10 => ob_imgTX 20 rfl rfl rfl fun y20 => ob_storeKF rfl rfl rfl rfl rfl Tryd.sizeOf33 rfl rfl (fun w m hK => hK.2.1.one)) <| .consA 21 rfl rfl <| .nil) ?_
  intro a3 w3 m3 hst3 hle3 hk3
  have hfr3 := hk3.fr (T' := [(2, _), (3, _), (9, _)]) (.old rfl rfl <| .old rfl rfl <| .old rfl rfl <| .nil)
  obtain ⟨⟨⟨xbt, ybt⟩, qt⟩, e5, _⟩ := hk3.ex 21 rfl
  obtain ⟨g6, e6, _⟩ := hk3.ex 10 rfl
  replace hfr3 := hfr3.cons e6
  replace hfr3 := hfr3.cons (hk3.same 11 rfl e5)
  replace hst3 := hst3.fin (L' := [_]) (.cons e6 <| .cons e6 <| .nil)
  try simp only [List.take_succ_cons, List.take_zero, List.drop_succ_cons, List.drop_zero, List.cons_append, List.nil_append, List.append_nil, List.length_cons, List.length_nil, Nat.zero_add, Nat.reduceAdd] at hst3
  obtain ⟨⟨⟨t, yt⟩, bt⟩, ⟨ht, hst, hct, hbt, hrt⟩, hst3⟩ := hst3.unx (k := 0) rfl (fun _ => rfl)
  clear hst2 hfr2 hk3
  dsimp only at ht hst hct hbt hrt
  refine hK4 _ _ ?_; clear hK4
  refine seq_any fun _ hK8 => ?_
  refine seq_any fun _ hK9 => ?_
  refine rp0 hst3 hfr3 (.cons rfl (ob_move rfl) <| .cons rfl (ob_not rfl) <| .cons rfl (ob_move rfl) <| .cons rfl (ob_loadLA (j := 0) rfl rfl Tryd.isAgg33 Tryd.sizeOf33 rfl) <| .cons rfl (ob_callE rfl (.cons rfl <| .nil) Tryd.call9 (fun w m hK => by have hle_ := KC.le hK; have hA := KC.agree hK; have ht := ht.mono hle_; exact quotes_c t hA ht (by omega))) <| .cons rfl (ob_or rfl rfl rfl) <| .nil) ?_
  intro a4 w4 m4 hst4 hle4 hk4
  have hfr4 := hk4.fr (T' := [(2, _), (3, _), (9, _), (10, _), (27, _)]) (.old rfl rfl <| .old rfl rfl <| .old rfl rfl <| .old rfl rfl <| .new rfl <| .nil)
  replace ht := ht.mono hle4
  clear hst3 hfr3 hk4
  refine hK9 _ _ ?_; clear hK9
  refine cond_any hfr4 rfl rfl (fun hb27 => ?_) (fun hb27 => ?_)
  · try simp only [nq1, nq2, nq3, nq4, nq5, nq6, nq7, nq8, nq9, u8_eq] at hb27
    refine seq_any fun _ hK10 => ?_
    refine rp0 hst4 hfr4 (.cons rfl (ob_move rfl) <| .cons rfl (ob_assign rfl) <| .nil) ?_
    intro a5 w5 m5 hst5 hle5 hk5
    have hfr5 := hk5.fr (T' := [(8, _)]) (.new rfl <| .nil)
    clear hst4 hfr4 hk5
    refine hK10 _ _ ?_; clear hK10
    refine wp_ret ?_
    repeat (with_reducible first | refine then_ret ?_ | refine block_ret ?_)
    exact fn_ret hst5 hfr5 rfl (.tmp rfl <| .nil) (rfl)
  · try simp only [nq1, nq2, nq3, nq4, nq5, nq6, nq7, nq8, nq9, u8_eq] at hb27
    have hq9 : quotesM t = false := hb27.2
    refine wp_skip ?_
    refine hK8 _ _ ?_; clear hK8
    refine seq_any fun _ hK12 => ?_
    refine rp0 hst4 hfr4 (.cons rfl (ob_move rfl) <| .cons rfl (ob_rem rfl rfl (by omega)) <| .cons rfl (ob_addW rfl rfl) <| .cons rfl (ob_buildSlice (.cons rfl <| .nil) Tryd.underlying46 Tryd.sizeOf5 Tryd.zeroValue5 rfl rfl rfl rfl) <| .cons rfl (ob_imgE 32 rfl rfl rfl fun y32 => ob_conv_bs (ns := [_]) rfl Tryd.underlying46 Tryd.underlying5 Tryd.underlying9 (fun w m hK => hK.2)) <| .cons rfl (ob_assign rfl) <| .nil) ?_
    intro a5 w5 m5 hst5 hle5 hk5
    have hfr5 := hk5.fr (T' := [(3, _), (9, _), (10, _), (12, _)]) (.old rfl rfl <| .old rfl rfl <| .old rfl rfl <| .new rfl <| .nil)
    replace ht := ht.mono hle5
    clear hst4 hfr4 hk5
    refine hK12 _ _ ?_; clear hK12
    refine seq_any fun _ hK13 => ?_
    refine rp0 hst5 hfr5 (.cons rfl (ob_move rfl) <| .cons rfl (ob_rem rfl rfl (by omega)) <| .cons rfl (ob_addW rfl rfl) <| .cons rfl (ob_buildSlice (.cons rfl <| .nil) Tryd.underlying46 Tryd.sizeOf5 Tryd.zeroValue5 rfl rfl rfl rfl) <| .cons rfl (ob_imgE 37 rfl rfl rfl fun y37 => ob_conv_bs (ns := [_]) rfl Tryd.underlying46 Tryd.underlying5 Tryd.underlying9 (fun w m hK => hK.2)) <| .cons rfl (ob_sadd rfl rfl (by first | omega | (simp only [List.length_append, List.length_cons, List.length_nil, List.length_map]; omega))) <| .cons rfl (ob_assign rfl) <| .nil) ?_
    intro a6 w6 m6 hst6 hle6 hk6
    have hfr6 := hk6.fr (T' := [(3, _), (9, _), (10, _), (12, _), (13, _)]) (.old rfl rfl <| .old rfl rfl <| .old rfl rfl <| .old rfl rfl <| .new rfl <| .nil)
    replace ht := ht.mono hle6
    clear hst5 hfr5 hk6
    refine hK13 _ _ ?_; clear hK13
    refine seq_any fun _ hK14 => ?_
    refine seq_any fun _ hK15 => ?_
    refine rp0 hst6 hfr6 (.cons rfl (ob_loadLA (j := 0) rfl rfl Tryd.isAgg33 Tryd.sizeOf33 rfl) <| .cons rfl (ob_call (φ := MP.strs (nameT t)) rfl (.cons rfl <| .nil) Tryd.call16 (fun w m hK => by have hle_ := KC.le hK; have hA := KC.agree hK; have ht := ht.mono hle_; exact FnG.mono (names_c t hA ht (by omega)) fun _ _ _ _ h => h)) <| .cons rfl (ob_move rfl) <| .cons rfl (ob_imgE 41 rfl rfl rfl fun y41 => ob_callE rfl (.cons rfl <| .cons rfl <| .nil) Tryd.call15 (fun w m hK => by have hle_ := KC.le hK; have hA := KC.agree hK; have hr0_ := hK.2; exact in_c (l := nameT t) (s := (letter b ++ [95, 111, 116, 104, 101, 114])) hA hr0_)) <| .cons rfl (ob_move rfl) <| .cons rfl (ob_loadLA (j := 0) rfl rfl Tryd.isAgg33 Tryd.sizeOf33 rfl) <| .cons rfl (ob_call (φ := MP.strs (bndT (t))) rfl (.cons rfl <| .nil) Tryd.call14 (fun w m hK => by have hle_ := KC.le hK; have hA := KC.agree hK; have ht := ht.mono hle_; exact FnG.mono (binders_c (t) hA ht (by omega)) fun _ _ _ _ h => h)) <| .cons rfl (ob_move rfl) <| .cons rfl (ob_imgE 46 rfl rfl rfl fun y46 => ob_callE rfl (.cons rfl <| .cons rfl <| .nil) Tryd.call15 (fun w m hK => by have hle_ := KC.le hK; have hA := KC.agree hK; have hr0_ := hK.2; exact in_c (l := bndT t) (s := (letter b ++ [95, 111, 116, 104, 101, 114])) hA hr0_)) <| .cons rfl (ob_or rfl rfl rfl) <| .nil) ?_
    intro a7 w7 m7 hst7 hle7 hk7
    have hfr7 := hk7.fr (T' := [(3, _), (9, _), (10, _), (12, _), (13, _), (49, _)]) (.old rfl rfl <| .old rfl rfl <| .old rfl rfl <| .old rfl rfl <| .old rfl rfl <| .new rfl <| .nil)
    replace ht := ht.mono hle7
    clear hst6 hfr6 hk7
    refine hK15 _ _ ?_; clear hK15
    refine cond_any hfr7 rfl rfl (fun hb49 => ?_) (fun hb49 => ?_)
    · try simp only [nq1, nq2, nq3, nq4, nq5, nq6, nq7, nq8, nq9, u8_eq] at hb49
      refine seq_any fun _ hK16 => ?_
      refine rp0 hst7 hfr7 (.cons rfl (ob_move rfl) <| .cons rfl (ob_assign rfl) <| .nil) ?_
      intro a8 w8 m8 hst8 hle8 hk8
      have hfr8 := hk8.fr (T' := [(8, _)]) (.new rfl <| .nil)
      clear hst7 hfr7 hk8
      refine hK16 _ _ ?_; clear hK16
      refine wp_ret ?_
      repeat (with_reducible first | refine then_ret ?_ | refine block_ret ?_)
      exact fn_ret hst8 hfr8 rfl (.tmp rfl <| .nil) (rfl)
    · try simp only [nq1, nq2, nq3, nq4, nq5, nq6, nq7, nq8, nq9, u8_eq] at hb49
      have hny : ¬ (letter b ++ [95, 111, 116, 104, 101, 114]) ∈ nameT t := hb49.1
      have hby : ¬ (letter b ++ [95, 111, 116, 104, 101, 114]) ∈ bndT t := hb49.2
      have hyl9 : ((letter b ++ [95, 111, 116, 104, 101, 114]) : Str).length ≤ 7 := by simp [letter]
      have htb9 := turn_bulk (letter a) (letter b ++ [95, 111, 116, 104, 101, 114]) hyl9 t
      have hbf1 := bulk_fun (letter a) t
      have hbf2 := bulk_fun (letter b ++ [95, 111, 116, 104, 101, 114]) (turnT (letter a) (letter b ++ [95, 111, 116, 104, 101, 114]) t)
      have hlx9 : (letter a).length = 1 := rfl
      have hlz9 : (letter b).length = 1 := rfl
      have hbv1 := bulk_var (letter a)
      have hbv2 := bulk_var (letter b)
      have hvy : ¬ VarIn (letter b ++ [95, 111, 116, 104, 101, 114]) t := fun h => hrt.elim (fun hr => hny (var_name hr h)) (fun e => by subst e; cases h with | here h _ => cases h | kid h _ => cases h | arm h _ => cases h)
      have hyu : (letter b ++ [95, 111, 116, 104, 101, 114]) ≠ us := fun e => by have := congrArg List.length e; simp [letter, us] at this
      refine wp_skip ?_
      refine hK14 _ _ ?_; clear hK14
      refine seq_any fun _ hK18 => ?_
      refine rp0 hst7 hfr7 (.cons rfl (ob_move rfl) <| .cons rfl (ob_rem rfl rfl (by omega)) <| .cons rfl (ob_addW rfl rfl) <| .cons rfl (ob_buildSlice (.cons rfl <| .nil) Tryd.underlying46 Tryd.sizeOf5 Tryd.zeroValue5 rfl rfl rfl rfl) <| .cons rfl (ob_imgE 54 rfl rfl rfl fun y54 => ob_conv_bs (ns := [_]) rfl Tryd.underlying46 Tryd.underlying5 Tryd.underlying9 (fun w m hK => hK.2)) <| .cons rfl (ob_assign rfl) <| .nil) ?_
      intro a8 w8 m8 hst8 hle8 hk8
      have hfr8 := hk8.fr (T' := [(9, _), (10, _), (12, _), (13, _), (14, _)]) (.old rfl rfl <| .old rfl rfl <| .old rfl rfl <| .old rfl rfl <| .new rfl <| .nil)
      replace ht := ht.mono hle8
      clear hst7 hfr7 hk8
      refine hK18 _ _ ?_; clear hK18
      refine seq_any fun _ hK19 => ?_
      refine region_plain (fun _ => mixed) hst8 hfr8 (by kernel_rfl) (by kernel_rfl) (.cons rfl (ob_move rfl) <| .cons rfl (ob_move rfl) <| .cons rfl (ob_move rfl) <| .cons rfl (ob_loadLA (j := 0) rfl rfl Tryd.isAgg33 Tryd.sizeOf33 rfl) <| .cons rfl (ob_call (φ := MP.tm (funT (letter a) t)) rfl (.cons rfl <| .cons rfl <| .nil) Tryd.call17 (fun w m hK => by have hle_ := KC.le hK; have hA := KC.agree hK; have ht := ht.mono hle_; exact FnG.mono (fun_c (s := (letter a)) (t := t) hA ht) fun _ _ _ _ h => h)) <| .cons rfl (ob_move rfl) <| .cons rfl (ob_loadLA (j := 0) rfl rfl Tryd.isAgg33 Tryd.sizeOf33 rfl) <| .cons rfl (ob_move rfl) <| .cons rfl (ob_move rfl) <| .cons rfl (ob_call (φ := MP.tm (turnT (letter a) (letter b ++ [95, 111, 116, 104, 101, 114]) t)) rfl (.cons rfl <| .cons rfl <| .cons rfl <| .nil) Tryd.call18 (fun w m hK => by have hle_ := KC.le hK; have hA := KC.agree hK; have ht := ht.mono hle_; exact FnG.mono (turned_c t (sx := (letter a)) (sy := (letter b ++ [95, 111, 116, 104, 101, 114])) hA ht (by omega)) fun _ _ _ _ h => h)) <| .cons rfl (ob_imgE 65 rfl rfl rfl fun y65 => ob_call (φ := MP.tm (funT (letter b ++ [95, 111, 116, 104, 101, 114]) (turnT (letter a) (letter b ++ [95, 111, 116, 104, 101, 114]) t))) rfl (.cons rfl <| .cons rfl <| .nil) Tryd.call17 (fun w m hK => by have hle_ := KC.le hK; have hA := KC.agree hK; have hr0_ := hK.2; exact FnG.mono (fun_c (s := (letter b ++ [95, 111, 116, 104, 101, 114])) (t := (turnT (letter a) (letter b ++ [95, 111, 116, 104, 101, 114]) t)) hA hr0_) fun _ _ _ _ h => h)) <| .cons rfl (ob_imgE 60 rfl rfl rfl fun y60 => ob_imgE 66 rfl rfl rfl fun y66 => ob_callE rfl (.cons rfl <| .cons rfl <| .nil) Tryd.call11 (fun w m hK => by have hle_ := KC.le hK; have hA := KC.agree hK; have hr0_ := hK.2; have hr1_ := hK.1.2; exact alikeF_c (a := funT (letter a) t) (b := funT (letter b ++ [95, 111, 116, 104, 101, 114]) (turnT (letter a) (letter b ++ [95, 111, 116, 104, 101, 114]) t)) hA hr1_ hr0_ (by omega) (by omega))) <| .cons rfl (ob_and rfl rfl rfl) <| .cons rfl (ob_move rfl) <| .cons rfl (ob_move rfl) <| .cons rfl (ob_call (φ := MP.tm (varT (letter a))) rfl (.cons rfl <| .nil) Tryd.call19 (fun w m hK => by have hle_ := KC.le hK; have hA := KC.agree hK; exact FnG.mono (v_c (s := (letter a)) hA) fun _ _ _ _ h => h)) <| .cons rfl (ob_move rfl) <| .cons rfl (ob_call (φ := MP.tm (varT (letter b))) rfl (.cons rfl <| .nil) Tryd.call19 (fun w m hK => by have hle_ := KC.le hK; have hA := KC.agree hK; exact FnG.mono (v_c (s := (letter b)) hA) fun _ _ _ _ h => h)) <| .cons rfl (ob_imgE 71 rfl rfl rfl fun y71 => ob_imgE 73 rfl rfl rfl fun y73 => ob_callE rfl (.cons rfl <| .cons rfl <| .nil) Tryd.call11 (fun w m hK => by have hle_ := KC.le hK; have hA := KC.agree hK; have hr0_ := hK.2; have hr1_ := hK.1.2; exact alikeF_c (a := varT (letter a)) (b := varT (letter b)) hA hr1_ hr0_ (by omega) (by omega))) <| .cons rfl (ob_move rfl) <| .cons rfl (ob_move rfl) <| .cons rfl (ob_seql rfl rfl) <| .cons rfl (ob_beql rfl rfl Tryd.underlying4) <| .cons rfl (ob_and rfl rfl rfl) <| .cons rfl (ob_assign rfl) <| .nil) ?_
      intro a9 w9 m9 hst9 hle9 hk9
      have hfr9 := hk9.fr (T' := [(8, _)]) (.new rfl <| .nil)
      clear hst8 hfr8 hk9
      refine hK19 _ _ ?_; clear hK19
      refine wp_ret ?_
      repeat (with_reducible first | refine then_ret ?_ | refine block_ret ?_)
      exact fn_ret hst9 hfr9 rfl (.tmp rfl <| .nil) (by refine congrArg Value.bool ?_; rw [names_law (letter_us a) hyu hst hvy hby, alike_var]; simp [letter])

end Go.Proofs.YteamjgbhcjojaaaDoor
