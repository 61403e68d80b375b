/-
  'brocadelaw05': plain laws of what is said. Conditions: those of each theorem.
-/
import Derived.Test.YtfphefkfbhjfdaaShown5
namespace Go.Proofs.Ytfphefkfbhjfdaa
set_option linter.all false
set_option maxRecDepth 4000
open Go.RowKit
theorem alook_aset {α : Type} (k n : Int) (x : α) : ∀ l : List (Int × α), alook k (aset n x l) = if k = n then some x else alook k l
  | [] => by simp [aset, alook]
  | (a, u) :: l => by
    simp only [aset]
    by_cases h : n = a
    · subst h; rw [if_pos rfl]; simp only [alook]; by_cases hk : k = n <;> simp [hk]
    · rw [if_neg h]; simp only [alook, alook_aset k n x l]
      by_cases hk : k = a
      · subst hk; rw [if_pos rfl, if_pos rfl, if_neg (fun e => h e.symm)]
      · rw [if_neg hk, if_neg hk]
theorem alook_same {α : Type} (n : Int) (x : α) (l : List (Int × α)) : alook n (aset n x l) = some x := by rw [alook_aset, if_pos rfl]
theorem alook_other {α : Type} {k n : Int} (x : α) (l : List (Int × α)) (h : ¬ n = k) : alook k (aset n x l) = alook k l := by rw [alook_aset, if_neg (fun e => h e.symm)]
theorem SubW.setT {B R : Nat} {s : Sub} (h : SubW B R s) (n : Int) {t : Ty} (ht : wdT t ≤ B) : SubW B R ⟨aset n t s.ts, s.rs⟩ := ⟨fun k u hu => by
  dsimp only at hu; rw [alook_aset] at hu; split at hu
  · injection hu with hu; subst hu; exact ht
  · exact h.1 k u hu, h.2⟩
theorem SubW.setR {B R : Nat} {s : Sub} (h : SubW B R s) (n : Int) {r : Rw} (hr : r.labels.length ≤ R) : SubW B R ⟨s.ts, aset n r s.rs⟩ := ⟨h.1, fun k u hu => by
  dsimp only at hu; rw [alook_aset] at hu; split at hu
  · injection hu with hu; subst hu; exact hr
  · exact h.2 k u hu⟩
theorem cutS_len (r : Rw) (k : Nat) : (cutS r k).labels.length ≤ k := by unfold cutS; simp; omega
theorem saidS_w {B R : Nat} (hB : 10 ≤ R) {l : List Say} (h : ∀ x ∈ l, wdT x.ty ≤ B) : SubW B R (saidS l) := by
  have key : ∀ (l : List Say) (s : Sub), (∀ x ∈ l, wdT x.ty ≤ B) → SubW B R s → SubW B R (l.foldl sayS s) := by
    intro l
    induction l with
    | nil => intro s _ hs; exact hs
    | cons x l ih =>
      intro s hl hs
      rw [List.foldl_cons]
      refine ih _ (fun y hy => hl y (.tail _ hy)) ?_
      unfold sayS
      split
      · exact hs.setR _ (Nat.le_trans (cutS_len _ _) hB)
      · split
        · exact hs.setT _ (hl x (.head _))
        · exact hs
  exact key _ _ (fun x hx => h x (List.mem_of_mem_take hx)) ⟨fun n t h => (by cases h), fun n r h => (by cases h)⟩
theorem sameT_refl (t : Ty) : sameT t t = true := (sameT_iff t t).2 rfl
theorem type_x {w : World} {m : Mem} {s : Sub} {n : Int} {q : QQ} {x : Ty} {b : Bool} (hA : Agree w m) (hS : SubR m s (subV q)) (hx : x = (alook n s.ts).getD zeroTy) (hb : b = (alook n s.ts).isSome) (hw : SubW 17592186044416 8796093022208 s) :
    FnV Try.prog 12 #[.agg (subV q).toArray, .int .i64 n] w m fun _ m v => (MP.tyb x b).p m v := by subst hx; subst hb; exact type_c hA hS (fun t h => hw.1 _ _ h)
theorem row_x {w : World} {m : Mem} {s : Sub} {n : Int} {q : QQ} {x : Rw} {b : Bool} (hA : Agree w m) (hS : SubR m s (subV q)) (hx : x = (alook n s.rs).getD zeroRw) (hb : b = (alook n s.rs).isSome) (hw : SubW 17592186044416 8796093022208 s) :
    FnV Try.prog 13 #[.agg (subV q).toArray, .int .i64 n] w m fun _ m v => (MP.rwb x b).p m v := by subst hx; subst hb; exact row_c hA hS (fun t h => hw.2 _ _ h)

end Go.Proofs.Ytfphefkfbhjfdaa
