/-
  Renaming, the plain laws: free names are rising, and those of terms that are alike are the same. Conditions: those of each theorem.
-/
import Derived.Test.YteamjgbhcjojaaaDoorPure3
namespace Go.Proofs.YteamjgbhcjojaaaDoor
set_option linter.all false
set_option maxRecDepth 4000
open Go.RowKit
theorem bl_irr : ∀ a : Str, Op.bytesLess a a = false
  | [] => rfl
  | x :: a => by rw [Op.bytesLess, bl_irr a]; simp
theorem bl_trans : ∀ a b c : Str, Op.bytesLess a b = true → Op.bytesLess b c = true → Op.bytesLess a c = true
  | _, _, [], _, h => by simp [Op.bytesLess] at h
  | _, [], _ :: _, h, _ => by simp [Op.bytesLess] at h
  | [], _ :: _, _ :: _, _, _ => rfl
  | x :: a, y :: b, z :: c, h1, h2 => by
    simp only [Op.bytesLess, Bool.or_eq_true, Bool.and_eq_true, decide_eq_true_eq, beq_iff_eq] at h1 h2 ⊢
    rcases h1 with h1 | ⟨rfl, h1⟩
    · rcases h2 with h2 | ⟨rfl, h2⟩
      · exact .inl (UInt8.lt_trans h1 h2)
      · exact .inl h1
    · rcases h2 with h2 | ⟨rfl, h2⟩
      · exact .inl h2
      · exact .inr ⟨rfl, bl_trans a b c h1 h2⟩
theorem bl_tri : ∀ a b : Str, Op.bytesLess a b = false → a ≠ b → Op.bytesLess b a = true
  | [], [], _, h => absurd rfl h
  | [], _ :: _, h, _ => by simp [Op.bytesLess] at h
  | _ :: _, [], _, _ => rfl
  | x :: a, y :: b, h, hn => by
    simp only [Op.bytesLess, Bool.or_eq_false_iff, Bool.and_eq_false_iff, decide_eq_false_iff_not] at h
    simp only [Op.bytesLess, Bool.or_eq_true, Bool.and_eq_true, decide_eq_true_eq, beq_iff_eq]
    obtain ⟨h1, h2⟩ := h
    by_cases he : x = y
    · subst he
      refine .inr ⟨rfl, bl_tri a b (h2.resolve_left (by simp)) fun e => hn (by rw [e])⟩
    · refine .inl ?_
      rw [UInt8.lt_iff_toNat_lt] at h1 ⊢
      have : x.toNat ≠ y.toNat := fun e => he (UInt8.toNat_inj.1 e)
      omega
def Srt (l : List Str) : Prop := l.Pairwise fun a b => Op.bytesLess a b = true
theorem insM_mem : ∀ (l : List Str) (s x : Str), x ∈ insM l s ↔ x = s ∨ x ∈ l
  | [], s, x => by simp [insM]
  | y :: l, s, x => by
    rw [insM]
    split
    · rw [List.mem_cons, insM_mem l s x, List.mem_cons]; constructor <;> (intro h; rcases h with h | h | h) <;> simp [h]
    · split
      · rename_i h; subst h; simp
      · simp
theorem insM_srt : ∀ {l : List Str} {s : Str}, Srt l → Srt (insM l s)
  | [], s, _ => by simp [insM, Srt]
  | y :: l, s, h => by
    have h1 := List.pairwise_cons.1 h
    rw [insM]
    split
    · rename_i hlt
      refine List.pairwise_cons.2 ⟨fun x hx => ?_, insM_srt h1.2⟩
      rcases (insM_mem l s x).1 hx with rfl | hx
      · exact hlt
      · exact h1.1 x hx
    · split
      · exact h
      · rename_i hlt hne
        have hsy : Op.bytesLess s y = true := bl_tri y s (by simpa using hlt) hne
        refine List.pairwise_cons.2 ⟨fun x hx => ?_, h⟩
        rcases List.mem_cons.1 hx with rfl | hx
        · exact hsy
        · exact bl_trans _ _ _ hsy (h1.1 x hx)
theorem joinM_srt : ∀ (b : List Str) {a : List Str}, Srt a → Srt (joinM a b)
  | [], _, h => h
  | x :: b, a, h => joinM_srt b (a := insM a x) (insM_srt h)
theorem joinM_mem : ∀ (b a : List Str) (x : Str), x ∈ joinM a b ↔ x ∈ a ∨ x ∈ b
  | [], a, x => by simp [joinM]
  | y :: b, a, x => by
    have := joinM_mem b (insM a y) x
    unfold joinM at *
    rw [List.foldl_cons, this, insM_mem, List.mem_cons]
    constructor <;> intro h
    · rcases h with (h | h) | h <;> simp [h]
    · rcases h with h | h | h <;> simp [h]
theorem srt_ext : ∀ {l k : List Str}, Srt l → Srt k → (∀ x, x ∈ l ↔ x ∈ k) → l = k
  | [], [], _, _, _ => rfl
  | [], y :: k, _, _, h => by have := (h y).2 (.head _); cases this
  | x :: l, [], _, _, h => by have := (h x).1 (.head _); cases this
  | x :: l, y :: k, h1, h2, h => by
    have a1 := List.pairwise_cons.1 h1
    have a2 := List.pairwise_cons.1 h2
    have hxy : x = y := by
      rcases List.mem_cons.1 ((h x).1 (.head _)) with e | e
      · exact e
      · rcases List.mem_cons.1 ((h y).2 (.head _)) with e2 | e2
        · exact e2.symm
        · have := bl_trans _ _ _ (a2.1 x e) (a1.1 y e2); rw [bl_irr] at this; cases this
    subst hxy
    rw [srt_ext a1.2 a2.2 fun z => ?_]
    constructor <;> intro hz
    · rcases List.mem_cons.1 ((h z).1 (.tail _ hz)) with rfl | e
      · have := a1.1 z hz; rw [bl_irr] at this; cases this
      · exact e
    · rcases List.mem_cons.1 ((h z).2 (.tail _ hz)) with rfl | e
      · have := a2.1 z hz; rw [bl_irr] at this; cases this
      · exact e
theorem nameT_srt (t : Tm) : Srt (nameT t) := by
  have hk : ∀ (l : List Tm) (a : List Str), Srt a → Srt (nameKs a l) := by
    intro l
    induction l with
    | nil => intro a h; rw [nameKs]; exact h
    | cons u l ih => intro a h; rw [nameKs]; exact ih _ (joinM_srt _ h)
  have ha : ∀ (l : List Ar) (a : List Str), Srt a → Srt (nameAs a l) := by
    intro l
    induction l with
    | nil => intro a h; rw [nameAs]; exact h
    | cons u l ih => intro a h; rw [nameAs_cons]; exact ih _ (joinM_srt _ h)
  rw [nameT_eq]
  split
  · simp [Srt]
  · exact ha _ _ (hk _ _ List.Pairwise.nil)
theorem uses_name (s : Str) (t : Tm) : 0 < usesM s t → s ∈ nameT t := by
  induction t using Tm.rec_ with
  | h t ihk iha =>
    have hk : ∀ (l : List Tm), (∀ u ∈ l, u ∈ t.kids) → ∀ f i a, (s ∈ a ∨ 0 < usesKs s f i l) → s ∈ nameKs a l := by
      intro l
      induction l with
      | nil => intro _ f i a h; rw [nameKs]; rcases h with h | h; exact h; simp [usesKs] at h
      | cons u l ih =>
        intro hl f i a h
        rw [nameKs]
        refine ih (fun u hu => hl u (.tail _ hu)) f (i + 1) _ ?_
        rcases h with h | h
        · exact .inl ((joinM_mem _ _ _).2 (.inl h))
        · rw [usesKs] at h
          by_cases h0 : 0 < usesKs s f (i + 1) l
          · exact .inr h0
          · refine .inl ((joinM_mem _ _ _).2 (.inr (ihk u (hl u (.head _)) ?_)))
            split at h <;> omega
    have ha : ∀ (l : List Ar), (∀ u ∈ l, u ∈ t.arms) → ∀ a, (s ∈ a ∨ 0 < usesAs s l) → s ∈ nameAs a l := by
      intro l
      induction l with
      | nil => intro _ a h; rw [nameAs]; rcases h with h | h; exact h; simp [usesAs] at h
      | cons u l ih =>
        intro hl a h
        rw [nameAs_cons]
        refine ih (fun u hu => hl u (.tail _ hu)) _ ?_
        rcases h with h | h
        · exact .inl ((joinM_mem _ _ _).2 (.inl h))
        · rw [usesAs_cons] at h
          by_cases h0 : 0 < usesAs s l
          · exact .inr h0
          · refine .inl ((joinM_mem _ _ _).2 (.inr (iha u (hl u (.head _)) ?_)))
            split at h <;> omega
    rw [usesM_eq, nameT_eq]
    split
    · split
      · rename_i h; intro _; simp [h]
      · intro h; exact absurd h (Nat.lt_irrefl 0)
    · intro h
      by_cases h0 : 0 < usesAs s t.arms
      · exact ha _ (fun _ h => h) _ (.inr h0)
      · exact ha _ (fun _ h => h) _ (.inl (hk _ (fun _ h => h) (boundR t.kind t.name t.param) 0 _ (.inr (by omega))))
theorem freeT_mem (t : Tm) (s : Str) : s ∈ freeT t ↔ 0 < usesM s t := by
  unfold freeT
  rw [List.mem_filter]
  constructor
  · rintro ⟨_, h⟩; simpa using h
  · intro h; exact ⟨uses_name s t h, by simpa using h⟩
theorem freeT_srt (t : Tm) : Srt (freeT t) := List.Pairwise.filter _ (nameT_srt t)
/-- Terms that are alike have the same free names. -/
theorem free_alike {a b : Tm} (ha : ShT a) (hb : ShT b) (h : skT a [] = skT b []) : freeT a = freeT b :=
  srt_ext (freeT_srt a) (freeT_srt b) fun s => by rw [freeT_mem, freeT_mem, uses_alike ha hb h s]

end Go.Proofs.YteamjgbhcjojaaaDoor
