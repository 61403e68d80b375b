/-
  More operations: bits, negation. Conditions: those of each lemma; no program occurs here.
-/
import Derived.Test.YtineijefefjpeaaDoorLoop
import Derived.Laws.BytesString
namespace Go.Proofs.YtineijefefjpeaaDoor
set_option linter.all false
open Go.RowKit
section
variable {P : Program} {K : World → Mem → Prop} {m0 : Mem} {L : List Res} {us : List Nat} {ch : List (Nat × Bool)} {pre : List Ent} {T : List (Nat × Value)} {dst : Option Nat} {ty : TypeId} {pos : String} {af : Array Edge} {gd : Option (Nat × Bool)}
/-- What is and'ed with a mask that is no negative number. -/
def band (a b : Int) : Int := IntKind.i64.wrap ((BitVec.ofInt 64 a &&& BitVec.ofInt 64 b).toNat : Int)
theorem band_le (a : Int) (b : Nat) (hb : b < 9223372036854775808) : 0 ≤ band a b ∧ band a b ≤ b := by
  have h1 : (BitVec.ofInt 64 a &&& BitVec.ofInt 64 (b : Int)).toNat ≤ b := by
    rw [BitVec.toNat_and]
    have h2 : (BitVec.ofInt 64 (b : Int)).toNat = b := by
      rw [BitVec.toNat_ofInt]; omega
    rw [h2]; exact Nat.and_le_right
  have h3 : band a b = ((BitVec.ofInt 64 a &&& BitVec.ofInt 64 (b : Int)).toNat : Int) := wrap_in ⟨by omega, by omega⟩
  rw [h3]; exact ⟨by omega, by omega⟩
theorem ob_band [KC K m0 L] {t yt : TypeId} {x y : Operand} {a b : Int} (hx : ev us ch pre T x = some (.int .i64 a)) (hy : ev us ch pre T y = some (.int .i64 b)) :
    Ob P K us ch pre T ⟨dst, .binOp .and t x y yt, ty, pos, af, gd⟩ (.eq (.int .i64 (band a b))) := ob_bin hx hy fun w => by
  simp only [eqGuard, binOp]; rfl
theorem ob_neg [KC K m0 L] {t : TypeId} {x : Operand} {a : Int} (hx : ev us ch pre T x = some (.int .i64 a)) (h : InI64 (-a)) : Ob P K us ch pre T ⟨dst, .unOp .neg t x, ty, pos, af, gd⟩ (.eq (.int .i64 (-a))) :=
  ob_val fun σ w m _ hn => by
    have e : IntKind.i64.wrap (0 - a) = -a := by rw [Int.zero_sub]; exact wrap_in h
    simp only [execOp, hn.ev hx, unary_neg, Op.intArith, e]; rfl
/-- A byte of a string. -/
theorem ob_sindex [KC K m0 L] {t : TypeId} {x y : Operand} {s : Str} {ik : IntKind} {i : Int} {k : Nat} {b : UInt8} (hx : ev us ch pre T x = some (S s)) (hy : ev us ch pre T y = some (.int ik i)) (ht : P.underlying t = some .string) (hi : i = (k : Int)) (hb : s[k]? = some b) :
    Ob P K us ch pre T ⟨dst, .index t x y, ty, pos, af, gd⟩ (.eq (.int .u8 (b.toNat : Int))) :=
  ob_val fun σ w m _ hn => by
    subst hi
    have hlt : k < s.length := (List.getElem?_eq_some_iff.1 hb).1
    have h1 : (⟨s.toArray⟩ : ByteArray)[k]? = some b := by
      have hsz : k < (⟨s.toArray⟩ : ByteArray).size := by rw [S_size]; exact hlt
      have h2 := (List.getElem?_eq_some_iff.1 hb).2
      rw [getElem?_pos (⟨s.toArray⟩ : ByteArray) k hsz]
      simpa [ByteArray.getElem_eq_getElem_data] using h2
    simp [execOp, hn.ev hx, hn.ev hy, Instr.index, asIntOf, run_underlying ht, h1]
/-- A number of another kind. -/
theorem ob_conv_int [KC K m0 L] {t u : TypeId} {x : Operand} {k k' k2 : IntKind} {n : Int} (hx : ev us ch pre T x = some (.int k2 n)) (ht : P.underlying t = some (.int k)) (hu : P.underlying u = some (.int k')) :
    Ob P K us ch pre T ⟨dst, .convert t u x, ty, pos, af, gd⟩ (.eq (.int k' (k'.wrap n))) :=
  ob_val fun σ w m _ hn => by simp [execOp, hn.ev hx, convert, run_underlying ht, run_underlying hu, Conv.intToInt]
/-- Bytes made a string. -/
theorem ob_conv_bs [hK : KC K m0 L] {t u e : TypeId} {x : Operand} {p : Addr} {c : Nat} {ns : List Int} (hx : ev us ch pre T x = some (.slice (some p) ns.length c)) (ht : P.underlying t = some (.slice e)) (he : P.underlying e = some (.int .u8)) (hu : P.underlying u = some .string)
    (hc : ∀ w m, K w m → CellsAt m p (ns.map (Value.int .u8))) :
    Ob P K us ch pre T ⟨dst, .convert t u x, ty, pos, af, gd⟩ (.eq (S (ns.map fun n => UInt8.ofNat n.toNat))) :=
  ob_val fun σ w m hk hn => by
    have hl := loadCells_run (P := P) (w := w) (a := p) (vs := ns.map (Value.int .u8)) fun j v e => cell_of_cells (hK.agree hk) (hc w m hk) e
    rw [List.length_map] at hl
    have h2 := run_bytesToString w p ns.length c ns hl
    have key : ∀ (l : List Int) (r : ByteArray), l.foldl (fun r n => r.push (UInt8.ofNat n.toNat)) r = ⟨r.data ++ (l.map fun n => UInt8.ofNat n.toNat).toArray⟩ := by
      intro l
      induction l with
      | nil => intro r; simp
      | cons n l ih => intro r; rw [List.foldl_cons, ih]; simp [ByteArray.push]
    rw [key] at h2
    simp only [execOp, hn.ev hx]
    rw [Sem.run_bind, run_convert_bytes_string w t u e (some p) ns.length c ht he hu, h2]
    simp [S]
theorem ob_pickTF [hK : KC K m0 L] {sc : Nat} {x : Bool} (hc : evT us ch pre T sc = some (.bool x)) :
    Ob P K us ch pre T ⟨dst, .pick (.tmp sc) (.const (.bool true)) (.const (.bool false)), ty, pos, af, gd⟩ (.eq (.bool x)) :=
  ob_val fun σ w m _ hn => by
    have h1 := hn.evT hc
    cases x <;> simp [execOp, evalO, h1, asBool]
/-- A piece of a string. -/
theorem ob_sslice [KC K m0 L] {t : TypeId} {x : Operand} {lo hi : Option Operand} {s : Str} {l h : Nat} (hx : ev us ch pre T x = some (S s)) (hlo : Bnd us ch pre T lo 0 l) (hhi : Bnd us ch pre T hi s.length h)
    (ht : P.underlying t = some .string) (h1 : l ≤ h) (h2 : h ≤ s.length) :
    Ob P K us ch pre T ⟨dst, .slice t x lo hi none, ty, pos, af, gd⟩ (.eq (S ((s.take h).drop l))) :=
  ob_val fun σ w m _ hn => by
    have hb : ∀ (i y : Nat) (ik : IntKind) (cd : BoundsCode), i ≤ y → (Instr.sliceBound (.int ik (i : Int)) y cd).run P w = .ok i w := fun i y ik cd hh => by
      simp [Instr.sliceBound, asIntOf, hh]
    have he : ∀ l h : Nat, (⟨s.toArray⟩ : ByteArray).extract l h = ⟨((s.take h).drop l).toArray⟩ := fun l h => by
      apply ByteArray.ext
      rw [ByteArray.data_extract]
      apply Array.ext'
      simp [List.drop_take, List.extract_eq_take_drop]
    have h2' : h ≤ (⟨s.toArray⟩ : ByteArray).size := by rw [S_size]; exact h2
    cases hlo with
    | none => cases hhi with
      | none => simp [execOp, hn.ev hx, Instr.sliceAt, Instr.slice, run_underlying ht, Instr.sliceBounds, he, S_size]
      | some g2 e2 => subst e2; simp [execOp, hn.ev hx, hn.ev g2, Instr.sliceAt, Instr.slice, run_underlying ht, Instr.sliceBounds, hb _ _ _ _ h2, he, S_size]
    | some g1 e1 => cases hhi with
      | none => subst e1; simp [execOp, hn.ev hx, hn.ev g1, Instr.sliceAt, Instr.slice, run_underlying ht, Instr.sliceBounds, S_size, hb _ _ _ _ h1, he]
      | some g2 e2 => subst e1; subst e2; simp [execOp, hn.ev hx, hn.ev g1, hn.ev g2, Instr.sliceAt, Instr.slice, run_underlying ht, Instr.sliceBounds, hb _ _ _ _ h2, hb _ _ _ _ h1, he, S_size]
theorem u8_eq {a b : UInt8} : ((a.toNat : Int) = (b.toNat : Int)) ↔ a = b := ⟨fun h => UInt8.toNat_inj.1 (by omega), fun h => by rw [h]⟩
theorem nth_str {s : Str} {k : Nat} (h : k < s.length) : ∃ b, s[k]? = some b ∧ s.drop k = b :: s.drop (k + 1) := ⟨s[k], List.getElem?_eq_getElem h, List.drop_eq_getElem_cons h⟩
theorem Strs.of_row {m : Mem} {o : Option Addr} {n cap : Nat} {xs : List Str} (hr : RowAt m o (xs.map S)) (hn : xs.length = n) (hc : n ≤ cap) (hb : n ≤ 9223372036854775807) : Strs m o n cap xs :=
  Sl.of_row (f := fun x => [S x]) (by rw [List.map_eq_flatMap] at hr; exact hr) hn hc hb (by omega) fun _ _ => ⟨rfl, rfl⟩
end
end Go.Proofs.YtineijefefjpeaaDoor
