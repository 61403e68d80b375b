/-
  More operations: bits, negation. Conditions: those of each lemma; no program occurs here.
-/
import Derived.Test.YtibkcojlgbmlhaaLoop
namespace Go.Proofs.Ytibkcojlgbmlhaa
open Go.RowKit
section
variable {P : Program} {K : World → Mem → Prop} {m0 : Mem} {L : List Res} {us : List Nat} {ch : List (Nat × Bool)} {pre : List Ent} {T : List (Nat × Value)} {dst : Option Nat} {ty : TypeId} {pos : String} {af : Array Edge} {gd : Option (Nat × Bool)}
/-- What is and'ed with a mask that is no negative number. -/
def band (a b : Int) : Int := IntKind.i64.wrap ((BitVec.ofInt 64 a &&& BitVec.ofInt 64 b).toNat : Int)
theorem band_le (a : Int) (b : Nat) (hb : b < 9223372036854775808) : 0 ≤ band a b ∧ band a b ≤ b := by
  have h1 : (BitVec.ofInt 64 a &&& BitVec.ofInt 64 (b : Int)).toNat ≤ b := by
    rw [BitVec.toNat_and]
    have h2 : (BitVec.ofInt 64 (b : Int)).toNat = b := by
      rw [BitVec.toNat_ofInt]; omega
    rw [h2]; exact Nat.and_le_right
  have h3 : band a b = ((BitVec.ofInt 64 a &&& BitVec.ofInt 64 (b : Int)).toNat : Int) := wrap_in ⟨by omega, by omega⟩
  rw [h3]; exact ⟨by omega, by omega⟩
theorem ob_band [KC K m0 L] {t yt : TypeId} {x y : Operand} {a b : Int} (hx : ev us ch pre T x = some (.int .i64 a)) (hy : ev us ch pre T y = some (.int .i64 b)) :
    Ob P K us ch pre T ⟨dst, .binOp .and t x y yt, ty, pos, af, gd⟩ (.eq (.int .i64 (band a b))) := ob_bin hx hy fun w => by
  simp only [eqGuard, binOp]; rfl
theorem ob_neg [KC K m0 L] {t : TypeId} {x : Operand} {a : Int} (hx : ev us ch pre T x = some (.int .i64 a)) (h : InI64 (-a)) : Ob P K us ch pre T ⟨dst, .unOp .neg t x, ty, pos, af, gd⟩ (.eq (.int .i64 (-a))) :=
  ob_val fun σ w m _ hn => by
    have e : IntKind.i64.wrap (0 - a) = -a := by rw [Int.zero_sub]; exact wrap_in h
    simp only [execOp, hn.ev hx, unary_neg, Op.intArith, e]; rfl
end
end Go.Proofs.Ytibkcojlgbmlhaa
