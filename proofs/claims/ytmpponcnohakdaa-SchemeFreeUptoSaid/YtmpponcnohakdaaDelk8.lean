/-
  slices.DeleteFunc of nothing, the closure of without: walked as the library is. Conditions: those of each theorem.
-/
import Derived.Test.YtmpponcnohakdaaShelf
import Derived.Shelf.SlicesE.DeleteFunc
import Derived.Lib.SliceRun
namespace Go.Proofs.Ytmpponcnohakdaa
set_option linter.all false
set_option maxRecDepth 4000
open Go.Shelf Go.RowKit Go.Lib Go.Sort
theorem del_empty (a : Option Addr) (c : Nat) (fv : Value) (w : World) : Calls Try.prog 37 #[.slice a 0 c, fv] w fun e w' => e = .returned (.slice a 0 c) ∧ w' = w := by
  go_enter Try.func37, Try.ntmps37
  go_wp2_with (go_at_call 52; refine (Try.slices_IndexFunc_empty (α := Int) a c fv _).mono ?_; rintro e w' ⟨rfl, rfl⟩)
  go_ret
  exact ⟨rfl, rfl⟩
theorem without1_run {B : Nat} {sl : Value} {x : Int} {b : Bool} {W : World} (hc : W.cell? ⟨B, 0, none⟩ = some sl) (key : Calls Try.prog 40 #[sl, .int .i64 x] W fun e w' => e = .returned (.bool b) ∧ w' = W) :
    FnGives Try.prog 39 #[.pointer (some ⟨B, 0, none⟩)] #[.int .i64 x] (.bool b) W := by
  show Calls Try.prog 39 #[.int .i64 x, .pointer (some ⟨B, 0, none⟩)] W _
  go_enter Try.func39, Try.ntmps39
  go_wp2_with (go_at_call 40; refine key.mono ?_; rintro e w' ⟨rfl, rfl⟩)
  go_ret
  exact ⟨rfl, 0, rfl⟩

end Go.Proofs.Ytmpponcnohakdaa
