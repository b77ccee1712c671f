/-
  What is proved: the statement on MakeNumber.
  Condition: the arguments are ints of 64 bits.
-/
import Derived.Test.YtnofigjpcgkogaaMakeS
namespace Go.Proofs.Ytnofigjpcgkogaa
open Go.RowKit
set_option linter.unusedVariables false
set_option linter.unusedSimpArgs false

theorem laws_eqItem (n d : Int) (t : ByteArray) (w : World) : Calls Try.prog 95 #[.agg #[.int .i64 n, .int .i64 d, .string t], .agg #[.int .i64 n, .int .i64 d, .string t]] w fun e w' => e = .returned (.bool true) ∧ Below w.heap.size w w' := by
  go_enter Try.func95, Try.ntmps95
  go_wp2_with fail
  go_ret
  exact ⟨rfl, by go_grown⟩

end Go.Proofs.Ytnofigjpcgkogaa
