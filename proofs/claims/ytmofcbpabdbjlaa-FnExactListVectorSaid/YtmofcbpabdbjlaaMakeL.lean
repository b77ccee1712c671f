/-
  What is proved: the statement on MakeNumber.
  Condition: the arguments are ints of 64 bits.
-/
import Derived.Test.YtmofcbpabdbjlaaMakeS
namespace Go.Proofs.Ytmofcbpabdbjlaa
set_option maxRecDepth 8000
open Go.RowKit
set_option linter.unusedVariables false
set_option linter.unusedSimpArgs false

theorem laws_eqItem (n d : Int) (t : ByteArray) (w : World) : Calls Try.prog 142 #[.agg #[.int .i64 n, .int .i64 d, .string t], .agg #[.int .i64 n, .int .i64 d, .string t]] w fun e w' => e = .returned (.bool true) ∧ Below w.heap.size w w' := by
  go_enter Try.func142, Try.ntmps142
  go_wp2_with fail
  go_ret
  exact ⟨rfl, by go_grown⟩

end Go.Proofs.Ytmofcbpabdbjlaa
