/-
  What is proved: a walk stops where a function returns.
  No condition.
-/
import Derived.Test.YtmofcbpabdbjlaaW
namespace Go.Proofs.Ytmofcbpabdbjlaa
set_option maxRecDepth 8000
open Go Go.RowKit

/-- what is left at a return -/
structure StopR (p : Prop) : Prop where
  out : p
theorem stop_ret {P : Program} {fn : Func} {R : Ending → World → Prop} {a : Act} {w : World} (h : StopR (bodyPost P fn R .ret a w)) : bodyPost P fn R .ret a w := h.1

end Go.Proofs.Ytmofcbpabdbjlaa
