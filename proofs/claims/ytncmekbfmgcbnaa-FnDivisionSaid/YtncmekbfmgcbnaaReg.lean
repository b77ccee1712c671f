/-
  What is proved: nothing; a region of a function is found by its number.
  No condition.
-/
import Derived.Test.YtncmekbfmgcbnaaInst
namespace Go.Proofs.Ytncmekbfmgcbnaa
open Go

/-- a region of a function, by its number -/
def findRegB (n : Nat) : Code → Option Code
  | .region id ops d => if id = n then some (.region id ops d) else none
  | .seq a b => match findRegB n a with
    | some c => some c
    | none => findRegB n b
  | .cond _ a b => match findRegB n a with
    | some c => some c
    | none => findRegB n b
  | .block _ c => findRegB n c
  | .loop c => findRegB n c
  | .scope c => findRegB n c
  | _ => none

end Go.Proofs.Ytncmekbfmgcbnaa
