/-
  What is proved: the ways in which two results agree.
  Condition: none.
-/
import Derived.Test.YtncmekbfmgcbnaaReg
import Derived.Test.YtncmekbfmgcbnaaJ
import Derived.Deep.Cut
namespace Go.Proofs.Ytncmekbfmgcbnaa
open Go.RowKit Go.ChangeShapes Go.WideShapes Go.Deep
set_option linter.unusedVariables false
set_option linter.unusedSimpArgs false

/-- the ways in which two results agree -/
def Agree (a1 a2 b1 b2 : Int) : Prop := a2 = 0 ∨ ((a2 == 0) = false ∧ b2 = 0) ∨ ((a2 == 0) = false ∧ a1 = b1 ∧ a2 = b2)
theorem agree_of {a1 a2 b1 b2 : Int} (h : a2 = 0 ∨ b2 = 0 ∨ (a1 = b1 ∧ a2 = b2)) : Agree a1 a2 b1 b2 := by
  unfold Agree
  by_cases h1 : a2 = 0
  · exact .inl h1
  · have e : (a2 == 0) = false := by simp [h1]
    rcases h with h | h | h
    · exact absurd h h1
    · exact .inr (.inl ⟨e, h⟩)
    · exact .inr (.inr ⟨e, h⟩)
def Back (a1 a2 : Int) (at_ : ByteArray) (x1 x2 : Int) (xt : ByteArray) : Prop := a2 = 0 ∨ ((a2 == 0) = false ∧ a1 = x1 ∧ a2 = x2 ∧ at_ = xt)
theorem back_of {a1 a2 x1 x2 : Int} {xt : ByteArray} (h : a2 = 0 ∨ ((a1 = x1 ∧ a2 = x2) ∧ xt = ⟨#[]⟩)) : Back a1 a2 ⟨#[]⟩ x1 x2 xt := by
  unfold Back
  by_cases h1 : a2 = 0
  · exact .inl h1
  · rcases h with h | ⟨⟨h2, h3⟩, h4⟩
    · exact absurd h h1
    · exact .inr ⟨by simp [h1], h2, h3, h4.symm⟩

end Go.Proofs.Ytncmekbfmgcbnaa
