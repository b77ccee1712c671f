/-
  What is proved: a difference turned round.
  Condition: none.
-/
import Derived.Test.YtncmekbfmgcbnaaRvA
import Derived.Test.YtncmekbfmgcbnaaTwoR
namespace Go.Proofs.Ytncmekbfmgcbnaa
open Nm
set_option linter.unusedVariables false
set_option linter.unusedSimpArgs false

theorem sub_negI (n1 d1 : Int) (t1 : ByteArray) (n2 d2 : Int) (t2 : ByteArray) : negI (subI n2 d2 t2 n1 d1 t1).1 (subI n2 d2 t2 n1 d1 t1).2 ⟨#[]⟩ = subI n1 d1 t1 n2 d2 t2 := by
  cases h1 : isNumT n1 d1 t1
  · have e1 : subI n1 d1 t1 n2 d2 t2 = (0, 0) := by unfold subI addI; exact op2_no1 h1
    have e2 : subI n2 d2 t2 n1 d1 t1 = (0, 0) := by
      unfold subI addI
      rw [show negI n1 d1 t1 = (0, 0) from op1_no h1]
      exact op2_no2 isNumT_zero
    rw [e1, e2]; exact neg_zero
  · cases h2 : isNumT n2 d2 t2
    · have e1 : subI n1 d1 t1 n2 d2 t2 = (0, 0) := by
        unfold subI addI
        rw [show negI n2 d2 t2 = (0, 0) from op1_no h2]
        exact op2_no2 isNumT_zero
      have e2 : subI n2 d2 t2 n1 d1 t1 = (0, 0) := by unfold subI addI; exact op2_no1 h2
      rw [e1, e2]; exact neg_zero
    · have e1 : subI n1 d1 t1 n2 d2 t2 = Nm.mk (n1 * d2 + (-n2) * d1) (d1 * d2) := by
        unfold subI addI
        rw [show negI n2 d2 t2 = (-n2, d2) from op1_yes h2]
        exact op2_yes h1 (isNumT_neg h2)
      have e2 : subI n2 d2 t2 n1 d1 t1 = Nm.mk (n2 * d1 + (-n1) * d2) (d2 * d1) := by
        unfold subI addI
        rw [show negI n1 d1 t1 = (-n1, d1) from op1_yes h1]
        exact op2_yes h2 (isNumT_neg h1)
      have e3 : n1 * d2 + (-n2) * d1 = -(n2 * d1 + (-n1) * d2) := by grind
      rw [e1, e3, Int.mul_comm d1 d2, mk_neg, ← e2]
      by_cases h0 : (subI n2 d2 t2 n1 d1 t1).2 = 0
      · rw [e2] at h0 ⊢
        rw [mk_zero h0]
        exact neg_zero
      · rw [e2] at h0 ⊢
        exact op1_yes (isNumT_mk (mk_ok h0).2.1)

end Go.Proofs.Ytncmekbfmgcbnaa
