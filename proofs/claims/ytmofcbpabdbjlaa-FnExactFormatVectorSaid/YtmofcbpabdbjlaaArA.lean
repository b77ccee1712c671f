/-
  What is proved: plain facts on the operations on numbers.
  Condition: items of 64-bit ints.
-/
import Derived.Test.YtmofcbpabdbjlaaGcd
namespace Go.Proofs.Ytmofcbpabdbjlaa
set_option maxRecDepth 8000
open Go.RowKit
set_option linter.unusedVariables false
set_option linter.unusedSimpArgs false

/-- what is known of a number -/
theorem isNumT_bd {n d : Int} {t : ByteArray} (h : isNumT n d t = true) : 1 ≤ d ∧ d ≤ 999999999 ∧ -999999999 ≤ n ∧ n ≤ 999999999 := by
  unfold isNumT Nm.isNum at h
  simp only [Bool.and_eq_true, decide_eq_true_eq] at h
  exact ⟨h.2.1, h.2.2.1, h.2.2.2.1, h.2.2.2.2.1⟩

theorem mul_bd {a b A B : Int} (ha : -A ≤ a ∧ a ≤ A) (hb : -B ≤ b ∧ b ≤ B) : -(A * B) ≤ a * b ∧ a * b ≤ A * B := by
  have h1 : (a * b).natAbs ≤ (A * B).natAbs := by
    rw [Int.natAbs_mul, Int.natAbs_mul]
    exact Nat.mul_le_mul (by omega) (by omega)
  have h2 : 0 ≤ A * B := Int.mul_nonneg (by omega) (by omega)
  omega

theorem mul_bd9 {a b : Int} (ha : -999999999 ≤ a ∧ a ≤ 999999999) (hb : -999999999 ≤ b ∧ b ≤ 999999999) : -999999998000000001 ≤ a * b ∧ a * b ≤ 999999998000000001 := mul_bd ha hb

/-- the value of an operation on two items: the missing one if an operand is no number -/
def op2 (n1 d1 : Int) (t1 : ByteArray) (n2 d2 : Int) (t2 : ByteArray) (r : Int × Int) : Int × Int := if isNumT n1 d1 t1 && isNumT n2 d2 t2 then r else (0, 0)
def addI (n1 d1 : Int) (t1 : ByteArray) (n2 d2 : Int) (t2 : ByteArray) : Int × Int := op2 n1 d1 t1 n2 d2 t2 (Nm.mk (n1 * d2 + n2 * d1) (d1 * d2))
def mulI (n1 d1 : Int) (t1 : ByteArray) (n2 d2 : Int) (t2 : ByteArray) : Int × Int := op2 n1 d1 t1 n2 d2 t2 (Nm.mk (n1 * n2) (d1 * d2))
def divI (n1 d1 : Int) (t1 : ByteArray) (n2 d2 : Int) (t2 : ByteArray) : Int × Int := op2 n1 d1 t1 n2 d2 t2 (Nm.mk (n1 * d2) (d1 * n2))

theorem op2_no1 {n1 d1 : Int} {t1 : ByteArray} {n2 d2 : Int} {t2 : ByteArray} {r : Int × Int} (h : isNumT n1 d1 t1 = false) : op2 n1 d1 t1 n2 d2 t2 r = (0, 0) := by simp [op2, h]
theorem op2_no2 {n1 d1 : Int} {t1 : ByteArray} {n2 d2 : Int} {t2 : ByteArray} {r : Int × Int} (h : isNumT n2 d2 t2 = false) : op2 n1 d1 t1 n2 d2 t2 r = (0, 0) := by simp [op2, h]
theorem op2_yes {n1 d1 : Int} {t1 : ByteArray} {n2 d2 : Int} {t2 : ByteArray} {r : Int × Int} (h : isNumT n1 d1 t1 = true) (h' : isNumT n2 d2 t2 = true) : op2 n1 d1 t1 n2 d2 t2 r = r := by simp [op2, h, h']

end Go.Proofs.Ytmofcbpabdbjlaa
