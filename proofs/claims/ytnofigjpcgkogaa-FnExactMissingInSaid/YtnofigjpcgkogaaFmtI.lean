/-
  What is proved: FormatInt of the program returns the decimal text of every int, as the reference does; the statement on it.
  Condition: the argument is an int of 64 bits.
-/
import Derived.Test.YtnofigjpcgkogaaFmt
import Derived.Test.YtnofigjpcgkogaaBytes
import Derived.WalkSmall
namespace Go.Proofs.Ytnofigjpcgkogaa
open Go.RowKit
set_option linter.unusedVariables false
set_option linter.unusedSimpArgs false

theorem dch_nat {d : Nat} (h : d < 10) : ((dch d).toNat : Int) = 48 + (d : Int) := by
  unfold dch
  rw [UInt8.toNat_ofNat_of_lt' (by simp [UInt8.size]; omega)]
  omega

theorem step_digits {n a : Nat} {D : List UInt8} (ha : 0 < a) (h : dig a ++ D.reverse = dig n) : dig (a / 10) ++ (D ++ [dch (a % 10)]).reverse = dig n := by
  rw [← h, dig_pos ha]
  simp

theorem dig_le : ∀ (k n : Nat), n < 10 ^ k → (dig n).length ≤ k
  | 0, n, h => by
    have : n = 0 := by simpa using h
    subst this; rw [dig_zero]; simp
  | k + 1, n, h => by
    by_cases h0 : n = 0
    · subst h0; rw [dig_zero]; simp
    · rw [dig_pos (by omega), List.length_append]
      have := dig_le k (n / 10) (by rw [Nat.pow_succ] at h; omega)
      simp; omega

theorem digits_len {n a : Nat} {D : List UInt8} (hn : n ≤ 9223372036854775808) (ha : 0 < a) (h : dig a ++ D.reverse = dig n) : D.length ≤ 19 := by
  have h1 := dig_le 20 n (by omega)
  have h2 := dig_ne ha
  have h3 : (dig a ++ D.reverse).length = (dig n).length := by rw [h]
  simp only [List.length_append, List.length_reverse] at h3
  omega

theorem fmt_zero : fmtI 0 = [48] := rfl
theorem fmt_pos {n : Nat} (h : 0 < n) : fmtI (n : Int) = dig n := by
  unfold fmtI
  rw [if_neg (by omega), if_neg (by omega)]
  rfl
theorem fmt_neg {n : Nat} (h : 0 < n) : fmtI (-(n : Int)) = 45 :: dig n := by
  unfold fmtI
  rw [if_neg (by omega), if_pos (by omega)]
  simp

theorem int_cases (n : Int) (h1 : -9223372036854775808 ≤ n) (h2 : n ≤ 9223372036854775807) :
    n = 0 ∨ (∃ m : Nat, n = (m : Int) ∧ 0 < m ∧ m ≤ 9223372036854775807) ∨ (∃ m : Nat, n = -(m : Int) ∧ 0 < m ∧ m ≤ 9223372036854775808) := by
  rcases Int.lt_trichotomy n 0 with h | h | h
  · exact .inr (.inr ⟨n.natAbs, by omega, by omega, by omega⟩)
  · exact .inl h
  · exact .inr (.inl ⟨n.natAbs, by omega, by omega, by omega⟩)

end Go.Proofs.Ytnofigjpcgkogaa
