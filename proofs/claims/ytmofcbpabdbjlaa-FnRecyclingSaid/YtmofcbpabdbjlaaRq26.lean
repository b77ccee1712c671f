/-
  What is proved: what the functions on numbers (negate, add, subtract, multiply, divide, floor, round, compare, quotient, remainder, of the program and of the reference) return.
  Condition: items of 64-bit ints.
-/
import Derived.Test.YtmofcbpabdbjlaaRq24
import Derived.Test.YtmofcbpabdbjlaaRq25
namespace Go.Proofs.Ytmofcbpabdbjlaa

set_option maxRecDepth 8000

open Go.RowKit

set_option linter.unusedVariables false

set_option linter.unusedSimpArgs false

/-- the value of an operation on one item -/
def op1 (n d : Int) (t : ByteArray) (r : Int × Int) : Int × Int := if zax n d t then r else (0, 0)

def negI (n d : Int) (t : ByteArray) : Int × Int := op1 n d t (-n, d)

theorem op1_no {n d : Int} {t : ByteArray} {r : Int × Int} (h : zax n d t = false) : op1 n d t r = (0, 0) := by simp [op1, h]

theorem op1_yes {n d : Int} {t : ByteArray} {r : Int × Int} (h : zax n d t = true) : op1 n d t r = r := by simp [op1, h]

theorem impl_neg (n1 d1 : Int) (t1 : ByteArray) (w : World) :
    Calls Try.prog 206 #[.agg #[.int .i64 n1, .int .i64 d1, .string t1]] w fun e w' =>
      e = .returned (.agg #[.int .i64 (negI n1 d1 t1).1, .int .i64 (negI n1 d1 t1).2, .string ⟨#[]⟩]) ∧ Below w.heap.size w w' := by
  cases h1 : zax n1 d1 t1
  · have HM := Lib.hid (show negI n1 d1 t1 = (0, 0) from op1_no h1)
    go_enter Try.func206, Try.ntmps206
    go_wp2_with fail
    refine (zao n1 d1 t1 _).mono ?_
    rintro e w1 ⟨rfl, hb1⟩
    obtain ⟨hc1, hf1⟩ := bcell hb1
    have B1 : Below w.heap.size w w1 := zap (by go_grown) (Nat.le_refl _) hb1
    have z1 : w.heap.size ≤ w1.heap.size := B1.size
    have y1_0 : w.heap.size < w1.heap.size := by have := hb1.size; (try simp at this); omega
    have y1_1 : w.heap.size + 1 < w1.heap.size := by have := hb1.size; (try simp at this); omega
    have k1_0_0 : w1.cell? ⟨w.heap.size, 0, none⟩ = some (.int .i64 n1) := by rw [hc1 _ _ (by (try simp); (try omega))]; go_simp
    have k1_0_1 : w1.cell? ⟨w.heap.size, 1, none⟩ = some (.int .i64 d1) := by rw [hc1 _ _ (by (try simp); (try omega))]; go_simp
    have k1_0_2 : w1.cell? ⟨w.heap.size, 2, none⟩ = some (.string t1) := by rw [hc1 _ _ (by (try simp); (try omega))]; go_simp
    have k1_1_0 : w1.cell? ⟨w.heap.size + 1, 0, none⟩ = some (.int .i64 0) := by rw [hc1 _ _ (by (try simp); (try omega))]; go_simp
    have k1_1_1 : w1.cell? ⟨w.heap.size + 1, 1, none⟩ = some (.int .i64 0) := by rw [hc1 _ _ (by (try simp); (try omega))]; go_simp
    have k1_1_2 : w1.cell? ⟨w.heap.size + 1, 2, none⟩ = some (.string ⟨#[]⟩) := by rw [hc1 _ _ (by (try simp); (try omega))]; go_simp
    clear hc1
    go_wp2_with fail
    exact bodyPost_ret (v := .agg #[.int .i64 0, .int .i64 0, .string ⟨#[]⟩]) (by simp [results, Try.results206, go_sem, *]) rfl ⟨zau HM.out, by go_grown⟩
  · have HM := Lib.hid (show negI n1 d1 t1 = _ from op1_yes h1)
    obtain ⟨a1, a2, a3, a4⟩ := zaz h1
    go_enter Try.func206, Try.ntmps206
    go_wp2_with fail
    refine (zao n1 d1 t1 _).mono ?_
    rintro e w1 ⟨rfl, hb1⟩
    obtain ⟨hc1, hf1⟩ := bcell hb1
    have B1 : Below w.heap.size w w1 := zap (by go_grown) (Nat.le_refl _) hb1
    have z1 : w.heap.size ≤ w1.heap.size := B1.size
    have y1_0 : w.heap.size < w1.heap.size := by have := hb1.size; (try simp at this); omega
    have y1_1 : w.heap.size + 1 < w1.heap.size := by have := hb1.size; (try simp at this); omega
    have k1_0_0 : w1.cell? ⟨w.heap.size, 0, none⟩ = some (.int .i64 n1) := by rw [hc1 _ _ (by (try simp); (try omega))]; go_simp
    have k1_0_1 : w1.cell? ⟨w.heap.size, 1, none⟩ = some (.int .i64 d1) := by rw [hc1 _ _ (by (try simp); (try omega))]; go_simp
    have k1_0_2 : w1.cell? ⟨w.heap.size, 2, none⟩ = some (.string t1) := by rw [hc1 _ _ (by (try simp); (try omega))]; go_simp
    have k1_1_0 : w1.cell? ⟨w.heap.size + 1, 0, none⟩ = some (.int .i64 0) := by rw [hc1 _ _ (by (try simp); (try omega))]; go_simp
    have k1_1_1 : w1.cell? ⟨w.heap.size + 1, 1, none⟩ = some (.int .i64 0) := by rw [hc1 _ _ (by (try simp); (try omega))]; go_simp
    have k1_1_2 : w1.cell? ⟨w.heap.size + 1, 2, none⟩ = some (.string ⟨#[]⟩) := by rw [hc1 _ _ (by (try simp); (try omega))]; go_simp
    clear hc1
    go_wp2_with fail
    exact bodyPost_ret (v := .agg #[.int .i64 (-n1), .int .i64 d1, .string ⟨#[]⟩]) (by simp [results, Try.results206, go_sem, *]) rfl ⟨zau HM.out, by go_grown⟩

theorem spec_neg (n1 d1 : Int) (t1 : ByteArray) (w : World) :
    Calls Try.prog 203 #[.agg #[.int .i64 n1, .int .i64 d1, .string t1]] w fun e w' =>
      e = .returned (.agg #[.int .i64 (negI n1 d1 t1).1, .int .i64 (negI n1 d1 t1).2, .string ⟨#[]⟩]) ∧ Below w.heap.size w w' := by
  cases h1 : zax n1 d1 t1
  · have HM := Lib.hid (show negI n1 d1 t1 = (0, 0) from op1_no h1)
    go_enter Try.func203, Try.ntmps203
    go_wp2_with fail
    refine (zaq n1 d1 t1 _).mono ?_
    rintro e w1 ⟨rfl, hb1⟩
    obtain ⟨hc1, hf1⟩ := bcell hb1
    have B1 : Below w.heap.size w w1 := zap (by go_grown) (Nat.le_refl _) hb1
    have z1 : w.heap.size ≤ w1.heap.size := B1.size
    have y1_0 : w.heap.size < w1.heap.size := by have := hb1.size; (try simp at this); omega
    have y1_1 : w.heap.size + 1 < w1.heap.size := by have := hb1.size; (try simp at this); omega
    have k1_0_0 : w1.cell? ⟨w.heap.size, 0, none⟩ = some (.int .i64 n1) := by rw [hc1 _ _ (by (try simp); (try omega))]; go_simp
    have k1_0_1 : w1.cell? ⟨w.heap.size, 1, none⟩ = some (.int .i64 d1) := by rw [hc1 _ _ (by (try simp); (try omega))]; go_simp
    have k1_0_2 : w1.cell? ⟨w.heap.size, 2, none⟩ = some (.string t1) := by rw [hc1 _ _ (by (try simp); (try omega))]; go_simp
    have k1_1_0 : w1.cell? ⟨w.heap.size + 1, 0, none⟩ = some (.int .i64 0) := by rw [hc1 _ _ (by (try simp); (try omega))]; go_simp
    have k1_1_1 : w1.cell? ⟨w.heap.size + 1, 1, none⟩ = some (.int .i64 0) := by rw [hc1 _ _ (by (try simp); (try omega))]; go_simp
    have k1_1_2 : w1.cell? ⟨w.heap.size + 1, 2, none⟩ = some (.string ⟨#[]⟩) := by rw [hc1 _ _ (by (try simp); (try omega))]; go_simp
    clear hc1
    go_wp2_with fail
    exact bodyPost_ret (v := .agg #[.int .i64 0, .int .i64 0, .string ⟨#[]⟩]) (by simp [results, Try.results203, go_sem, *]) rfl ⟨zau HM.out, by go_grown⟩
  · have HM := Lib.hid (show negI n1 d1 t1 = _ from op1_yes h1)
    obtain ⟨a1, a2, a3, a4⟩ := zaz h1
    go_enter Try.func203, Try.ntmps203
    go_wp2_with fail
    refine (zaq n1 d1 t1 _).mono ?_
    rintro e w1 ⟨rfl, hb1⟩
    obtain ⟨hc1, hf1⟩ := bcell hb1
    have B1 : Below w.heap.size w w1 := zap (by go_grown) (Nat.le_refl _) hb1
    have z1 : w.heap.size ≤ w1.heap.size := B1.size
    have y1_0 : w.heap.size < w1.heap.size := by have := hb1.size; (try simp at this); omega
    have y1_1 : w.heap.size + 1 < w1.heap.size := by have := hb1.size; (try simp at this); omega
    have k1_0_0 : w1.cell? ⟨w.heap.size, 0, none⟩ = some (.int .i64 n1) := by rw [hc1 _ _ (by (try simp); (try omega))]; go_simp
    have k1_0_1 : w1.cell? ⟨w.heap.size, 1, none⟩ = some (.int .i64 d1) := by rw [hc1 _ _ (by (try simp); (try omega))]; go_simp
    have k1_0_2 : w1.cell? ⟨w.heap.size, 2, none⟩ = some (.string t1) := by rw [hc1 _ _ (by (try simp); (try omega))]; go_simp
    have k1_1_0 : w1.cell? ⟨w.heap.size + 1, 0, none⟩ = some (.int .i64 0) := by rw [hc1 _ _ (by (try simp); (try omega))]; go_simp
    have k1_1_1 : w1.cell? ⟨w.heap.size + 1, 1, none⟩ = some (.int .i64 0) := by rw [hc1 _ _ (by (try simp); (try omega))]; go_simp
    have k1_1_2 : w1.cell? ⟨w.heap.size + 1, 2, none⟩ = some (.string ⟨#[]⟩) := by rw [hc1 _ _ (by (try simp); (try omega))]; go_simp
    clear hc1
    go_wp2_with fail
    exact bodyPost_ret (v := .agg #[.int .i64 (-n1), .int .i64 d1, .string ⟨#[]⟩]) (by simp [results, Try.results203, go_sem, *]) rfl ⟨zau HM.out, by go_grown⟩

/-- the floor by Go's own quotient and remainder, the divisor positive -/
theorem fdiv_cases (a b : Int) (hb : 1 ≤ b) : (a.tmod b < 0 ∧ Int.fdiv a b = a.tdiv b - 1 ∧ a < 0) ∨ (a.tmod b = 0 ∧ Int.fdiv a b = a.tdiv b) ∨ (0 < a.tmod b ∧ Int.fdiv a b = a.tdiv b ∧ 0 < a) := by
  rw [Int.fdiv_eq_ediv_of_nonneg _ (by omega)]
  have h1 := Int.tmod_add_mul_tdiv a b
  have h2 := Int.emod_add_mul_ediv a b
  have h3 := Int.emod_nonneg a (show b ≠ 0 by omega)
  have h4 := Int.emod_lt_of_pos a (show 0 < b by omega)
  rcases Int.lt_trichotomy a 0 with h | h | h
  · have h5 := Int.tmod_eq_emod (a := a) (b := b)
    have h6 := Int.tdiv_eq_ediv (a := a) (b := b)
    by_cases hd : b ∣ a
    · have e0 := Int.emod_eq_zero_of_dvd hd
      rw [if_pos (.inr hd)] at h5 h6
      exact .inr (.inl ⟨by omega, by omega⟩)
    · have e0 : a % b ≠ 0 := fun e => hd (Int.dvd_of_emod_eq_zero e)
      have hs : b.sign = 1 := Int.sign_eq_one_of_pos (by omega)
      rw [if_neg (by simp [hd]; omega)] at h5 h6
      rw [hs] at h6
      exact .inl ⟨by omega, by omega, h⟩
  · subst h; exact .inr (.inl ⟨by simp, by simp⟩)
  · rw [Int.tdiv_eq_ediv_of_nonneg (by omega), Int.tmod_eq_emod_of_nonneg (by omega)]
    by_cases e0 : a % b = 0
    · exact .inr (.inl ⟨e0, rfl⟩)
    · exact .inr (.inr ⟨by omega, rfl, h⟩)

theorem tdiv_bd1 (a b : Int) (ha : -4000000000000000000 ≤ a ∧ a ≤ 4000000000000000000) : -4000000000000000000 ≤ a.tdiv b ∧ a.tdiv b ≤ 4000000000000000000 := Nm.tdiv_bd ha.1 ha.2

theorem impl_floor (a b : Int) (w : World) (ha : -4000000000000000000 ≤ a ∧ a ≤ 4000000000000000000) (hb1 : 1 ≤ b) (hb2 : b ≤ 4000000000000000000) :
    Calls Try.prog 207 #[.int .i64 a, .int .i64 b] w fun e w' => e = .returned (.int .i64 (Int.fdiv a b)) ∧ Below w.heap.size w w' := by
  obtain ⟨q1, q2⟩ := tdiv_bd1 a b ha
  obtain ⟨ha1, ha2⟩ := ha
  have hz : (b == 0) = false := by simp; omega
  have hm1 : ¬ b < 0 := by omega
  have hm2 : ¬ b = -1 := by omega
  rcases fdiv_cases a b hb1 with ⟨r1, r2, r3⟩ | ⟨r1, r2⟩ | ⟨r1, r2, r3⟩
  all_goals
    have HF := Lib.hid r2
    clear r2
    obtain ⟨q, hq⟩ : ∃ q, a.tdiv b = q := ⟨_, rfl⟩
    obtain ⟨r, hr⟩ : ∃ r, a.tmod b = r := ⟨_, rfl⟩
    rw [hq] at HF q1 q2
    rw [hr] at r1
  · have z1 : (r != 0) = true := by simp; omega
    go_enter Try.func207, Try.ntmps207
    go_wp2_with fail
    go_ret
    exact ⟨za6 HF.out.symm, Below.refl _ _⟩
  · have z1 : (r != 0) = false := by simpa using r1
    have z2 : ¬ r < 0 := by omega
    clear r1
    go_enter Try.func207, Try.ntmps207
    go_wp2_with fail
    go_ret
    exact ⟨za6 HF.out.symm, Below.refl _ _⟩
  · have z1 : (r != 0) = true := by simp; omega
    have z2 : ¬ a < 0 := by omega
    go_enter Try.func207, Try.ntmps207
    go_wp2_with fail
    go_ret
    exact ⟨za6 HF.out.symm, Below.refl _ _⟩

theorem spec_floor (a b : Int) (w : World) (ha : -4000000000000000000 ≤ a ∧ a ≤ 4000000000000000000) (hb1 : 1 ≤ b) (hb2 : b ≤ 4000000000000000000) :
    Calls Try.prog 205 #[.int .i64 a, .int .i64 b] w fun e w' => e = .returned (.int .i64 (Int.fdiv a b)) ∧ Below w.heap.size w w' := by
  obtain ⟨q1, q2⟩ := tdiv_bd1 a b ha
  obtain ⟨ha1, ha2⟩ := ha
  have hz : (b == 0) = false := by simp; omega
  have hm1 : ¬ b < 0 := by omega
  have hm2 : ¬ b = -1 := by omega
  rcases fdiv_cases a b hb1 with ⟨r1, r2, r3⟩ | ⟨r1, r2⟩ | ⟨r1, r2, r3⟩
  all_goals
    have HF := Lib.hid r2
    clear r2
    obtain ⟨q, hq⟩ : ∃ q, a.tdiv b = q := ⟨_, rfl⟩
    obtain ⟨r, hr⟩ : ∃ r, a.tmod b = r := ⟨_, rfl⟩
    rw [hq] at HF q1 q2
    rw [hr] at r1
  · have z1 : (r != 0) = true := by simp; omega
    go_enter Try.func205, Try.ntmps205
    go_wp2_with fail
    go_ret
    exact ⟨za6 HF.out.symm, Below.refl _ _⟩
  · have z1 : (r != 0) = false := by simpa using r1
    have z2 : ¬ r < 0 := by omega
    clear r1
    go_enter Try.func205, Try.ntmps205
    go_wp2_with fail
    go_ret
    exact ⟨za6 HF.out.symm, Below.refl _ _⟩
  · have z1 : (r != 0) = true := by simp; omega
    have z2 : ¬ a < 0 := by omega
    go_enter Try.func205, Try.ntmps205
    go_wp2_with fail
    go_ret
    exact ⟨za6 HF.out.symm, Below.refl _ _⟩

end Go.Proofs.Ytmofcbpabdbjlaa
