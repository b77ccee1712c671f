/-
  What is proved: what the functions on numbers (negate, add, subtract, multiply, divide, floor, round, compare, quotient, remainder, of the program and of the reference) return; what the functions SubtractNumbers, QuotientOf, RemainderOf (of the program and of the reference) return.
  Condition: items of 64-bit ints.
-/
import Derived.Deep.DrawnRows
import Derived.Test.YtmofcbpabdbjlaaGreatMz2
import Derived.Test.YtmofcbpabdbjlaaGreatMz3
import Derived.Test.YtmofcbpabdbjlaaGreatMz4
import Derived.Test.YtmofcbpabdbjlaaGreatMz23
import Derived.Test.YtmofcbpabdbjlaaGreatMz24
namespace Go.Proofs.YtmofcbpabdbjlaaGreat

set_option maxRecDepth 8000

open Go.RowKit

set_option linter.unusedVariables false

set_option linter.unusedSimpArgs false

/-- the value of an operation on one item -/
def op1 (n d : Int) (t : ByteArray) (r : Int × Int) : Int × Int := if zas n d t then r else (0, 0)

def negI (n d : Int) (t : ByteArray) : Int × Int := op1 n d t (-n, d)

theorem op1_no {n d : Int} {t : ByteArray} {r : Int × Int} (h : zas n d t = false) : op1 n d t r = (0, 0) := by simp [op1, h]

theorem op1_yes {n d : Int} {t : ByteArray} {r : Int × Int} (h : zas n d t = true) : op1 n d t r = r := by simp [op1, h]

theorem impl_neg (n1 d1 : Int) (t1 : ByteArray) (w : World) :
    Calls Tryz.prog 91 #[.agg #[.int .i64 n1, .int .i64 d1, .string t1]] w fun e w' =>
      e = .returned (.agg #[.int .i64 (negI n1 d1 t1).1, .int .i64 (negI n1 d1 t1).2, .string ⟨#[]⟩]) ∧ Below w.heap.size w w' := by
  cases h1 : zas n1 d1 t1
  · have HM := Lib.hid (show negI n1 d1 t1 = (0, 0) from op1_no h1)
    go_enter Tryz.func91, Tryz.ntmps91
    go_wp2_with fail
    refine (zak n1 d1 t1 _).mono ?_
    rintro e w1 ⟨rfl, hb1⟩
    obtain ⟨hc1, hf1⟩ := bcell hb1
    have B1 : Below w.heap.size w w1 := zai (by go_grown) (Nat.le_refl _) hb1
    have z1 : w.heap.size ≤ w1.heap.size := B1.size
    have y1_0 : w.heap.size < w1.heap.size := by have := hb1.size; (try simp at this); omega
    have y1_1 : w.heap.size + 1 < w1.heap.size := by have := hb1.size; (try simp at this); omega
    have k1_0_0 : w1.cell? ⟨w.heap.size, 0, none⟩ = some (.int .i64 n1) := by rw [hc1 _ _ (by (try simp); (try omega))]; go_simp
    have k1_0_1 : w1.cell? ⟨w.heap.size, 1, none⟩ = some (.int .i64 d1) := by rw [hc1 _ _ (by (try simp); (try omega))]; go_simp
    have k1_0_2 : w1.cell? ⟨w.heap.size, 2, none⟩ = some (.string t1) := by rw [hc1 _ _ (by (try simp); (try omega))]; go_simp
    have k1_1_0 : w1.cell? ⟨w.heap.size + 1, 0, none⟩ = some (.int .i64 0) := by rw [hc1 _ _ (by (try simp); (try omega))]; go_simp
    have k1_1_1 : w1.cell? ⟨w.heap.size + 1, 1, none⟩ = some (.int .i64 0) := by rw [hc1 _ _ (by (try simp); (try omega))]; go_simp
    have k1_1_2 : w1.cell? ⟨w.heap.size + 1, 2, none⟩ = some (.string ⟨#[]⟩) := by rw [hc1 _ _ (by (try simp); (try omega))]; go_simp
    clear hc1
    go_wp2_with fail
    exact bodyPost_ret (v := .agg #[.int .i64 0, .int .i64 0, .string ⟨#[]⟩]) (by simp [results, Tryz.results91, go_sem, *]) rfl ⟨zar HM.out, by go_grown⟩
  · have HM := Lib.hid (show negI n1 d1 t1 = _ from op1_yes h1)
    obtain ⟨a1, a2, a3, a4⟩ := zaz h1
    go_enter Tryz.func91, Tryz.ntmps91
    go_wp2_with fail
    refine (zak n1 d1 t1 _).mono ?_
    rintro e w1 ⟨rfl, hb1⟩
    obtain ⟨hc1, hf1⟩ := bcell hb1
    have B1 : Below w.heap.size w w1 := zai (by go_grown) (Nat.le_refl _) hb1
    have z1 : w.heap.size ≤ w1.heap.size := B1.size
    have y1_0 : w.heap.size < w1.heap.size := by have := hb1.size; (try simp at this); omega
    have y1_1 : w.heap.size + 1 < w1.heap.size := by have := hb1.size; (try simp at this); omega
    have k1_0_0 : w1.cell? ⟨w.heap.size, 0, none⟩ = some (.int .i64 n1) := by rw [hc1 _ _ (by (try simp); (try omega))]; go_simp
    have k1_0_1 : w1.cell? ⟨w.heap.size, 1, none⟩ = some (.int .i64 d1) := by rw [hc1 _ _ (by (try simp); (try omega))]; go_simp
    have k1_0_2 : w1.cell? ⟨w.heap.size, 2, none⟩ = some (.string t1) := by rw [hc1 _ _ (by (try simp); (try omega))]; go_simp
    have k1_1_0 : w1.cell? ⟨w.heap.size + 1, 0, none⟩ = some (.int .i64 0) := by rw [hc1 _ _ (by (try simp); (try omega))]; go_simp
    have k1_1_1 : w1.cell? ⟨w.heap.size + 1, 1, none⟩ = some (.int .i64 0) := by rw [hc1 _ _ (by (try simp); (try omega))]; go_simp
    have k1_1_2 : w1.cell? ⟨w.heap.size + 1, 2, none⟩ = some (.string ⟨#[]⟩) := by rw [hc1 _ _ (by (try simp); (try omega))]; go_simp
    clear hc1
    go_wp2_with fail
    exact bodyPost_ret (v := .agg #[.int .i64 (-n1), .int .i64 d1, .string ⟨#[]⟩]) (by simp [results, Tryz.results91, go_sem, *]) rfl ⟨zar HM.out, by go_grown⟩

theorem spec_neg (n1 d1 : Int) (t1 : ByteArray) (w : World) :
    Calls Tryz.prog 99 #[.agg #[.int .i64 n1, .int .i64 d1, .string t1]] w fun e w' =>
      e = .returned (.agg #[.int .i64 (negI n1 d1 t1).1, .int .i64 (negI n1 d1 t1).2, .string ⟨#[]⟩]) ∧ Below w.heap.size w w' := by
  cases h1 : zas n1 d1 t1
  · have HM := Lib.hid (show negI n1 d1 t1 = (0, 0) from op1_no h1)
    go_enter Tryz.func99, Tryz.ntmps99
    go_wp2_with fail
    refine (zam n1 d1 t1 _).mono ?_
    rintro e w1 ⟨rfl, hb1⟩
    obtain ⟨hc1, hf1⟩ := bcell hb1
    have B1 : Below w.heap.size w w1 := zai (by go_grown) (Nat.le_refl _) hb1
    have z1 : w.heap.size ≤ w1.heap.size := B1.size
    have y1_0 : w.heap.size < w1.heap.size := by have := hb1.size; (try simp at this); omega
    have y1_1 : w.heap.size + 1 < w1.heap.size := by have := hb1.size; (try simp at this); omega
    have k1_0_0 : w1.cell? ⟨w.heap.size, 0, none⟩ = some (.int .i64 n1) := by rw [hc1 _ _ (by (try simp); (try omega))]; go_simp
    have k1_0_1 : w1.cell? ⟨w.heap.size, 1, none⟩ = some (.int .i64 d1) := by rw [hc1 _ _ (by (try simp); (try omega))]; go_simp
    have k1_0_2 : w1.cell? ⟨w.heap.size, 2, none⟩ = some (.string t1) := by rw [hc1 _ _ (by (try simp); (try omega))]; go_simp
    have k1_1_0 : w1.cell? ⟨w.heap.size + 1, 0, none⟩ = some (.int .i64 0) := by rw [hc1 _ _ (by (try simp); (try omega))]; go_simp
    have k1_1_1 : w1.cell? ⟨w.heap.size + 1, 1, none⟩ = some (.int .i64 0) := by rw [hc1 _ _ (by (try simp); (try omega))]; go_simp
    have k1_1_2 : w1.cell? ⟨w.heap.size + 1, 2, none⟩ = some (.string ⟨#[]⟩) := by rw [hc1 _ _ (by (try simp); (try omega))]; go_simp
    clear hc1
    go_wp2_with fail
    exact bodyPost_ret (v := .agg #[.int .i64 0, .int .i64 0, .string ⟨#[]⟩]) (by simp [results, Tryz.results99, go_sem, *]) rfl ⟨zar HM.out, by go_grown⟩
  · have HM := Lib.hid (show negI n1 d1 t1 = _ from op1_yes h1)
    obtain ⟨a1, a2, a3, a4⟩ := zaz h1
    go_enter Tryz.func99, Tryz.ntmps99
    go_wp2_with fail
    refine (zam n1 d1 t1 _).mono ?_
    rintro e w1 ⟨rfl, hb1⟩
    obtain ⟨hc1, hf1⟩ := bcell hb1
    have B1 : Below w.heap.size w w1 := zai (by go_grown) (Nat.le_refl _) hb1
    have z1 : w.heap.size ≤ w1.heap.size := B1.size
    have y1_0 : w.heap.size < w1.heap.size := by have := hb1.size; (try simp at this); omega
    have y1_1 : w.heap.size + 1 < w1.heap.size := by have := hb1.size; (try simp at this); omega
    have k1_0_0 : w1.cell? ⟨w.heap.size, 0, none⟩ = some (.int .i64 n1) := by rw [hc1 _ _ (by (try simp); (try omega))]; go_simp
    have k1_0_1 : w1.cell? ⟨w.heap.size, 1, none⟩ = some (.int .i64 d1) := by rw [hc1 _ _ (by (try simp); (try omega))]; go_simp
    have k1_0_2 : w1.cell? ⟨w.heap.size, 2, none⟩ = some (.string t1) := by rw [hc1 _ _ (by (try simp); (try omega))]; go_simp
    have k1_1_0 : w1.cell? ⟨w.heap.size + 1, 0, none⟩ = some (.int .i64 0) := by rw [hc1 _ _ (by (try simp); (try omega))]; go_simp
    have k1_1_1 : w1.cell? ⟨w.heap.size + 1, 1, none⟩ = some (.int .i64 0) := by rw [hc1 _ _ (by (try simp); (try omega))]; go_simp
    have k1_1_2 : w1.cell? ⟨w.heap.size + 1, 2, none⟩ = some (.string ⟨#[]⟩) := by rw [hc1 _ _ (by (try simp); (try omega))]; go_simp
    clear hc1
    go_wp2_with fail
    exact bodyPost_ret (v := .agg #[.int .i64 (-n1), .int .i64 d1, .string ⟨#[]⟩]) (by simp [results, Tryz.results99, go_sem, *]) rfl ⟨zar HM.out, by go_grown⟩

/-- the floor by Go's own quotient and remainder, the divisor positive -/
theorem fdiv_cases (a b : Int) (hb : 1 ≤ b) : (a.tmod b < 0 ∧ Int.fdiv a b = a.tdiv b - 1 ∧ a < 0) ∨ (a.tmod b = 0 ∧ Int.fdiv a b = a.tdiv b) ∨ (0 < a.tmod b ∧ Int.fdiv a b = a.tdiv b ∧ 0 < a) := by
  rw [Int.fdiv_eq_ediv_of_nonneg _ (by omega)]
  have h1 := Int.tmod_add_mul_tdiv a b
  have h2 := Int.emod_add_mul_ediv a b
  have h3 := Int.emod_nonneg a (show b ≠ 0 by omega)
  have h4 := Int.emod_lt_of_pos a (show 0 < b by omega)
  rcases Int.lt_trichotomy a 0 with h | h | h
  · have h5 := Int.tmod_eq_emod (a := a) (b := b)
    have h6 := Int.tdiv_eq_ediv (a := a) (b := b)
    by_cases hd : b ∣ a
    · have e0 := Int.emod_eq_zero_of_dvd hd
      rw [if_pos (.inr hd)] at h5 h6
      exact .inr (.inl ⟨by omega, by omega⟩)
    · have e0 : a % b ≠ 0 := fun e => hd (Int.dvd_of_emod_eq_zero e)
      have hs : b.sign = 1 := Int.sign_eq_one_of_pos (by omega)
      rw [if_neg (by simp [hd]; omega)] at h5 h6
      rw [hs] at h6
      exact .inl ⟨by omega, by omega, h⟩
  · subst h; exact .inr (.inl ⟨by simp, by simp⟩)
  · rw [Int.tdiv_eq_ediv_of_nonneg (by omega), Int.tmod_eq_emod_of_nonneg (by omega)]
    by_cases e0 : a % b = 0
    · exact .inr (.inl ⟨e0, rfl⟩)
    · exact .inr (.inr ⟨by omega, rfl, h⟩)

theorem tdiv_bd1 (a b : Int) (ha : -4000000000000000000 ≤ a ∧ a ≤ 4000000000000000000) : -4000000000000000000 ≤ a.tdiv b ∧ a.tdiv b ≤ 4000000000000000000 := Nm.tdiv_bd ha.1 ha.2

theorem impl_floor (a b : Int) (w : World) (ha : -4000000000000000000 ≤ a ∧ a ≤ 4000000000000000000) (hb1 : 1 ≤ b) (hb2 : b ≤ 4000000000000000000) :
    Calls Tryz.prog 92 #[.int .i64 a, .int .i64 b] w fun e w' => e = .returned (.int .i64 (Int.fdiv a b)) ∧ Below w.heap.size w w' := by
  obtain ⟨q1, q2⟩ := tdiv_bd1 a b ha
  obtain ⟨ha1, ha2⟩ := ha
  have hz : (b == 0) = false := by simp; omega
  have hm1 : ¬ b < 0 := by omega
  have hm2 : ¬ b = -1 := by omega
  rcases fdiv_cases a b hb1 with ⟨r1, r2, r3⟩ | ⟨r1, r2⟩ | ⟨r1, r2, r3⟩
  all_goals
    have HF := Lib.hid r2
    clear r2
    obtain ⟨q, hq⟩ : ∃ q, a.tdiv b = q := ⟨_, rfl⟩
    obtain ⟨r, hr⟩ : ∃ r, a.tmod b = r := ⟨_, rfl⟩
    rw [hq] at HF q1 q2
    rw [hr] at r1
  · have z1 : (r != 0) = true := by simp; omega
    go_enter Tryz.func92, Tryz.ntmps92
    go_wp2_with fail
    go_ret
    exact ⟨zat HF.out.symm, Below.refl _ _⟩
  · have z1 : (r != 0) = false := by simpa using r1
    have z2 : ¬ r < 0 := by omega
    clear r1
    go_enter Tryz.func92, Tryz.ntmps92
    go_wp2_with fail
    go_ret
    exact ⟨zat HF.out.symm, Below.refl _ _⟩
  · have z1 : (r != 0) = true := by simp; omega
    have z2 : ¬ a < 0 := by omega
    go_enter Tryz.func92, Tryz.ntmps92
    go_wp2_with fail
    go_ret
    exact ⟨zat HF.out.symm, Below.refl _ _⟩

theorem spec_floor (a b : Int) (w : World) (ha : -4000000000000000000 ≤ a ∧ a ≤ 4000000000000000000) (hb1 : 1 ≤ b) (hb2 : b ≤ 4000000000000000000) :
    Calls Tryz.prog 101 #[.int .i64 a, .int .i64 b] w fun e w' => e = .returned (.int .i64 (Int.fdiv a b)) ∧ Below w.heap.size w w' := by
  obtain ⟨q1, q2⟩ := tdiv_bd1 a b ha
  obtain ⟨ha1, ha2⟩ := ha
  have hz : (b == 0) = false := by simp; omega
  have hm1 : ¬ b < 0 := by omega
  have hm2 : ¬ b = -1 := by omega
  rcases fdiv_cases a b hb1 with ⟨r1, r2, r3⟩ | ⟨r1, r2⟩ | ⟨r1, r2, r3⟩
  all_goals
    have HF := Lib.hid r2
    clear r2
    obtain ⟨q, hq⟩ : ∃ q, a.tdiv b = q := ⟨_, rfl⟩
    obtain ⟨r, hr⟩ : ∃ r, a.tmod b = r := ⟨_, rfl⟩
    rw [hq] at HF q1 q2
    rw [hr] at r1
  · have z1 : (r != 0) = true := by simp; omega
    go_enter Tryz.func101, Tryz.ntmps101
    go_wp2_with fail
    go_ret
    exact ⟨zat HF.out.symm, Below.refl _ _⟩
  · have z1 : (r != 0) = false := by simpa using r1
    have z2 : ¬ r < 0 := by omega
    clear r1
    go_enter Tryz.func101, Tryz.ntmps101
    go_wp2_with fail
    go_ret
    exact ⟨zat HF.out.symm, Below.refl _ _⟩
  · have z1 : (r != 0) = true := by simp; omega
    have z2 : ¬ a < 0 := by omega
    go_enter Tryz.func101, Tryz.ntmps101
    go_wp2_with fail
    go_ret
    exact ⟨zat HF.out.symm, Below.refl _ _⟩

end Go.Proofs.YtmofcbpabdbjlaaGreat

namespace Go.Proofs.YtmofcbpabdbjlaaGreat

set_option maxRecDepth 8000

open Go.RowKit

set_option linter.unusedVariables false

set_option linter.unusedSimpArgs false

def subI (n1 d1 : Int) (t1 : ByteArray) (n2 d2 : Int) (t2 : ByteArray) : Int × Int := addI n1 d1 t1 (negI n2 d2 t2).1 (negI n2 d2 t2).2 ⟨#[]⟩

/-- floor of a / b -/
def quotV (n1 d1 n2 d2 : Int) : Int × Int := if n2 = 0 then (0, 0) else Nm.mk (Int.fdiv (n1 * d2) (d1 * n2)) 1

def quotI (n1 d1 : Int) (t1 : ByteArray) (n2 d2 : Int) (t2 : ByteArray) : Int × Int := op2 n1 d1 t1 n2 d2 t2 (quotV n1 d1 n2 d2)

def remV (n1 d1 n2 d2 : Int) : Int × Int := if n2 = 0 then (0, 0) else Nm.mk (n1 * d2 - n2 * d1 * Int.fdiv (n1 * d2) (n2 * d1)) (d1 * d2)

def remI (n1 d1 : Int) (t1 : ByteArray) (n2 d2 : Int) (t2 : ByteArray) : Int × Int := op2 n1 d1 t1 n2 d2 t2 (remV n1 d1 n2 d2)

theorem spec_sub (n1 d1 n2 d2 : Int) (t1 t2 : ByteArray) (w : World) :
    Calls Tryz.prog 75 #[.agg #[.int .i64 n1, .int .i64 d1, .string t1], .agg #[.int .i64 n2, .int .i64 d2, .string t2]] w fun e w' =>
      e = .returned (.agg #[.int .i64 (subI n1 d1 t1 n2 d2 t2).1, .int .i64 (subI n1 d1 t1 n2 d2 t2).2, .string ⟨#[]⟩]) ∧ Below w.heap.size w w' := by
  go_enter Tryz.func75, Tryz.ntmps75
  have hO := Own.nil w
  go_wp2_with (first | ((with_reducible refine zac ?_); refine zal rfl hO rfl ?_; (refine nm 2 rfl ?_; clear hO; intro b2 u hO); simp only [zL, zK] at hO) | ((with_reducible refine zad ?_); refine zbx rfl hO rfl rfl ?_; (first | (refine nm 0 rfl ?_; clear hO; intro b0 u hO) | (refine nm 1 rfl ?_; clear hO; intro b1 u hO) | fail); simp only [zL, zK] at hO) | fail)
  refine J.wp_region_c (n := 9) [0, 1, 2, 3] [] (deps := fun i => [[], [], [1], [0, 1, 2], []].getD i []) (fun _ _ _ => True) (r := 1) (lst := #[true, true, true, true, false]) (by kernel_rfl) (by kernel_rfl) (by kernel_rfl) rfl (by decide) (by kernel_rfl) hO ?_
  refine zcc (f := fun M u hO K hK => by (exact zah hO rfl rfl _ (by exact at0) (by rfl) (by rfl) (hK _ hO))) (h := ?_)
  refine zcc (f := fun M u hO K hK => by (exact zah hO rfl rfl _ (by exact at1) (by rfl) (by rfl) (hK _ hO))) (h := ?_)
  refine zcc (f := fun M u hO K hK => by (simp only [wp_at_zero, wp_at_succ]; go_step; refine (spec_neg _ _ _ _).mono ?_; rintro e u ⟨rfl, hb⟩; exact hK _ (hO.step hb))) (h := ?_)
  refine zcc (f := fun M u hO K hK => by (simp only [wp_at_zero, wp_at_succ]; go_step; refine (spec_add _ _ _ _ _ _ _).mono ?_; rintro e u ⟨rfl, hb⟩; exact hK _ (hO.step hb))) (h := ?_)
  refine J.Chain.nil ⟨?_, ?_⟩
  · exact J.Each.nil
  intro vs u hO hF
  clear hF
  simp only [List.flatMap_cons, List.flatMap_nil, List.append_nil, zL, zK] at hO
  simp only [J.putL]
  clear vs
  refine J.wpAny_one (i := 4) (by kernel_rfl) (by rfl) rfl fun K hK => ?_
  (refine zaf hO rfl rfl _ (by exact at2) rfl (by rfl) (by rfl) (by rfl) (by rfl) (by rfl) ?_; clear hO; intro u hO; simp only [zC, zB] at hO; refine hK _ _ ?_; clear hK K)
  refine wpAny_done (by kernel_rfl) ?_ _
  go_wp2_with fail
  exact zan rfl hO rfl 2 rfl rfl rfl ⟨rfl, hO.below⟩

theorem impl_sub (n1 d1 n2 d2 : Int) (t1 t2 : ByteArray) (w : World) :
    Calls Tryz.prog 58 #[.agg #[.int .i64 n1, .int .i64 d1, .string t1], .agg #[.int .i64 n2, .int .i64 d2, .string t2]] w fun e w' =>
      e = .returned (.agg #[.int .i64 (subI n1 d1 t1 n2 d2 t2).1, .int .i64 (subI n1 d1 t1 n2 d2 t2).2, .string ⟨#[]⟩]) ∧ Below w.heap.size w w' := by
  go_enter Tryz.func58, Tryz.ntmps58
  have hO := Own.nil w
  go_wp2_with (first | ((with_reducible refine zac ?_); refine zal rfl hO rfl ?_; (refine nm 2 rfl ?_; clear hO; intro b2 u hO); simp only [zL, zK] at hO) | ((with_reducible refine zad ?_); refine zbx rfl hO rfl rfl ?_; (first | (refine nm 0 rfl ?_; clear hO; intro b0 u hO) | (refine nm 1 rfl ?_; clear hO; intro b1 u hO) | fail); simp only [zL, zK] at hO) | fail)
  refine J.wp_region_c (n := 9) [0, 1, 2, 3] [] (deps := fun i => [[], [], [1], [0, 1, 2], []].getD i []) (fun _ _ _ => True) (r := 1) (lst := #[true, true, true, true, false]) (by kernel_rfl) (by kernel_rfl) (by kernel_rfl) rfl (by decide) (by kernel_rfl) hO ?_
  refine zcc (f := fun M u hO K hK => by (exact zah hO rfl rfl _ (by exact at0) (by rfl) (by rfl) (hK _ hO))) (h := ?_)
  refine zcc (f := fun M u hO K hK => by (exact zah hO rfl rfl _ (by exact at1) (by rfl) (by rfl) (hK _ hO))) (h := ?_)
  refine zcc (f := fun M u hO K hK => by (simp only [wp_at_zero, wp_at_succ]; go_step; refine (impl_neg _ _ _ _).mono ?_; rintro e u ⟨rfl, hb⟩; exact hK _ (hO.step hb))) (h := ?_)
  refine zcc (f := fun M u hO K hK => by (simp only [wp_at_zero, wp_at_succ]; go_step; refine (impl_add _ _ _ _ _ _ _).mono ?_; rintro e u ⟨rfl, hb⟩; exact hK _ (hO.step hb))) (h := ?_)
  refine J.Chain.nil ⟨?_, ?_⟩
  · exact J.Each.nil
  intro vs u hO hF
  clear hF
  simp only [List.flatMap_cons, List.flatMap_nil, List.append_nil, zL, zK] at hO
  simp only [J.putL]
  clear vs
  refine J.wpAny_one (i := 4) (by kernel_rfl) (by rfl) rfl fun K hK => ?_
  (refine zaf hO rfl rfl _ (by exact at2) rfl (by rfl) (by rfl) (by rfl) (by rfl) (by rfl) ?_; clear hO; intro u hO; simp only [zC, zB] at hO; refine hK _ _ ?_; clear hK K)
  refine wpAny_done (by kernel_rfl) ?_ _
  go_wp2_with fail
  exact zan rfl hO rfl 2 rfl rfl rfl ⟨rfl, hO.below⟩

theorem fdiv_neg_neg (a b : Int) : Int.fdiv (-a) (-b) = Int.fdiv a b := Int.neg_fdiv_neg a b

theorem fdiv_cases_neg (a b : Int) (hb : b ≤ -1) : (a.tmod b < 0 ∧ a.fdiv b = a.tdiv b ∧ a < 0) ∨ (a.tmod b = 0 ∧ a.fdiv b = a.tdiv b) ∨ (0 < a.tmod b ∧ a.fdiv b = a.tdiv b - 1 ∧ 0 < a) := by
  obtain ⟨c, rfl⟩ : ∃ c, b = -c := ⟨-b, by omega⟩
  have h := fdiv_cases (-a) c (by omega)
  have e1 : Int.fdiv a (-c) = Int.fdiv (-a) c := by
    have := fdiv_neg_neg (-a) c
    rw [Int.neg_neg] at this
    exact this
  have e2 : a.tdiv (-c) = (-a).tdiv c := by rw [Int.tdiv_neg, Int.neg_tdiv]
  have e3 : a.tmod (-c) = -((-a).tmod c) := by rw [Int.tmod_neg, Int.neg_tmod]; omega
  rw [e1, e2, e3]
  rcases h with ⟨h1, h2, h3⟩ | ⟨h1, h2⟩ | ⟨h1, h2, h3⟩
  · exact .inr (.inr ⟨by omega, h2, by omega⟩)
  · exact .inr (.inl ⟨by omega, h2⟩)
  · exact .inl ⟨by omega, h2, by omega⟩

theorem impl_floor_neg (a b : Int) (w : World) (ha : -4000000000000000000 ≤ a ∧ a ≤ 4000000000000000000) (hb1 : b ≤ -1) (hb2 : -4000000000000000000 ≤ b) :
    Calls Tryz.prog 92 #[.int .i64 a, .int .i64 b] w fun e w' => e = .returned (.int .i64 (Int.fdiv a b)) ∧ Below w.heap.size w w' := by
  obtain ⟨q1, q2⟩ := tdiv_bd1 a b ha
  obtain ⟨ha1, ha2⟩ := ha
  have hz : (b == 0) = false := by simp; omega
  have hm1 : b < 0 := by omega
  have hm3 : -9223372036854775808 ≤ a.tdiv b := by omega
  have hm4 : a.tdiv b ≤ 9223372036854775807 := by omega
  rcases fdiv_cases_neg a b hb1 with ⟨r1, r2, r3⟩ | ⟨r1, r2⟩ | ⟨r1, r2, r3⟩
  all_goals
    have HF := Lib.hid r2
    clear r2
    obtain ⟨q, hq⟩ : ∃ q, a.tdiv b = q := ⟨_, rfl⟩
    obtain ⟨r, hr⟩ : ∃ r, a.tmod b = r := ⟨_, rfl⟩
    rw [hq] at HF q1 q2 hm3 hm4
    rw [hr] at r1
  · have z1 : (r != 0) = true := by simp; omega
    go_enter Tryz.func92, Tryz.ntmps92
    go_wp2_with fail
    go_ret
    exact ⟨zat HF.out.symm, Below.refl _ _⟩
  · have z1 : (r != 0) = false := by simpa using r1
    have z2 : ¬ r < 0 := by omega
    clear r1
    go_enter Tryz.func92, Tryz.ntmps92
    go_wp2_with fail
    go_ret
    exact ⟨zat HF.out.symm, Below.refl _ _⟩
  · have z1 : (r != 0) = true := by simp; omega
    have z2 : ¬ a < 0 := by omega
    go_enter Tryz.func92, Tryz.ntmps92
    go_wp2_with fail
    go_ret
    exact ⟨zat HF.out.symm, Below.refl _ _⟩

theorem impl_floorG (a b : Int) (w : World) (ha : -4000000000000000000 ≤ a ∧ a ≤ 4000000000000000000) (hb0 : b ≠ 0) (hb1 : -4000000000000000000 ≤ b) (hb2 : b ≤ 4000000000000000000) :
    Calls Tryz.prog 92 #[.int .i64 a, .int .i64 b] w fun e w' => e = .returned (.int .i64 (Int.fdiv a b)) ∧ Below w.heap.size w w' := by
  by_cases h : 0 < b
  · exact impl_floor a b w ha (by omega) hb2
  · exact impl_floor_neg a b w ha (by omega) hb1

theorem fdiv_bdG (a b : Int) (ha : -1000000000000000000 ≤ a ∧ a ≤ 1000000000000000000) : -1000000000000000000 ≤ Int.fdiv a b ∧ Int.fdiv a b ≤ 1000000000000000000 := by
  rcases Int.lt_trichotomy b 0 with h | h | h
  · rw [← fdiv_neg_neg]
    have h1 : 0 ≤ -b := by omega
    rw [Int.fdiv_eq_ediv_of_nonneg _ h1]
    have h2 := Int.natAbs_ediv_le_natAbs (-a) (-b)
    omega
  · subst h; simp
  · rw [Int.fdiv_eq_ediv_of_nonneg _ (by omega)]
    have h2 := Int.natAbs_ediv_le_natAbs a b
    omega

theorem impl_quot (n1 d1 n2 d2 : Int) (t1 t2 : ByteArray) (w : World) :
    Calls Tryz.prog 63 #[.agg #[.int .i64 n1, .int .i64 d1, .string t1], .agg #[.int .i64 n2, .int .i64 d2, .string t2]] w fun e w' =>
      e = .returned (.agg #[.int .i64 (quotI n1 d1 t1 n2 d2 t2).1, .int .i64 (quotI n1 d1 t1 n2 d2 t2).2, .string ⟨#[]⟩]) ∧ Below w.heap.size w w' := by
  cases h1 : zas n1 d1 t1
  · have HM := Lib.hid (show quotI n1 d1 t1 n2 d2 t2 = (0, 0) from op2_no1 h1)
    go_enter Tryz.func63, Tryz.ntmps63
    have hO := Own.nil w
    go_wp2_with (first | ((with_reducible refine zac ?_); refine zal rfl hO rfl ?_; (refine nm 2 rfl ?_; clear hO; intro b2 u hO); simp only [zL, zK] at hO) | ((with_reducible refine zad ?_); refine zbx rfl hO rfl rfl ?_; (first | (refine nm 0 rfl ?_; clear hO; intro b0 u hO) | (refine nm 1 rfl ?_; clear hO; intro b1 u hO) | fail); simp only [zL, zK] at hO) | ((with_reducible refine zaa ?_); refine zlb rfl hO rfl _ (by exact at0) ?_) | fail)
    refine (zak _ _ _ _).mono ?_
    rintro e u ⟨rfl, hb⟩
    (replace hO := hO.step hb; clear hb)
    rw [h1]
    go_wp2_with (first | ((with_reducible refine zab ?_); refine zsb rfl hO rfl _ (by exact at2) rfl ?_; clear hO; intro u hO; simp only [zC, zB] at hO) | fail)
    exact zan rfl hO rfl 2 rfl rfl rfl ⟨zar HM.out, hO.below⟩
  · cases h2 : zas n2 d2 t2
    · have HM := Lib.hid (show quotI n1 d1 t1 n2 d2 t2 = (0, 0) from zbl h2)
      go_enter Tryz.func63, Tryz.ntmps63
      have hO := Own.nil w
      go_wp2_with (first | ((with_reducible refine zac ?_); refine zal rfl hO rfl ?_; (refine nm 2 rfl ?_; clear hO; intro b2 u hO); simp only [zL, zK] at hO) | ((with_reducible refine zad ?_); refine zbx rfl hO rfl rfl ?_; (first | (refine nm 0 rfl ?_; clear hO; intro b0 u hO) | (refine nm 1 rfl ?_; clear hO; intro b1 u hO) | fail); simp only [zL, zK] at hO) | ((with_reducible refine zaa ?_); refine zlb rfl hO rfl _ (by exact at0) ?_) | fail)
      refine (zak _ _ _ _).mono ?_
      rintro e u ⟨rfl, hb⟩
      (replace hO := hO.step hb; clear hb)
      rw [h1]
      go_wp2_with (first | ((with_reducible refine zaa ?_); refine zlb rfl hO rfl _ (by exact at1) ?_) | fail)
      refine (zak _ _ _ _).mono ?_
      rintro e u ⟨rfl, hb⟩
      (replace hO := hO.step hb; clear hb)
      rw [h2]
      go_wp2_with (first | ((with_reducible refine zab ?_); refine zsb rfl hO rfl _ (by exact at2) rfl ?_; clear hO; intro u hO; simp only [zC, zB] at hO) | fail)
      exact zan rfl hO rfl 2 rfl rfl rfl ⟨zar HM.out, hO.below⟩
    · have hyes := op2_yes (r := quotV n1 d1 n2 d2) h1 h2
      obtain ⟨a1, a2, a3, a4⟩ := zaz h1
      obtain ⟨b1, b2, b3, b4⟩ := zaz h2
      obtain ⟨m1, m2⟩ := zax (a := n1) (b := d2) (by omega) (by omega)
      obtain ⟨m3, m4⟩ := zax (a := n2) (b := d1) (by omega) (by omega)
      obtain ⟨m5, m6⟩ := zax (a := d1) (b := d2) (by omega) (by omega)
      obtain ⟨m9, m10⟩ := zax (a := d1) (b := n2) (by omega) (by omega)
      by_cases hz : n2 = 0
      · have HM := Lib.hid (show quotI n1 d1 t1 n2 d2 t2 = (0, 0) from hyes.trans (if_pos hz))
        have hzb : (n2 == 0) = true := by simp [hz]
        have HZ := Lib.hid hz
        clear hz hyes
        go_enter Tryz.func63, Tryz.ntmps63
        have hO := Own.nil w
        go_wp2_with (first | ((with_reducible refine zac ?_); refine zal rfl hO rfl ?_; (refine nm 2 rfl ?_; clear hO; intro b2 u hO); simp only [zL, zK] at hO) | ((with_reducible refine zad ?_); refine zbx rfl hO rfl rfl ?_; (first | (refine nm 0 rfl ?_; clear hO; intro b0 u hO) | (refine nm 1 rfl ?_; clear hO; intro b1 u hO) | fail); simp only [zL, zK] at hO) | ((with_reducible refine zaa ?_); refine zlb rfl hO rfl _ (by exact at0) ?_) | fail)
        refine (zak _ _ _ _).mono ?_
        rintro e u ⟨rfl, hb⟩
        (replace hO := hO.step hb; clear hb)
        rw [h1]
        go_wp2_with (first | ((with_reducible refine zaa ?_); refine zlb rfl hO rfl _ (by exact at1) ?_) | fail)
        refine (zak _ _ _ _).mono ?_
        rintro e u ⟨rfl, hb⟩
        (replace hO := hO.step hb; clear hb)
        rw [h2]
        go_wp2_with (first | ((with_reducible refine zaa ?_); refine zlf rfl hO rfl _ (by exact at1) ?_) | ((with_reducible refine zab ?_); refine zsb rfl hO rfl _ (by exact at2) rfl ?_; clear hO; intro u hO; simp only [zC, zB] at hO) | fail)
        exact zan rfl hO rfl 2 rfl rfl rfl ⟨zar HM.out, hO.below⟩
      · have HM := Lib.hid (show quotI n1 d1 t1 n2 d2 t2 = _ from hyes.trans (if_neg hz))
        have hzb : (n2 == 0) = false := by simp [hz]
        clear hyes
        go_enter Tryz.func63, Tryz.ntmps63
        have hO := Own.nil w
        go_wp2_with (first | ((with_reducible refine zac ?_); refine zal rfl hO rfl ?_; (refine nm 2 rfl ?_; clear hO; intro b2 u hO); simp only [zL, zK] at hO) | ((with_reducible refine zad ?_); refine zbx rfl hO rfl rfl ?_; (first | (refine nm 0 rfl ?_; clear hO; intro b0 u hO) | (refine nm 1 rfl ?_; clear hO; intro b1 u hO) | fail); simp only [zL, zK] at hO) | ((with_reducible refine zaa ?_); refine zlb rfl hO rfl _ (by exact at0) ?_) | fail)
        refine (zak _ _ _ _).mono ?_
        rintro e u ⟨rfl, hb⟩
        (replace hO := hO.step hb; clear hb)
        rw [h1]
        go_wp2_with (first | ((with_reducible refine zaa ?_); refine zlb rfl hO rfl _ (by exact at1) ?_) | fail)
        refine (zak _ _ _ _).mono ?_
        rintro e u ⟨rfl, hb⟩
        (replace hO := hO.step hb; clear hb)
        rw [h2]
        go_wp2_with (first | ((with_reducible refine zaa ?_); refine zlf rfl hO rfl _ (by (first | exact at0 | exact at1 | fail)) ?_) | fail)
        have hf := fdiv_bdG (n1 * d2) (d1 * n2) (by omega)
        obtain ⟨v, hv⟩ : ∃ v, v = Int.fdiv (n1 * d2) (d1 * n2) := ⟨_, rfl⟩
        have hne : d1 * n2 ≠ 0 := Int.mul_ne_zero (by omega) hz
        rw [← hv] at HM hf
        have HV := Lib.hid hv
        obtain ⟨f1, f2⟩ := hf
        clear hv
        refine (impl_floorG _ _ _ (by omega) hne (by omega) (by omega)).mono ?_
        rintro e u ⟨rfl, hb⟩
        (replace hO := hO.step hb; clear hb)
        rw [← HV.out]
        go_wp2_with fail
        refine (impl_make v 1 _ (by omega) (by omega)).mono ?_
        rintro e u ⟨rfl, hb⟩
        (replace hO := hO.step hb; clear hb)
        go_wp2_with (first | ((with_reducible refine zab ?_); refine zsb rfl hO rfl _ (by exact at2) rfl ?_; clear hO; intro u hO; simp only [zC, zB] at hO) | fail)
        exact zan rfl hO rfl 2 rfl rfl rfl ⟨zar HM.out, hO.below⟩

/-- both parts with a positive second one -/
def prt (n1 d1 n2 d2 : Int) : Int × Int := if n2 * d1 < 0 then (-(n1 * d2), -(n2 * d1)) else (n1 * d2, n2 * d1)

theorem spec_parts (n1 d1 n2 d2 : Int) (t1 t2 : ByteArray) (w : World) (h1 : -999999998000000001 ≤ n1 * d2 ∧ n1 * d2 ≤ 999999998000000001) (h2 : -999999998000000001 ≤ n2 * d1 ∧ n2 * d1 ≤ 999999998000000001) :
    Calls Tryz.prog 100 #[.agg #[.int .i64 n1, .int .i64 d1, .string t1], .agg #[.int .i64 n2, .int .i64 d2, .string t2]] w fun e w' =>
      e = .returned (.tuple #[.int .i64 (prt n1 d1 n2 d2).1, .int .i64 (prt n1 d1 n2 d2).2]) ∧ Below w.heap.size w w' := by
  obtain ⟨a1, a2⟩ := h1
  obtain ⟨a3, a4⟩ := h2
  by_cases h : n2 * d1 < 0
  · have HP := Lib.hid (show prt n1 d1 n2 d2 = _ from if_pos h)
    go_enter Tryz.func100, Tryz.ntmps100
    have hO := Own.nil w
    go_wp2_with (first | ((with_reducible refine zad ?_); refine zbx rfl hO rfl rfl ?_; (first | (refine nm 0 rfl ?_; clear hO; intro b0 u hO) | (refine nm 1 rfl ?_; clear hO; intro b1 u hO) | fail); simp only [zL, zK] at hO) | ((with_reducible refine zaa ?_); refine zlf rfl hO rfl _ (by (first | exact at0 | exact at1 | fail)) ?_) | fail)
    go_ret2
    exact ⟨by rw [HP.out]; rfl, hO.below⟩
  · have HP := Lib.hid (show prt n1 d1 n2 d2 = _ from if_neg h)
    go_enter Tryz.func100, Tryz.ntmps100
    have hO := Own.nil w
    go_wp2_with (first | ((with_reducible refine zad ?_); refine zbx rfl hO rfl rfl ?_; (first | (refine nm 0 rfl ?_; clear hO; intro b0 u hO) | (refine nm 1 rfl ?_; clear hO; intro b1 u hO) | fail); simp only [zL, zK] at hO) | ((with_reducible refine zaa ?_); refine zlf rfl hO rfl _ (by (first | exact at0 | exact at1 | fail)) ?_) | fail)
    go_ret2
    exact ⟨by rw [HP.out]; rfl, hO.below⟩

theorem prt_fdiv (n1 d1 n2 d2 : Int) : Int.fdiv (prt n1 d1 n2 d2).1 (prt n1 d1 n2 d2).2 = Int.fdiv (n1 * d2) (n2 * d1) := by
  unfold prt
  split
  · exact fdiv_neg_neg _ _
  · rfl

theorem prt_pos {n1 d1 n2 d2 : Int} (h : n2 * d1 ≠ 0) : 1 ≤ (prt n1 d1 n2 d2).2 := by
  unfold prt
  split
  · show 1 ≤ -(n2 * d1); omega
  · show 1 ≤ n2 * d1; omega

theorem prt_bd {n1 d1 n2 d2 : Int} (h1 : -999999998000000001 ≤ n1 * d2 ∧ n1 * d2 ≤ 999999998000000001) (h2 : -999999998000000001 ≤ n2 * d1 ∧ n2 * d1 ≤ 999999998000000001) :
    -999999998000000001 ≤ (prt n1 d1 n2 d2).1 ∧ (prt n1 d1 n2 d2).1 ≤ 999999998000000001 ∧ (prt n1 d1 n2 d2).2 ≤ 999999998000000001 := by
  unfold prt
  split
  · exact ⟨by show _ ≤ -(n1 * d2); omega, by show -(n1 * d2) ≤ _; omega, by show -(n2 * d1) ≤ _; omega⟩
  · exact ⟨h1.1, h1.2, h2.2⟩

theorem spec_quot (n1 d1 n2 d2 : Int) (t1 t2 : ByteArray) (w : World) :
    Calls Tryz.prog 80 #[.agg #[.int .i64 n1, .int .i64 d1, .string t1], .agg #[.int .i64 n2, .int .i64 d2, .string t2]] w fun e w' =>
      e = .returned (.agg #[.int .i64 (quotI n1 d1 t1 n2 d2 t2).1, .int .i64 (quotI n1 d1 t1 n2 d2 t2).2, .string ⟨#[]⟩]) ∧ Below w.heap.size w w' := by
  cases h1 : zas n1 d1 t1
  · have HM := Lib.hid (show quotI n1 d1 t1 n2 d2 t2 = (0, 0) from op2_no1 h1)
    go_enter Tryz.func80, Tryz.ntmps80
    have hO := Own.nil w
    go_wp2_with (first | ((with_reducible refine zac ?_); refine zal rfl hO rfl ?_; (refine nm 2 rfl ?_; clear hO; intro b2 u hO); simp only [zL, zK] at hO) | ((with_reducible refine zad ?_); refine zbx rfl hO rfl rfl ?_; (first | (refine nm 0 rfl ?_; clear hO; intro b0 u hO) | (refine nm 1 rfl ?_; clear hO; intro b1 u hO) | fail); simp only [zL, zK] at hO) | ((with_reducible refine zaa ?_); refine zlb rfl hO rfl _ (by exact at0) ?_) | fail)
    refine (zam _ _ _ _).mono ?_
    rintro e u ⟨rfl, hb⟩
    (replace hO := hO.step hb; clear hb)
    rw [h1]
    go_wp2_with (first | ((with_reducible refine zab ?_); refine zsb rfl hO rfl _ (by exact at2) rfl ?_; clear hO; intro u hO; simp only [zC, zB] at hO) | fail)
    exact zan rfl hO rfl 2 rfl rfl rfl ⟨zar HM.out, hO.below⟩
  · cases h2 : zas n2 d2 t2
    · have HM := Lib.hid (show quotI n1 d1 t1 n2 d2 t2 = (0, 0) from zbl h2)
      go_enter Tryz.func80, Tryz.ntmps80
      have hO := Own.nil w
      go_wp2_with (first | ((with_reducible refine zac ?_); refine zal rfl hO rfl ?_; (refine nm 2 rfl ?_; clear hO; intro b2 u hO); simp only [zL, zK] at hO) | ((with_reducible refine zad ?_); refine zbx rfl hO rfl rfl ?_; (first | (refine nm 0 rfl ?_; clear hO; intro b0 u hO) | (refine nm 1 rfl ?_; clear hO; intro b1 u hO) | fail); simp only [zL, zK] at hO) | ((with_reducible refine zaa ?_); refine zlb rfl hO rfl _ (by exact at0) ?_) | fail)
      refine (zam _ _ _ _).mono ?_
      rintro e u ⟨rfl, hb⟩
      (replace hO := hO.step hb; clear hb)
      rw [h1]
      go_wp2_with (first | ((with_reducible refine zaa ?_); refine zlb rfl hO rfl _ (by exact at1) ?_) | fail)
      refine (zam _ _ _ _).mono ?_
      rintro e u ⟨rfl, hb⟩
      (replace hO := hO.step hb; clear hb)
      rw [h2]
      go_wp2_with (first | ((with_reducible refine zab ?_); refine zsb rfl hO rfl _ (by exact at2) rfl ?_; clear hO; intro u hO; simp only [zC, zB] at hO) | fail)
      exact zan rfl hO rfl 2 rfl rfl rfl ⟨zar HM.out, hO.below⟩
    · have hyes := op2_yes (r := quotV n1 d1 n2 d2) h1 h2
      obtain ⟨a1, a2, a3, a4⟩ := zaz h1
      obtain ⟨b1, b2, b3, b4⟩ := zaz h2
      obtain ⟨m1, m2⟩ := zax (a := n1) (b := d2) (by omega) (by omega)
      obtain ⟨m3, m4⟩ := zax (a := n2) (b := d1) (by omega) (by omega)
      obtain ⟨m5, m6⟩ := zax (a := d1) (b := d2) (by omega) (by omega)
      obtain ⟨m9, m10⟩ := zax (a := d1) (b := n2) (by omega) (by omega)
      by_cases hz : n2 = 0
      · have HM := Lib.hid (show quotI n1 d1 t1 n2 d2 t2 = (0, 0) from hyes.trans (if_pos hz))
        have hzb : (n2 == 0) = true := by simp [hz]
        have HZ := Lib.hid hz
        clear hz hyes
        go_enter Tryz.func80, Tryz.ntmps80
        have hO := Own.nil w
        go_wp2_with (first | ((with_reducible refine zac ?_); refine zal rfl hO rfl ?_; (refine nm 2 rfl ?_; clear hO; intro b2 u hO); simp only [zL, zK] at hO) | ((with_reducible refine zad ?_); refine zbx rfl hO rfl rfl ?_; (first | (refine nm 0 rfl ?_; clear hO; intro b0 u hO) | (refine nm 1 rfl ?_; clear hO; intro b1 u hO) | fail); simp only [zL, zK] at hO) | ((with_reducible refine zaa ?_); refine zlb rfl hO rfl _ (by exact at0) ?_) | fail)
        refine (zam _ _ _ _).mono ?_
        rintro e u ⟨rfl, hb⟩
        (replace hO := hO.step hb; clear hb)
        rw [h1]
        go_wp2_with (first | ((with_reducible refine zaa ?_); refine zlb rfl hO rfl _ (by exact at1) ?_) | fail)
        refine (zam _ _ _ _).mono ?_
        rintro e u ⟨rfl, hb⟩
        (replace hO := hO.step hb; clear hb)
        rw [h2]
        go_wp2_with (first | ((with_reducible refine zaa ?_); refine zlf rfl hO rfl _ (by exact at1) ?_) | ((with_reducible refine zab ?_); refine zsb rfl hO rfl _ (by exact at2) rfl ?_; clear hO; intro u hO; simp only [zC, zB] at hO) | fail)
        exact zan rfl hO rfl 2 rfl rfl rfl ⟨zar HM.out, hO.below⟩
      · have HM := Lib.hid (show quotI n1 d1 t1 n2 d2 t2 = _ from hyes.trans (if_neg hz))
        have hzb : (n2 == 0) = false := by simp [hz]
        clear hyes
        go_enter Tryz.func80, Tryz.ntmps80
        have hO := Own.nil w
        go_wp2_with (first | ((with_reducible refine zac ?_); refine zal rfl hO rfl ?_; (refine nm 2 rfl ?_; clear hO; intro b2 u hO); simp only [zL, zK] at hO) | ((with_reducible refine zad ?_); refine zbx rfl hO rfl rfl ?_; (first | (refine nm 0 rfl ?_; clear hO; intro b0 u hO) | (refine nm 1 rfl ?_; clear hO; intro b1 u hO) | fail); simp only [zL, zK] at hO) | ((with_reducible refine zaa ?_); refine zlb rfl hO rfl _ (by exact at0) ?_) | fail)
        refine (zam _ _ _ _).mono ?_
        rintro e u ⟨rfl, hb⟩
        (replace hO := hO.step hb; clear hb)
        rw [h1]
        go_wp2_with (first | ((with_reducible refine zaa ?_); refine zlb rfl hO rfl _ (by exact at1) ?_) | fail)
        refine (zam _ _ _ _).mono ?_
        rintro e u ⟨rfl, hb⟩
        (replace hO := hO.step hb; clear hb)
        rw [h2]
        go_wp2_with (first | ((with_reducible refine zaa ?_); refine zlb rfl hO rfl _ (by (first | exact at0 | exact at1 | fail)) ?_) | ((with_reducible refine zaa ?_); refine zlf rfl hO rfl _ (by exact at1) ?_) | fail)
        have hne : n2 * d1 ≠ 0 := Int.mul_ne_zero hz (by omega)
        have hp1 := prt_pos (n1 := n1) (d2 := d2) hne
        obtain ⟨hp2, hp3, hp4⟩ := prt_bd (n1 := n1) (d1 := d1) (n2 := n2) (d2 := d2) ⟨m1, m2⟩ ⟨m3, m4⟩
        have hfd := prt_fdiv n1 d1 n2 d2
        rw [Int.mul_comm n2 d1] at hfd
        have hf := fdiv_bdG (n1 * d2) (d1 * n2) (by omega)
        obtain ⟨v, hv⟩ : ∃ v, v = Int.fdiv (n1 * d2) (d1 * n2) := ⟨_, rfl⟩
        rw [← hv] at HM hf hfd
        clear hv
        obtain ⟨f1, f2⟩ := hf
        refine (spec_parts _ _ _ _ _ _ _ (by omega) (by omega)).mono ?_
        rintro e u ⟨rfl, hb⟩
        (replace hO := hO.step hb; clear hb)
        generalize (prt n1 d1 n2 d2).1 = pp at *
        generalize (prt n1 d1 n2 d2).2 = ps at *
        have HF := Lib.hid hfd
        clear hfd
        go_wp2_with fail
        refine (spec_floor _ _ _ (by omega) (by omega) (by omega)).mono ?_
        rintro e u ⟨rfl, hb⟩
        (replace hO := hO.step hb; clear hb)
        rw [HF.out]
        go_wp2_with fail
        refine (spec_make v 1 _ (by omega) (by omega)).mono ?_
        rintro e u ⟨rfl, hb⟩
        (replace hO := hO.step hb; clear hb)
        go_wp2_with (first | ((with_reducible refine zab ?_); refine zsb rfl hO rfl _ (by exact at2) rfl ?_; clear hO; intro u hO; simp only [zC, zB] at hO) | fail)
        exact zan rfl hO rfl 2 rfl rfl rfl ⟨zar HM.out, hO.below⟩

end Go.Proofs.YtmofcbpabdbjlaaGreat
