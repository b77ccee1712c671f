/-
  What is proved: plain facts on fractions of integers in lowest terms (greatest common divisors, reducing, floors); no program in sight.
  No condition.
-/
import Init
namespace Go.Proofs.Ytmofcbpabdbjlaa.Nm
set_option maxRecDepth 8000

/-- the greatest common divisor of two integers, as an integer -/
def gcdI (a b : Int) : Int := (Int.gcd a b : Int)

/-- numerator and denominator are those of a number -/
def isNum (n d : Int) : Bool := decide (1 ≤ d ∧ d ≤ 999999999 ∧ -999999999 ≤ n ∧ n ≤ 999999999 ∧ Int.gcd n d = 1)

/-- n / d in lowest terms, with a positive denominator -/
def red (n d : Int) : Int × Int := if d < 0 then ((-n) / gcdI n d, (-d) / gcdI n d) else (n / gcdI n d, d / gcdI n d)

def inL (n : Int) : Bool := decide (-4000000000000000000 ≤ n ∧ n ≤ 4000000000000000000)
def inM (r : Int × Int) : Bool := decide (-999999999 ≤ r.1 ∧ r.1 ≤ 999999999 ∧ r.2 ≤ 999999999)

/-- what MakeNumber makes: (0, 0) stands for the missing value -/
def mk (n d : Int) : Int × Int := if d = 0 ∨ inL n = false ∨ inL d = false then (0, 0) else if inM (red n d) then red n d else (0, 0)

theorem gcdI_pos (n d : Int) (h : d ≠ 0) : 0 < gcdI n d := by
  unfold gcdI
  have : 0 < Int.gcd n d := Int.gcd_pos_of_ne_zero_right n h
  omega

theorem gcdI_dvd_left (n d : Int) : gcdI n d ∣ n := Int.gcd_dvd_left n d

theorem gcdI_dvd_right (n d : Int) : gcdI n d ∣ d := Int.gcd_dvd_right n d

theorem quo_pos {g e : Int} (hp : 0 < g) (he : 0 < e) (hd : g ∣ e) : 1 ≤ e / g := by
  obtain ⟨k, rfl⟩ := hd
  rw [Int.mul_ediv_cancel_left _ (by omega)]
  rcases Int.lt_trichotomy k 0 with hk | hk | hk
  · have := Int.mul_neg_of_pos_of_neg hp hk; omega
  · subst hk; simp at he
  · omega

theorem red_pos (n d : Int) (h : d ≠ 0) : 1 ≤ (red n d).2 := by
  have hp := gcdI_pos n d h
  unfold red
  split
  · exact quo_pos hp (by omega) (Int.dvd_neg.2 (gcdI_dvd_right n d))
  · exact quo_pos hp (by omega) (gcdI_dvd_right n d)

theorem red_gcd (n d : Int) (h : d ≠ 0) : Int.gcd (red n d).1 (red n d).2 = 1 := by
  have hg : 0 < Int.gcd n d := Int.gcd_pos_of_ne_zero_right n h
  unfold red
  split
  · simp only [gcdI]
    have := Int.gcd_ediv_gcd_ediv_gcd (i := -n) (j := -d) (by simpa using hg)
    simpa using this
  · simp only [gcdI]
    exact Int.gcd_ediv_gcd_ediv_gcd hg

/-- cross multiplication: the reduced fraction is the fraction -/
theorem red_cross (n d : Int) (h : d ≠ 0) : (red n d).1 * d = n * (red n d).2 := by
  have hp := gcdI_pos n d h
  obtain ⟨a, ha⟩ := gcdI_dvd_left n d
  obtain ⟨b, hb⟩ := gcdI_dvd_right n d
  unfold red
  have hne : gcdI n d ≠ 0 := by omega
  have e1 : n / gcdI n d = a := Int.ediv_eq_of_eq_mul_right hne ha
  have e2 : d / gcdI n d = b := Int.ediv_eq_of_eq_mul_right hne hb
  have e3 : (-n) / gcdI n d = -a := Int.ediv_eq_of_eq_mul_right hne (by rw [Int.mul_neg, ← ha])
  have e4 : (-d) / gcdI n d = -b := Int.ediv_eq_of_eq_mul_right hne (by rw [Int.mul_neg, ← hb])
  split
  · simp only [e3, e4]
    clear e1 e2 e3 e4
    generalize gcdI n d = g at *
    subst ha; subst hb
    simp only [Int.mul_neg, Int.neg_mul]
    rw [show a * (g * b) = g * a * b by rw [← Int.mul_assoc, Int.mul_comm a g]]
  · simp only [e1, e2]
    clear e1 e2 e3 e4
    generalize gcdI n d = g at *
    subst ha; subst hb
    rw [← Int.mul_assoc, Int.mul_comm a g]

/-- Go's quotient by the gcd is the exact one -/
theorem tdiv_gcd_left (n d : Int) : n.tdiv (gcdI n d) = n / gcdI n d := by
  obtain ⟨a, ha⟩ := gcdI_dvd_left n d
  by_cases h : gcdI n d = 0
  · rw [h]; simp
  · rw [Int.tdiv_eq_ediv_of_dvd (gcdI_dvd_left n d)]

theorem tdiv_gcd_right (n d : Int) : d.tdiv (gcdI n d) = d / gcdI n d := by
  rw [Int.tdiv_eq_ediv_of_dvd (gcdI_dvd_right n d)]

theorem gcdI_neg (n d : Int) : gcdI (-n) (-d) = gcdI n d := by simp [gcdI]

theorem gcd_step (x y : Nat) : Nat.gcd y (x % y) = Nat.gcd x y := by rw [Nat.gcd_comm x y, Nat.gcd_rec y x, Nat.gcd_comm]

end Go.Proofs.Ytmofcbpabdbjlaa.Nm
