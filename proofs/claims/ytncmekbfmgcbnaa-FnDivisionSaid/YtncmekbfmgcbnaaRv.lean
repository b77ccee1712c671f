/-
  What is proved: plain facts on the rational value of numbers as MakeNumber makes them; no program in sight.
  No condition.
-/
import Derived.Test.YtncmekbfmgcbnaaNum
namespace Go.Proofs.Ytncmekbfmgcbnaa.Nm
set_option linter.unusedVariables false
set_option linter.unusedSimpArgs false

/-- the value of a fraction -/
def rv (p : Int × Int) : Rat := (p.1 : Rat) / (p.2 : Rat)

theorem castne {d : Int} (h : d ≠ 0) : (d : Rat) ≠ 0 := fun e => h (Rat.intCast_inj.1 (by simpa using e))

theorem isNum_facts {n d : Int} (h : isNum n d = true) : 1 ≤ d ∧ d ≤ 999999999 ∧ -999999999 ≤ n ∧ n ≤ 999999999 ∧ Int.gcd n d = 1 := of_decide_eq_true h

theorem mk_ok {n d : Int} (h : (mk n d).2 ≠ 0) : d ≠ 0 ∧ isNum (mk n d).1 (mk n d).2 = true ∧ (mk n d).1 * d = n * (mk n d).2 := by
  unfold mk at h ⊢
  by_cases h1 : d = 0 ∨ inL n = false ∨ inL d = false
  · rw [if_pos h1] at h; simp at h
  · rw [if_neg h1] at h ⊢
    have hd : d ≠ 0 := fun e => h1 (.inl e)
    by_cases h2 : inM (red n d) = true
    · rw [if_pos h2]
      have h3 := of_decide_eq_true h2
      have h4 := red_pos n d hd
      exact ⟨hd, decide_eq_true ⟨h4, h3.2.2, h3.1, h3.2.1, red_gcd n d hd⟩, red_cross n d hd⟩
    · rw [if_neg h2] at h; simp at h

theorem mk_val {n d : Int} (h : (mk n d).2 ≠ 0) : rv (mk n d) = (n : Rat) / (d : Rat) := by
  obtain ⟨hd, hn, hc⟩ := mk_ok h
  have h1 := castne hd
  have h2 := castne h
  have h3 : ((mk n d).1 : Rat) * (d : Rat) = (n : Rat) * ((mk n d).2 : Rat) := by
    rw [← Rat.intCast_mul, ← Rat.intCast_mul, hc]
  unfold rv
  grind

theorem val_inj {p q : Int × Int} (hp : isNum p.1 p.2 = true) (hq : isNum q.1 q.2 = true) (h : rv p = rv q) : p = q := by
  obtain ⟨p1, p2⟩ := p
  obtain ⟨q1, q2⟩ := q
  obtain ⟨a1, a2, a3, a4, a5⟩ := isNum_facts hp
  obtain ⟨b1, b2, b3, b4, b5⟩ := isNum_facts hq
  simp only [rv] at h
  simp only at a1 a2 a3 a4 a5 b1 b2 b3 b4 b5
  have h1 := castne (d := p2) (by omega)
  have h2 := castne (d := q2) (by omega)
  have h3 : (p1 : Rat) * (q2 : Rat) = (q1 : Rat) * (p2 : Rat) := by grind
  have h4 : p1 * q2 = q1 * p2 := by
    rw [← Rat.intCast_mul, ← Rat.intCast_mul] at h3
    exact Rat.intCast_inj.1 h3
  have d1 : p2 ∣ q2 := by
    have : p2 ∣ p1 * q2 := ⟨q1, by rw [h4, Int.mul_comm]⟩
    have h5 := Int.dvd_gcd_mul_iff_dvd_mul.2 this
    rw [Int.gcd_comm, a5] at h5
    simpa using h5
  have d2 : q2 ∣ p2 := by
    have : q2 ∣ q1 * p2 := ⟨p1, by rw [← h4, Int.mul_comm]⟩
    have h5 := Int.dvd_gcd_mul_iff_dvd_mul.2 this
    rw [Int.gcd_comm, b5] at h5
    simpa using h5
  have e1 := Int.le_of_dvd (by omega) d1
  have e2 := Int.le_of_dvd (by omega) d2
  have e : p2 = q2 := by omega
  subst e
  have : p1 = q1 := Int.eq_of_mul_eq_mul_right (by omega) h4
  rw [this]

end Go.Proofs.Ytncmekbfmgcbnaa.Nm
