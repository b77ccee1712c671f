/-
  What is proved: plain laws on quotients, remainders, floors and rounded numbers.
  Condition: none.
-/
import Derived.Test.YtncmekbfmgcbnaaRvB
namespace Go.Proofs.Ytncmekbfmgcbnaa
open Nm
set_option linter.unusedVariables false
set_option linter.unusedSimpArgs false

theorem mk_one {F : Int} (h : (Nm.mk F 1).2 ≠ 0) : Nm.mk F 1 = (F, 1) := by
  have e1 : Nm.gcdI F 1 = 1 := by simp [Nm.gcdI]
  have e2 : Nm.red F 1 = (F, 1) := by unfold Nm.red; rw [e1, if_neg (by omega)]; simp
  unfold Nm.mk at h ⊢
  by_cases h1 : (1 : Int) = 0 ∨ Nm.inL F = false ∨ Nm.inL 1 = false
  · rw [if_pos h1] at h; simp at h
  · rw [if_neg h1] at h ⊢
    by_cases h2 : Nm.inM (Nm.red F 1) = true
    · rw [if_pos h2, e2]
    · rw [if_neg h2] at h; simp at h

theorem quot_ok {n1 d1 : Int} {t1 : ByteArray} {n2 d2 : Int} {t2 : ByteArray} (h : (quotI n1 d1 t1 n2 d2 t2).2 ≠ 0) :
    isNumT n1 d1 t1 = true ∧ isNumT n2 d2 t2 = true ∧ n2 ≠ 0 ∧ quotI n1 d1 t1 n2 d2 t2 = (Int.fdiv (n1 * d2) (n2 * d1), 1) := by
  unfold quotI at h ⊢
  obtain ⟨h1, h2, h3, h4⟩ := op2_ok h
  rw [h3]
  unfold quotV at h4 ⊢
  by_cases h0 : n2 = 0
  · rw [if_pos h0] at h4; simp at h4
  · rw [if_neg h0] at h4 ⊢
    rw [Int.mul_comm d1 n2] at h4 ⊢
    exact ⟨h1, h2, h0, mk_one h4⟩

theorem rem_ok {n1 d1 : Int} {t1 : ByteArray} {n2 d2 : Int} {t2 : ByteArray} {r : Int × Int} (hr : remI n1 d1 t1 n2 d2 t2 = r) (h : r.2 ≠ 0) :
    isNumT n1 d1 t1 = true ∧ isNumT n2 d2 t2 = true ∧ n2 ≠ 0 ∧ Nm.isNum r.1 r.2 = true ∧ r.1 * (d1 * d2) = Int.fmod (n1 * d2) (n2 * d1) * r.2 := by
  subst hr
  unfold remI at h ⊢
  obtain ⟨h1, h2, h3, h4⟩ := op2_ok h
  rw [h3]
  unfold remV at h4 ⊢
  by_cases h0 : n2 = 0
  · rw [if_pos h0] at h4; simp at h4
  · rw [if_neg h0] at h4 ⊢
    rw [← Int.fmod_def] at h4 ⊢
    obtain ⟨_, q2, q3⟩ := mk_ok h4
    exact ⟨h1, h2, h0, q2, q3⟩

/-- divisor times quotient, and the remainder -/
theorem div_law1 (x1 x2 : Int) (xt : ByteArray) (y1 y2 : Int) (yt : ByteArray) {q r m z : Int × Int} (hq : quotI x1 x2 xt y1 y2 yt = q) (hr : remI x1 x2 xt y1 y2 yt = r) (hm : mulI q.1 q.2 ⟨#[]⟩ y1 y2 yt = m) (hz : addI m.1 m.2 ⟨#[]⟩ r.1 r.2 ⟨#[]⟩ = z) : z.2 = 0 ∨ (z = (x1, x2) ∧ xt = ⟨#[]⟩) := by
  subst hz
  rcases eq_zero_or (addI m.1 m.2 ⟨#[]⟩ r.1 r.2 ⟨#[]⟩) with h | h1
  · exact .inl h
  right
  obtain ⟨p1, p2, p3, p4⟩ := add_ok h1
  have f1 := num_den p1
  have f2 := num_den p2
  obtain ⟨r1, r2, r0, r3, r4⟩ := rem_ok hr f2
  subst hm
  obtain ⟨m1, m2, m3, m4⟩ := mul_ok f1
  have f3 := num_den m1
  subst hq
  obtain ⟨q1, q2, q0, q3⟩ := quot_ok f3
  refine ⟨val_inj p3 (isNumT_num r1) ?_, isNumT_text r1⟩
  rw [p4, show rv ((mulI (quotI x1 x2 xt y1 y2 yt).1 (quotI x1 x2 xt y1 y2 yt).2 ⟨#[]⟩ y1 y2 yt).1, (mulI (quotI x1 x2 xt y1 y2 yt).1 (quotI x1 x2 xt y1 y2 yt).2 ⟨#[]⟩ y1 y2 yt).2) = rv (mulI (quotI x1 x2 xt y1 y2 yt).1 (quotI x1 x2 xt y1 y2 yt).2 ⟨#[]⟩ y1 y2 yt) from rfl, m4, q3]
  have e : Int.fmod (x1 * y2) (y1 * x2) = x1 * y2 - y1 * x2 * Int.fdiv (x1 * y2) (y1 * x2) := Int.fmod_def _ _
  rw [e] at r4
  generalize Int.fdiv (x1 * y2) (y1 * x2) = F at *
  have c1 := castne (num_den r1)
  have c2 := castne (num_den r2)
  have c3 := castne f2
  have r5 : (r.1 : Rat) * ((x2 : Rat) * (y2 : Rat)) = ((x1 : Rat) * (y2 : Rat) - (y1 : Rat) * (x2 : Rat) * (F : Rat)) * (r.2 : Rat) := by
    rw [← Rat.intCast_mul, ← Rat.intCast_mul, ← Rat.intCast_mul, ← Rat.intCast_mul, ← Rat.intCast_mul, ← Rat.intCast_sub, ← Rat.intCast_mul, r4]
  simp only [rv]
  rw [show ((1 : Int) : Rat) = 1 from rfl]
  grind

theorem fmod_sign (a b : Int) (hb : b ≠ 0) : (0 < b → 0 ≤ Int.fmod a b ∧ Int.fmod a b < b) ∧ (b < 0 → Int.fmod a b ≤ 0 ∧ b < Int.fmod a b) := by
  refine ⟨fun h => ⟨Int.fmod_nonneg_of_pos a h, Int.fmod_lt_of_pos a h⟩, fun h => ?_⟩
  have e1 := Int.fmod_nonneg_of_pos (-a) (b := -b) (by omega)
  have e2 := Int.fmod_lt_of_pos (-a) (b := -b) (by omega)
  rw [Int.neg_fmod_neg] at e1 e2
  omega

theorem pos_mul {a b : Int} (ha : 0 < a) (hb : 0 < b) : 0 < a * b := Int.mul_pos ha hb

/-- the remainder has the divisor's sign -/
theorem div_law2 (x1 x2 : Int) (xt : ByteArray) (y1 y2 : Int) (yt : ByteArray) {r : Int × Int} (hr : remI x1 x2 xt y1 y2 yt = r) : r.2 = 0 ∨ r.1 = 0 ∨ (r.1 < 0 ∧ y1 < 0) ∨ (¬ r.1 < 0 ∧ ¬ y1 < 0) := by
  rcases eq_zero_or r with h | h
  · exact .inl h
  right
  obtain ⟨r1, r2, r0, r3, r4⟩ := rem_ok hr h
  obtain ⟨a1, _⟩ := Nm.isNum_facts (isNumT_num r1)
  obtain ⟨b1, _⟩ := Nm.isNum_facts (isNumT_num r2)
  obtain ⟨c1, _⟩ := Nm.isNum_facts r3
  have hD := pos_mul (a := x2) (b := y2) (by omega) (by omega)
  rcases Int.lt_trichotomy y1 0 with hy | hy | hy
  · have hb : y1 * x2 < 0 := Int.mul_neg_of_neg_of_pos hy (by omega)
    have := ((fmod_sign (x1 * y2) (y1 * x2) (by omega)).2 hb).1
    by_cases h0 : r.1 < 0
    · exact .inr (.inl ⟨h0, hy⟩)
    · left
      have h5 : Int.fmod (x1 * y2) (y1 * x2) * r.2 ≤ 0 := Int.mul_nonpos_of_nonpos_of_nonneg this (by omega)
      rw [← r4] at h5
      rcases Int.lt_trichotomy r.1 0 with g | g | g
      · exact absurd g h0
      · exact g
      · have := pos_mul g hD; omega
  · exact absurd hy r0
  · have hb : 0 < y1 * x2 := pos_mul hy (by omega)
    have := ((fmod_sign (x1 * y2) (y1 * x2) (by omega)).1 hb).1
    right; right
    refine ⟨fun g => ?_, by omega⟩
    have h5 : 0 ≤ Int.fmod (x1 * y2) (y1 * x2) * r.2 := Int.mul_nonneg this (by omega)
    rw [← r4] at h5
    have := Int.mul_neg_of_neg_of_pos g hD
    omega

theorem sq_le {a b : Int} (h : (0 ≤ a ∧ a ≤ b) ∨ (b ≤ a ∧ a ≤ 0)) : a * a ≤ b * b := by
  rcases h with ⟨h1, h2⟩ | ⟨h1, h2⟩
  · exact Int.mul_le_mul h2 h2 h1 (by omega)
  · have h3 := Int.mul_le_mul (a := -a) (b := -a) (c := -b) (d := -b) (by omega) (by omega) (by omega) (by omega)
    rw [Int.neg_mul_neg, Int.neg_mul_neg] at h3
    exact h3

/-- the remainder is not larger than the divisor -/
theorem div_law3 (x1 x2 : Int) (xt : ByteArray) (y1 y2 : Int) (yt : ByteArray) {r m k : Int × Int} {c : Int} (hr : remI x1 x2 xt y1 y2 yt = r) (hm : mulI r.1 r.2 ⟨#[]⟩ r.1 r.2 ⟨#[]⟩ = m) (hk : mulI y1 y2 yt y1 y2 yt = k) (hc : cmpI m.1 m.2 ⟨#[]⟩ k.1 k.2 ⟨#[]⟩ = c) : r.2 = 0 ∨ (c == 1) = false := by
  rcases eq_zero_or r with h | h
  · exact .inl h
  right
  obtain ⟨r1, r2, r0, r3, r4⟩ := rem_ok hr h
  subst hc
  unfold cmpI
  cases hb : (isNumT m.1 m.2 ⟨#[]⟩ && isNumT k.1 k.2 ⟨#[]⟩)
  · rfl
  · simp only [if_true]
    simp only [Bool.and_eq_true] at hb
    obtain ⟨g1, g2⟩ := hb
    have f1 := num_den g1
    have f2 := num_den g2
    by_cases hlt : m.1 * k.2 < k.1 * m.2
    · rw [if_pos hlt]; rfl
    · rw [if_neg hlt]
      have hge : ¬ k.1 * m.2 < m.1 * k.2 := by
        obtain ⟨a1, _⟩ := Nm.isNum_facts (isNumT_num r1)
        obtain ⟨b1, _⟩ := Nm.isNum_facts (isNumT_num r2)
        obtain ⟨c1, _⟩ := Nm.isNum_facts r3
        obtain ⟨m1, _⟩ := Nm.isNum_facts (isNumT_num g1)
        obtain ⟨k1, _⟩ := Nm.isNum_facts (isNumT_num g2)
        have hD := pos_mul (a := x2) (b := y2) (by omega) (by omega)
        have em : m.1 * (r.2 * r.2) = r.1 * r.1 * m.2 := by
          rw [← hm] at f1 ⊢
          unfold mulI at f1 ⊢
          obtain ⟨_, _, u3, u4⟩ := op2_ok f1
          rw [u3]
          exact (mk_ok u4).2.2
        have ek : k.1 * (y2 * y2) = y1 * y1 * k.2 := by
          rw [← hk] at f2 ⊢
          unfold mulI at f2 ⊢
          obtain ⟨_, _, u3, u4⟩ := op2_ok f2
          rw [u3]
          exact (mk_ok u4).2.2
        have hN : Int.fmod (x1 * y2) (y1 * x2) * Int.fmod (x1 * y2) (y1 * x2) ≤ (y1 * x2) * (y1 * x2) := by
          have hb : y1 * x2 ≠ 0 := Int.mul_ne_zero r0 (by omega)
          have := fmod_sign (x1 * y2) (y1 * x2) hb
          rcases Int.lt_trichotomy (y1 * x2) 0 with g | g | g
          · have := this.2 g
            exact sq_le (.inr ⟨by omega, by omega⟩)
          · exact absurd g hb
          · have := this.1 g
            exact sq_le (.inl ⟨by omega, by omega⟩)
        generalize Int.fmod (x1 * y2) (y1 * x2) = N at *
        have e1 : m.1 * ((x2 * y2) * (x2 * y2)) = m.2 * (N * N) := by
          have hr2 : r.2 * r.2 ≠ 0 := Int.mul_ne_zero (by omega) (by omega)
          refine Int.eq_of_mul_eq_mul_right hr2 ?_
          grind
        have e2 : k.1 * ((x2 * y2) * (x2 * y2)) = k.2 * ((y1 * x2) * (y1 * x2)) := by grind
        intro hlt2
        have hDD := pos_mul hD hD
        have h1 : m.1 * k.2 * ((x2 * y2) * (x2 * y2)) = m.2 * k.2 * (N * N) := by grind
        have h2 : k.1 * m.2 * ((x2 * y2) * (x2 * y2)) = m.2 * k.2 * ((y1 * x2) * (y1 * x2)) := by grind
        have h3 : m.2 * k.2 * (N * N) ≤ m.2 * k.2 * ((y1 * x2) * (y1 * x2)) := Int.mul_le_mul_of_nonneg_left hN (Int.mul_nonneg (by omega) (by omega))
        have h4 := Int.mul_lt_mul_of_pos_right hlt2 hDD
        omega
      rw [if_neg hge]; rfl

theorem frac_lo {h1 h2 N d : Int} (hd : 0 < d) (h2p : 0 < h2) (e : h1 * d = N * h2) (hN : 0 ≤ N ∧ N < d) : 0 ≤ h1 ∧ h1 < h2 := by
  constructor
  · have := Int.mul_nonneg hN.1 (show 0 ≤ h2 by omega)
    rw [← e] at this
    exact Int.nonneg_of_mul_nonneg_left this hd
  · have := Int.mul_lt_mul_of_pos_right hN.2 h2p
    rw [← e, Int.mul_comm d h2] at this
    exact Int.lt_of_mul_lt_mul_right this (by omega)

theorem sub_ok {x1 x2 : Int} {xt : ByteArray} {F : Int} {f h : Int × Int} (hf : op1 x1 x2 xt (Nm.mk F 1) = f) (hh : subI x1 x2 xt f.1 f.2 ⟨#[]⟩ = h) (h0 : h.2 ≠ 0) : isNumT x1 x2 xt = true ∧ 0 < x2 ∧ 0 < h.2 ∧ Nm.isNum h.1 h.2 = true ∧ h.1 * x2 = (x1 - F * x2) * h.2 := by
  subst hh
  unfold subI at h0 ⊢
  obtain ⟨p1, p2, p3, p4⟩ := add_ok h0
  have f1 := num_den p2
  obtain ⟨q1, q2⟩ := neg_ok f1
  have f2 := num_den q1
  subst hf
  obtain ⟨o1, o2, o3⟩ := op1_ok f2
  have e := mk_one o3
  rw [o2, e] at q2
  have e2 : (negI (op1 x1 x2 xt (mk F 1)).1 (op1 x1 x2 xt (mk F 1)).2 ⟨#[]⟩) = (-F, 1) := by rw [o2, e]; exact q2
  rw [e2] at h0 p2 p3 ⊢
  obtain ⟨a1, _⟩ := Nm.isNum_facts (isNumT_num p1)
  obtain ⟨b1, _⟩ := Nm.isNum_facts p3
  refine ⟨p1, by omega, by omega, p3, ?_⟩
  unfold addI at h0 ⊢
  obtain ⟨_, _, u3, u4⟩ := op2_ok h0
  rw [u3]
  have := (mk_ok u4).2.2
  grind

/-- a floor is near -/
theorem div_law4 (x1 x2 : Int) (xt : ByteArray) {f h : Int × Int} (hf : floorI x1 x2 xt = f) (hh : subI x1 x2 xt f.1 f.2 ⟨#[]⟩ = h) : h.2 = 0 ∨ ((h.2 == 0) = false ∧ 0 ≤ h.1 ∧ h.1 < h.2 ∧ h.2 ≤ 999999999) := by
  rcases eq_zero_or h with g | g
  · exact .inl g
  right
  obtain ⟨p1, p2, p3, p4, p5⟩ := sub_ok hf hh g
  obtain ⟨b1, b2, _⟩ := Nm.isNum_facts p4
  have h1 := Int.fmod_nonneg_of_pos x1 p2
  have h2 := Int.fmod_lt_of_pos x1 p2
  rw [Int.fmod_def, Int.mul_comm] at h1 h2
  have := frac_lo p2 p3 p5 ⟨h1, h2⟩
  exact ⟨by simp; omega, this.1, this.2, b2⟩

/-- a rounded number is near -/
theorem div_law5 (x1 x2 : Int) (xt : ByteArray) {f h : Int × Int} (hf : roundI x1 x2 xt = f) (hh : subI x1 x2 xt f.1 f.2 ⟨#[]⟩ = h) : h.2 = 0 ∨ ((h.2 == 0) = false ∧ -h.2 ≤ 2 * h.1 ∧ 2 * h.1 < h.2 ∧ h.2 ≤ 999999999 ∧ -999999999 ≤ h.1 ∧ h.1 ≤ 999999999) := by
  rcases eq_zero_or h with g | g
  · exact .inl g
  right
  obtain ⟨p1, p2, p3, p4, p5⟩ := sub_ok hf hh g
  obtain ⟨b1, b2, b3, b4, _⟩ := Nm.isNum_facts p4
  have h1 := Int.fmod_nonneg_of_pos (2 * x1 + x2) (b := 2 * x2) (by omega)
  have h2 := Int.fmod_lt_of_pos (2 * x1 + x2) (b := 2 * x2) (by omega)
  rw [Int.fmod_def] at h1 h2
  generalize Int.fdiv (2 * x1 + x2) (2 * x2) = G at *
  have e : (2 * h.1 + h.2) * x2 = (2 * x1 + x2 - 2 * x2 * G) * h.2 := by grind
  have h3 : 0 ≤ 2 * h.1 + h.2 := by
    have := Int.mul_nonneg h1 (show 0 ≤ h.2 by omega)
    rw [← e] at this
    exact Int.nonneg_of_mul_nonneg_left this p2
  have h4 : 2 * h.1 + h.2 < 2 * h.2 := by
    have := Int.mul_lt_mul_of_pos_right h2 p3
    rw [← e, show 2 * x2 * h.2 = (2 * h.2) * x2 by grind] at this
    exact Int.lt_of_mul_lt_mul_right this (by omega)
  exact ⟨by simp; omega, by omega, by omega, b2, b3, b4⟩

end Go.Proofs.Ytncmekbfmgcbnaa
