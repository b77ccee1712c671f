/-
  What is proved: the rational values of what the functions on numbers return; the laws of arithmetic on these.
  No condition.
-/
import Derived.Test.YtncmekbfmgcbnaaRv
import Derived.Test.YtncmekbfmgcbnaaArithB
namespace Go.Proofs.Ytncmekbfmgcbnaa
open Nm
set_option linter.unusedVariables false
set_option linter.unusedSimpArgs false

theorem op2_ok {n1 d1 : Int} {t1 : ByteArray} {n2 d2 : Int} {t2 : ByteArray} {r : Int × Int} (h : (op2 n1 d1 t1 n2 d2 t2 r).2 ≠ 0) : isNumT n1 d1 t1 = true ∧ isNumT n2 d2 t2 = true ∧ op2 n1 d1 t1 n2 d2 t2 r = r ∧ r.2 ≠ 0 := by
  unfold op2 at h ⊢
  by_cases h1 : (isNumT n1 d1 t1 && isNumT n2 d2 t2) = true
  · rw [if_pos h1] at h ⊢
    simp only [Bool.and_eq_true] at h1
    exact ⟨h1.1, h1.2, rfl, h⟩
  · rw [if_neg h1] at h; simp at h
theorem op1_ok {n1 d1 : Int} {t1 : ByteArray} {r : Int × Int} (h : (op1 n1 d1 t1 r).2 ≠ 0) : isNumT n1 d1 t1 = true ∧ op1 n1 d1 t1 r = r ∧ r.2 ≠ 0 := by
  unfold op1 at h ⊢
  by_cases h1 : isNumT n1 d1 t1 = true
  · rw [if_pos h1] at h ⊢
    exact ⟨h1, rfl, h⟩
  · rw [if_neg h1] at h; simp at h

theorem isNumT_num {n d : Int} {t : ByteArray} (h : isNumT n d t = true) : Nm.isNum n d = true := by
  unfold isNumT at h
  simp only [Bool.and_eq_true] at h
  exact h.2
theorem isNumT_text {n d : Int} {t : ByteArray} (h : isNumT n d t = true) : t = ⟨#[]⟩ := by
  unfold isNumT at h
  simp only [Bool.and_eq_true] at h
  have := h.1
  rw [List.isEmpty_iff, ByteArray.toList_eq] at this
  exact ByteArray.ext (Array.toList_inj.1 (by simpa using this))
theorem num_den {n d : Int} {t : ByteArray} (h : isNumT n d t = true) : d ≠ 0 := by
  have := (Nm.isNum_facts (isNumT_num h)).1
  omega

/-- a pair is a number or the missing value -/
theorem add_ok {n1 d1 : Int} {t1 : ByteArray} {n2 d2 : Int} {t2 : ByteArray} (h : (addI n1 d1 t1 n2 d2 t2).2 ≠ 0) :
    isNumT n1 d1 t1 = true ∧ isNumT n2 d2 t2 = true ∧ Nm.isNum (addI n1 d1 t1 n2 d2 t2).1 (addI n1 d1 t1 n2 d2 t2).2 = true ∧ rv (addI n1 d1 t1 n2 d2 t2) = rv (n1, d1) + rv (n2, d2) := by
  unfold addI at h ⊢
  obtain ⟨h1, h2, h3, h4⟩ := op2_ok h
  rw [h3]
  have c1 := castne (num_den h1)
  have c2 := castne (num_den h2)
  refine ⟨h1, h2, (mk_ok h4).2.1, ?_⟩
  rw [mk_val h4]
  simp only [rv, Rat.intCast_mul, Rat.intCast_add]
  grind

theorem mul_ok {n1 d1 : Int} {t1 : ByteArray} {n2 d2 : Int} {t2 : ByteArray} (h : (mulI n1 d1 t1 n2 d2 t2).2 ≠ 0) :
    isNumT n1 d1 t1 = true ∧ isNumT n2 d2 t2 = true ∧ Nm.isNum (mulI n1 d1 t1 n2 d2 t2).1 (mulI n1 d1 t1 n2 d2 t2).2 = true ∧ rv (mulI n1 d1 t1 n2 d2 t2) = rv (n1, d1) * rv (n2, d2) := by
  unfold mulI at h ⊢
  obtain ⟨h1, h2, h3, h4⟩ := op2_ok h
  rw [h3]
  have c1 := castne (num_den h1)
  have c2 := castne (num_den h2)
  refine ⟨h1, h2, (mk_ok h4).2.1, ?_⟩
  rw [mk_val h4]
  simp only [rv, Rat.intCast_mul, Rat.intCast_add]
  grind

theorem div_ok {n1 d1 : Int} {t1 : ByteArray} {n2 d2 : Int} {t2 : ByteArray} (h : (divI n1 d1 t1 n2 d2 t2).2 ≠ 0) :
    isNumT n1 d1 t1 = true ∧ isNumT n2 d2 t2 = true ∧ n2 ≠ 0 ∧ Nm.isNum (divI n1 d1 t1 n2 d2 t2).1 (divI n1 d1 t1 n2 d2 t2).2 = true ∧ rv (divI n1 d1 t1 n2 d2 t2) * rv (n2, d2) = rv (n1, d1) := by
  unfold divI at h ⊢
  obtain ⟨h1, h2, h3, h4⟩ := op2_ok h
  rw [h3]
  have c1 := castne (num_den h1)
  have c2 := castne (num_den h2)
  have h5 := (mk_ok h4).1
  have h6 : n2 ≠ 0 := fun e => h5 (by rw [e]; simp)
  have c3 := castne h6
  refine ⟨h1, h2, h6, (mk_ok h4).2.1, ?_⟩
  rw [mk_val h4]
  simp only [rv, Rat.intCast_mul, Rat.intCast_add]
  grind

theorem neg_ok {n1 d1 : Int} {t1 : ByteArray} (h : (negI n1 d1 t1).2 ≠ 0) : isNumT n1 d1 t1 = true ∧ negI n1 d1 t1 = (-n1, d1) := by
  unfold negI at h ⊢
  obtain ⟨h1, h2, h3⟩ := op1_ok h
  exact ⟨h1, h2⟩

theorem isNumT_neg {n d : Int} {t : ByteArray} (h : isNumT n d t = true) : isNumT (-n) d ⟨#[]⟩ = true := by
  obtain ⟨a1, a2, a3, a4, a5⟩ := Nm.isNum_facts (isNumT_num h)
  rw [isNumT_nil]
  exact decide_eq_true ⟨a1, a2, by omega, by omega, by simpa using a5⟩
theorem isNumT_mk {n d : Int} (h : Nm.isNum n d = true) : isNumT n d ⟨#[]⟩ = true := by rw [isNumT_nil]; exact h

/-- a number is not made smaller by a change of sign -/
theorem mk_neg (n d : Int) : Nm.mk (-n) d = (-(Nm.mk n d).1, (Nm.mk n d).2) := by
  have e1 : Nm.gcdI (-n) d = Nm.gcdI n d := by simp [Nm.gcdI]
  have e2 : Nm.inL (-n) = Nm.inL n := by unfold Nm.inL; exact decide_eq_decide.2 (by omega)
  by_cases h1 : d = 0 ∨ Nm.inL n = false ∨ Nm.inL d = false
  · unfold Nm.mk; rw [e2, if_pos h1, if_pos h1]; rfl
  · have hd : d ≠ 0 := fun e => h1 (.inl e)
    have e3 : Nm.red (-n) d = (-(Nm.red n d).1, (Nm.red n d).2) := by
      have p := Nm.gcdI_pos n d hd
      unfold Nm.red
      rw [e1]
      obtain ⟨a, ha⟩ := Nm.gcdI_dvd_left n d
      have hne : Nm.gcdI n d ≠ 0 := by omega
      have q1 : n / Nm.gcdI n d = a := Int.ediv_eq_of_eq_mul_right hne ha
      have q2 : (-n) / Nm.gcdI n d = -a := Int.ediv_eq_of_eq_mul_right hne (by rw [Int.mul_neg, ← ha])
      split <;> simp [q1, q2]
    have e4 : Nm.inM (Nm.red (-n) d) = Nm.inM (Nm.red n d) := by rw [e3]; unfold Nm.inM; exact decide_eq_decide.2 (by simp only; omega)
    unfold Nm.mk
    rw [e2, if_neg h1, if_neg h1, e4]
    split
    · exact e3
    · rfl

theorem add_commI (n1 d1 : Int) (t1 : ByteArray) (n2 d2 : Int) (t2 : ByteArray) : addI n1 d1 t1 n2 d2 t2 = addI n2 d2 t2 n1 d1 t1 := by
  unfold addI op2
  rw [Bool.and_comm, Int.add_comm (n1 * d2), Int.mul_comm d1 d2]
theorem mul_commI (n1 d1 : Int) (t1 : ByteArray) (n2 d2 : Int) (t2 : ByteArray) : mulI n1 d1 t1 n2 d2 t2 = mulI n2 d2 t2 n1 d1 t1 := by
  unfold mulI op2
  rw [Bool.and_comm, Int.mul_comm n1 n2, Int.mul_comm d1 d2]

theorem mk_zero {n d : Int} (h : (Nm.mk n d).2 = 0) : Nm.mk n d = (0, 0) := by
  by_cases h1 : d = 0 ∨ Nm.inL n = false ∨ Nm.inL d = false
  · unfold Nm.mk; rw [if_pos h1]
  · unfold Nm.mk at h ⊢
    rw [if_neg h1] at h ⊢
    by_cases h2 : Nm.inM (Nm.red n d) = true
    · rw [if_pos h2] at h
      have := Nm.red_pos n d (fun e => h1 (.inl e))
      omega
    · rw [if_neg h2]
theorem op2_zero {n1 d1 : Int} {t1 : ByteArray} {n2 d2 : Int} {t2 : ByteArray} {n d : Int} (h : (op2 n1 d1 t1 n2 d2 t2 (Nm.mk n d)).2 = 0) : op2 n1 d1 t1 n2 d2 t2 (Nm.mk n d) = (0, 0) := by
  unfold op2 at h ⊢
  split
  · rename_i g; rw [if_pos g] at h; exact mk_zero h
  · rfl
theorem isNumT_zero : isNumT 0 0 ⟨#[]⟩ = false := by rw [isNumT_nil]; rfl
theorem neg_zero : negI 0 0 ⟨#[]⟩ = (0, 0) := op1_no isNumT_zero

theorem eq_zero_or (p : Int × Int) : p.2 = 0 ∨ p.2 ≠ 0 := by omega

theorem add_assocI (x1 x2 : Int) (xt : ByteArray) (y1 y2 : Int) (yt : ByteArray) (z1 z2 : Int) (zt : ByteArray) {s r a b : Int × Int} (hs : addI x1 x2 xt y1 y2 yt = s) (hr : addI y1 y2 yt z1 z2 zt = r) (ha : addI s.1 s.2 ⟨#[]⟩ z1 z2 zt = a) (hb : addI x1 x2 xt r.1 r.2 ⟨#[]⟩ = b) : a.2 = 0 ∨ b.2 = 0 ∨ a = b := by
  subst ha hb
  rcases eq_zero_or (addI s.1 s.2 ⟨#[]⟩ z1 z2 zt) with h | h1
  · exact .inl h
  rcases eq_zero_or (addI x1 x2 xt r.1 r.2 ⟨#[]⟩) with h | h2
  · exact .inr (.inl h)
  right; right
  obtain ⟨p1, p2, p3, p4⟩ := add_ok h1
  obtain ⟨q1, q2, q3, q4⟩ := add_ok h2
  have f1 := num_den p1
  have f2 := num_den q2
  subst hs hr
  obtain ⟨u1, u2, u3, u4⟩ := add_ok f1
  obtain ⟨v1, v2, v3, v4⟩ := add_ok f2
  refine val_inj p3 q3 ?_
  rw [p4, q4]
  rw [show rv ((addI x1 x2 xt y1 y2 yt).1, (addI x1 x2 xt y1 y2 yt).2) = rv (addI x1 x2 xt y1 y2 yt) from rfl, u4, show rv ((addI y1 y2 yt z1 z2 zt).1, (addI y1 y2 yt z1 z2 zt).2) = rv (addI y1 y2 yt z1 z2 zt) from rfl, v4]
  grind

theorem mul_distI (x1 x2 : Int) (xt : ByteArray) (y1 y2 : Int) (yt : ByteArray) (z1 z2 : Int) (zt : ByteArray) {r m k a b : Int × Int} (hr : addI y1 y2 yt z1 z2 zt = r) (hm : mulI x1 x2 xt y1 y2 yt = m) (hk : mulI x1 x2 xt z1 z2 zt = k) (ha : mulI x1 x2 xt r.1 r.2 ⟨#[]⟩ = a) (hb : addI m.1 m.2 ⟨#[]⟩ k.1 k.2 ⟨#[]⟩ = b) : a.2 = 0 ∨ b.2 = 0 ∨ a = b := by
  subst ha hb
  rcases eq_zero_or (mulI x1 x2 xt r.1 r.2 ⟨#[]⟩) with h | h1
  · exact .inl h
  rcases eq_zero_or (addI m.1 m.2 ⟨#[]⟩ k.1 k.2 ⟨#[]⟩) with h | h2
  · exact .inr (.inl h)
  right; right
  obtain ⟨p1, p2, p3, p4⟩ := mul_ok h1
  obtain ⟨q1, q2, q3, q4⟩ := add_ok h2
  have f1 := num_den p2
  have f2 := num_den q1
  have f3 := num_den q2
  subst hr hm hk
  obtain ⟨u1, u2, u3, u4⟩ := add_ok f1
  obtain ⟨v1, v2, v3, v4⟩ := mul_ok f2
  obtain ⟨g1, g2, g3, g4⟩ := mul_ok f3
  refine val_inj p3 q3 ?_
  rw [p4, q4]
  rw [show rv ((addI y1 y2 yt z1 z2 zt).1, (addI y1 y2 yt z1 z2 zt).2) = rv (addI y1 y2 yt z1 z2 zt) from rfl, u4, show rv ((mulI x1 x2 xt y1 y2 yt).1, (mulI x1 x2 xt y1 y2 yt).2) = rv (mulI x1 x2 xt y1 y2 yt) from rfl, v4,
    show rv ((mulI x1 x2 xt z1 z2 zt).1, (mulI x1 x2 xt z1 z2 zt).2) = rv (mulI x1 x2 xt z1 z2 zt) from rfl, g4]
  grind

theorem div_mulI (x1 x2 : Int) (xt : ByteArray) (y1 y2 : Int) (yt : ByteArray) {q a : Int × Int} (hq : divI x1 x2 xt y1 y2 yt = q) (ha : mulI q.1 q.2 ⟨#[]⟩ y1 y2 yt = a) : a.2 = 0 ∨ (a = (x1, x2) ∧ xt = ⟨#[]⟩) := by
  subst ha
  rcases eq_zero_or (mulI q.1 q.2 ⟨#[]⟩ y1 y2 yt) with h | h1
  · exact .inl h
  right
  obtain ⟨p1, p2, p3, p4⟩ := mul_ok h1
  have f1 := num_den p1
  subst hq
  obtain ⟨u1, u2, u0, u3, u4⟩ := div_ok f1
  refine ⟨val_inj p3 (isNumT_num u1) ?_, isNumT_text u1⟩
  rw [p4, show rv ((divI x1 x2 xt y1 y2 yt).1, (divI x1 x2 xt y1 y2 yt).2) = rv (divI x1 x2 xt y1 y2 yt) from rfl, u4]

theorem neg_negI (x1 x2 : Int) (xt : ByteArray) {m a : Int × Int} (hm : negI x1 x2 xt = m) (ha : negI m.1 m.2 ⟨#[]⟩ = a) : a.2 = 0 ∨ (a = (x1, x2) ∧ xt = ⟨#[]⟩) := by
  subst ha
  rcases eq_zero_or (negI m.1 m.2 ⟨#[]⟩) with h | h1
  · exact .inl h
  right
  obtain ⟨p1, p2⟩ := neg_ok h1
  have f1 := num_den p1
  subst hm
  obtain ⟨q1, q2⟩ := neg_ok f1
  rw [p2, q2]
  exact ⟨by simp, isNumT_text q1⟩

end Go.Proofs.Ytncmekbfmgcbnaa
