/-
  What is proved: the size of a result that is computed from two operands.
  Condition: none.
-/
import Derived.Test.YtmofcbpabdbjlaaLoA
namespace Go.Proofs.Ytmofcbpabdbjlaa
set_option maxRecDepth 8000
open Go.RowKit Go.ChangeShapes Go.WideShapes Go.Deep
set_option linter.unusedVariables false
set_option linter.unusedSimpArgs false

theorem stz_short {l : List ByteArray} (h : shortB l = true) : stz l ≤ 60 * l.length := by
  induction l with
  | nil => simp [stz]
  | cons x l ih =>
    unfold shortB at h ih
    rw [List.all_cons, Bool.and_eq_true, decide_eq_true_eq] at h
    have := ih h.2
    simp only [stz, List.length_cons]
    omega
theorem names_sz {t : VT} (h : isV t = true) : szS t.names ≤ 2440 := by
  obtain ⟨k, is, ps, ns, cs, ls, c, e⟩ := t
  have hf := isV_facts h
  have h1 := hf.2.1
  have h2 := hf.2.2.1
  unfold isV at h
  simp only [Bool.and_eq_true] at h
  have h3 := h.1
  unfold lB at h3
  simp only [Bool.and_eq_true] at h3
  have h4 := h3.1
  unfold nodeB headB at h4
  simp only [Bool.and_eq_true] at h4
  have h5 := stz_short h4.1.1.1.1.1.1.2
  show szS ns ≤ 2440
  unfold szS
  omega
theorem itz_bd {l : List It} {z : Nat} (h : ∀ x ∈ l, x.text.size ≤ z) : itz l ≤ z * l.length := by
  induction l with
  | nil => simp [itz]
  | cons x l ih =>
    have h1 := h x (List.mem_cons_self)
    have h2 := ih fun y hy => h y (List.mem_cons_of_mem _ hy)
    simp only [itz, List.length_cons, Nat.mul_succ]
    omega
theorem nm_sz {n la lb : Nat} {na nb : List ByteArray} {z : Nat} (ha : szS na ≤ z) (hb : szS nb ≤ z) : szS (nmQ n la na lb nb) ≤ z := by
  unfold nmQ
  split
  · exact ha
  · split
    · exact hb
    · simp [szS, stz]
theorem twoT_sz {k : Int} {G : It → It → It} {a b : VT} (hG : ∀ x y, (G x y).text.size ≤ 60) (ha : isV a = true) (hb : isV b = true) : szV (twoT k G a b) ≤ 1048576 := by
  have h1 := nm_sz (n := recN a.items.length b.items.length) (la := lenV a) (lb := lenV b) (names_sz ha) (names_sz hb)
  have ia : a.items.length ≤ 40 := by
    obtain ⟨k, is, ps, ns, cs, ls, c, e⟩ := a
    exact isV_items ha
  have ib : b.items.length ≤ 40 := by
    obtain ⟨k, is, ps, ns, cs, ls, c, e⟩ := b
    exact isV_items hb
  have h2 := recN_le ia ib
  have h3 := itz_bd (l := pwL (atI a.items) (atI b.items) G (recN a.items.length b.items.length)) (z := 60) (by
    intro x hx
    unfold pwL at hx
    obtain ⟨i, _, rfl⟩ := List.mem_map.1 hx
    exact hG _ _)
  rw [pwL_len] at h3
  have h4 : szV (twoT k G a b) = (recN a.items.length b.items.length + itz (pwL (atI a.items) (atI b.items) G (recN a.items.length b.items.length))) + szS (nmQ (recN a.items.length b.items.length) (lenV a) a.names (lenV b) b.names) := by
    simp only [twoT, vecN, szV, szI, szL, pwL_len, szS, stz, List.length_nil]
    omega
  rw [h4]
  omega
theorem zero_sz : szV (vecI 0 []) ≤ 1048576 := by simp [vecI, szV, szI, szL, szS, stz, itz]

end Go.Proofs.Ytmofcbpabdbjlaa
