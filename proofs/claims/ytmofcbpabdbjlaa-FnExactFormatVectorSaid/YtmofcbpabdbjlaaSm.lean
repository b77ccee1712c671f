/-
  What is proved: a valid vector is small.
  Condition: none.
-/
import Derived.Test.YtmofcbpabdbjlaaMiA
namespace Go.Proofs.Ytmofcbpabdbjlaa
set_option maxRecDepth 8000
open Go.RowKit Go.ChangeShapes Go.WideShapes Go.Deep
set_option linter.unusedVariables false
set_option linter.unusedSimpArgs false

theorem lab_short {m : Nat} {l : List ByteArray} (h : labB m l = true) : l.length ≤ m ∧ shortB l = true := by
  unfold labB at h
  rw [Bool.and_eq_true, decide_eq_true_eq] at h
  refine ⟨h.1, ?_⟩
  unfold shortB
  rw [List.all_eq_true]
  intro x hx
  obtain ⟨i, hi, rfl⟩ := List.mem_iff_getElem.1 hx
  have h2 := h.2
  unfold goodN at h2
  rw [List.all_eq_true] at h2
  have h3 := h2 i (List.mem_range.2 hi)
  rw [okAt_eq hi] at h3
  simp only [Bool.and_eq_true] at h3
  exact h3.1.2
theorem stz_sh {l : List ByteArray} (h : shortB l = true) : stz l ≤ 60 * l.length := by
  induction l with
  | nil => simp [stz]
  | cons x l ih =>
    unfold shortB at h ih
    rw [List.all_cons, Bool.and_eq_true, decide_eq_true_eq] at h
    have := ih h.2
    simp only [stz, List.length_cons]
    omega
theorem itz_sh {l : List It} {z : Nat} (h : ∀ x ∈ l, x.text.size ≤ z) : itz l ≤ z * l.length := by
  induction l with
  | nil => simp [itz]
  | cons x l ih =>
    have h1 := h x (List.mem_cons_self)
    have h2 := ih fun y hy => h y (List.mem_cons_of_mem _ hy)
    simp only [itz, List.length_cons, Nat.mul_succ]
    omega
theorem empty_size {t : ByteArray} (h : t.toList.isEmpty = true) : t.size = 0 := by
  rw [ByteArray.toList_eq, List.isEmpty_iff] at h
  show t.data.size = 0
  rw [← Array.length_toList, h]
  rfl
theorem item_text {k : Int} {x : It} (h : itemB k x = true) : x.text.size ≤ 60 := by
  unfold itemB at h
  rw [Bool.or_eq_true] at h
  rcases h with h | h
  · unfold misB at h
    simp only [Bool.and_eq_true] at h
    have := empty_size h.2
    omega
  · split at h
    · simp only [Bool.and_eq_true] at h
      have := empty_size h.1.1
      omega
    · split at h
      · unfold isNumI at h
        simp only [Bool.and_eq_true] at h
        have := empty_size h.1
        omega
      · split at h
        · simp only [Bool.and_eq_true, decide_eq_true_eq] at h
          exact h.2
        · exact absurd h (by decide)
theorem itB_text {k : Int} {ls : List ByteArray} {x : It} (h : itB k ls x = true) : x.text.size ≤ 60 := by
  unfold itB at h
  simp only [Bool.and_eq_true] at h
  exact item_text h.1.2
theorem node_facts {k : Int} {is : List It} {ps : List VT} {ns cs ls : List ByteArray} {c e : Int} (h : nodeB (.mk k is ps ns cs ls c e) = true) :
    (0 ≤ k ∧ k ≤ 5) ∧ lenN k is.length ps.length ≤ 40 ∧ (ns.length = 0 ∨ (ns.length = lenN k is.length ps.length ∧ allE ns = false)) ∧ labB 3 cs = true ∧ labB 20 ls = true ∧ shortB ns = true ∧ (∀ x ∈ is, itB k ls x = true) ∧ (ps.length = 0 ∨ k = 4) ∧ (k = 5 → is.length = 0 ∧ ns.length = 0) ∧ (ls.length = 0 ∨ k = 2) ∧ (k = 5 ∨ (c = 0 ∧ e = 0)) ∧ (k = 0 → is.length = 0 ∧ cs.length = 0) := by
  unfold nodeB at h
  simp only [Bool.and_eq_true] at h
  obtain ⟨h3, h4⟩ := h
  rw [List.all_eq_true] at h4
  unfold headB at h3
  simp only [Bool.and_eq_true, Bool.or_eq_true, Bool.not_eq_true', decide_eq_true_eq, decide_eq_false_iff_not] at h3
  obtain ⟨⟨⟨⟨⟨⟨⟨⟨⟨⟨a1, a2⟩, a3⟩, a4⟩, a5⟩, a6⟩, a7⟩, a8⟩, a9⟩, a10⟩, a11⟩ := h3
  have e : lenV (.mk k is ps ns cs ls c e) = lenN k is.length ps.length := rfl
  rw [e] at a2 a5
  refine ⟨a1, a2, a5, a3, a4, a6, h4, a8, ?_, a7, a9, ?_⟩
  · intro hk
    rcases a10 with h | h
    · exact absurd hk h
    · exact ⟨h.1.1.1, h.1.1.2⟩
  · intro hk
    rcases a11 with h | h
    · exact absurd hk h
    · exact h
theorem small_node (t : VT) : ∀ n, lB n t = true → szV t ≤ 1500 + 1700 * cellsV t := by
  induction t using VT.ind with
  | _ k is ps ns cs ls c e ih =>
    intro n h
    simp only [lB, Bool.and_eq_true] at h
    obtain ⟨h1, h2⟩ := h
    have hp : ∀ p ∈ ps, szV p ≤ 1500 + 1700 * cellsV p := fun p hp => ih p hp (n - 1) (lL_mem h2 p hp).2
    have hs : ∀ l : List VT, (∀ p ∈ l, szV p ≤ 1500 + 1700 * cellsV p) → szP l ≤ 1500 * l.length + 1700 * cellsL l := by
      intro l
      induction l with
      | nil => intro _; simp [szP]
      | cons q l ih =>
        intro h
        have e1 := h q (List.mem_cons_self)
        have e2 := ih fun p hp => h p (List.mem_cons_of_mem _ hp)
        simp only [szP, cellsL, List.length_cons]
        omega
    have hs := hs ps hp
    obtain ⟨_, _, a3, a4, a5, a6, a7, a8, a9, _⟩ := node_facts h1
    have l4 := lab_short a4
    have l5 := lab_short a5
    have z3 := stz_sh a6
    have z4 := stz_sh l4.2
    have z5 := stz_sh l5.2
    have zi := itz_sh (z := 60) (l := is) fun x hx => itB_text (a7 x hx)
    have e1 : szV (.mk k is ps ns cs ls c e) = (is.length + itz is) + (ps.length + szP ps) + (ns.length + stz ns) + (cs.length + stz cs) + (ls.length + stz ls) := by simp only [szV, szI, szS, szL_eq]
    have e2 : cellsV (.mk k is ps ns cs ls c e) = lenN k is.length ps.length + cellsL ps := rfl
    rw [e1, e2]
    unfold lenN at a3 ⊢
    by_cases h5 : k = 5
    · rw [if_pos h5] at a3 ⊢
      have := a9 h5
      omega
    · rw [if_neg h5] at a3 ⊢
      omega
theorem isV_small {t : VT} (h : isV t = true) : szV t ≤ 341500 := by
  unfold isV at h
  simp only [Bool.and_eq_true, decide_eq_true_eq] at h
  have := small_node t 3 h.1
  omega
theorem isV_node {t : VT} (h : isV t = true) : nodeB t = true := by
  unfold isV at h
  simp only [Bool.and_eq_true] at h
  have h1 := h.1
  obtain ⟨k, is, ps, ns, cs, ls, c, e⟩ := t
  simp only [lB, Bool.and_eq_true] at h1
  exact h1.1

end Go.Proofs.Ytmofcbpabdbjlaa
