/-
  What is proved: plain laws on texts, powers and the order of numbers.
  Condition: none.
-/
import Derived.Test.YtncmekbfmgcbnaaPnP
import Derived.Test.YtncmekbfmgcbnaaTwoP
import Derived.Test.YtncmekbfmgcbnaaRvA
namespace Go.Proofs.Ytncmekbfmgcbnaa
set_option linter.unusedVariables false
set_option linter.unusedSimpArgs false

theorem nil_toL : (⟨#[]⟩ : ByteArray).toList = [] := by rw [toL]
theorem parse_nil : parseB [] = false := by decide

theorem fmtI_ne (n : Int) : fmtI n ≠ [] := by
  intro h
  have h1 := prs_fmtI n
  rw [h] at h1
  unfold prs at h1
  simp only [List.head?_nil, reduceCtorEq, if_false, Prod.mk.injEq] at h1
  obtain ⟨_, h2⟩ := h1
  split at h2
  · cases h2
  · rename_i h0
    have := dig_ne (n := n.natAbs) (by omega)
    rw [← h2] at this
    simp at this
theorem num_back {n d : Int} {t : ByteArray} (h : isNumT n d t = true) : pnO (fmtN n d t) = true ∧ (fmtN n d t).toList ≠ [] ∧ pnA (fmtN n d t) = (n, d) ∧ t = ⟨#[]⟩ := by
  have ht := isNumT_text h
  subst ht
  have hm := isNumT_num h
  obtain ⟨a1, a2, a3, a4, a5⟩ := Nm.isNum_facts hm
  obtain ⟨s, hs⟩ : ∃ s, fmtN n d ⟨#[]⟩ = s := ⟨_, rfl⟩
  obtain ⟨f1, f2⟩ := parts_fmt hm hs
  rw [hs]
  have hp1 : parseB (numL s) = true := by rw [f1, parseB_fmt]; exact decide_eq_true (by omega)
  have hp2 : parseB (denL s) = true := by rw [f2, parseB_fmt]; exact decide_eq_true (by omega)
  have hn1 : parseN (numL s) = n := by rw [f1]; exact parseN_fmt (by omega)
  have hn2 : parseN (denL s) = d := by rw [f2]; exact parseN_fmt (by omega)
  have hb : pnB s = true := by
    unfold pnB
    rw [hp1, hp2, hn1, hn2, hm, hs]
    simp
  have hhd : ∀ c ∈ numL s, c = 45 ∨ isDg c = true := by rw [f1]; exact fun c hc => fmtI_byte hc
  have hne : numL s ≠ [] := by rw [f1]; exact fmtI_ne n
  have hsub : ∃ r, s.data.toList = numL s ++ r := by
    refine ⟨s.data.toList.drop (sl s), ?_⟩
    unfold numL numS
    simp
  obtain ⟨r, hr⟩ := hsub
  have hna : ¬ s.toList = [78, 65] := by
    intro e
    rw [toL, hr] at e
    cases hl : numL s with
    | nil => exact hne hl
    | cons c l =>
      rw [hl] at e hhd
      simp only [List.cons_append, List.cons.injEq] at e
      rcases hhd c (List.mem_cons_self) with h | h
      · rw [e.1] at h; cases h
      · rw [e.1] at h; cases h
  have hnn : s.toList ≠ [] := by
    intro e
    rw [toL, hr] at e
    exact hne (List.append_eq_nil_iff.1 e).1
  obtain ⟨g1, g2⟩ := pn_yes hna hb
  rw [hn1, hn2] at g2
  exact ⟨g1, hnn, g2, rfl⟩

/-- a written item is read back: the three ways -/
theorem text_back (n d : Int) (t : ByteArray) : 
    (pnO (fmtN n d t) = false ∧ (fmtN n d t).toList = []) ∨
    (pnO (fmtN n d t) = true ∧ (fmtN n d t).toList ≠ [] ∧ pnA (fmtN n d t) = (n, d) ∧ t = ⟨#[]⟩) := by
  rcases itm_cases n d t with ⟨rfl, rfl, rfl⟩ | ⟨hz, hn⟩ | ⟨hz, hn, hd⟩ | ⟨hz, hn, hd⟩
  · right
    have e : fmtN 0 0 ⟨#[]⟩ = ⟨#[78, 65]⟩ := by unfold fmtN; rw [if_pos ⟨rfl, rfl, rfl⟩]
    have e2 : (fmtN 0 0 ⟨#[]⟩).toList = [78, 65] := by rw [e, toL]
    obtain ⟨h1, h2⟩ := pn_na e2
    exact ⟨h1, by rw [e2]; simp, h2, rfl⟩
  · left
    rw [fmtN_no hz hn]
    refine ⟨?_, nil_toL⟩
    have hna : ¬ (⟨#[]⟩ : ByteArray).toList = [78, 65] := by rw [nil_toL]; simp
    refine (pn_no hna ?_).1
    have e : numL ⟨#[]⟩ = [] := by unfold numL numS; rfl
    unfold pnB
    rw [e, parse_nil]
    rfl
  · right
    exact num_back hn
  · right
    exact num_back hn

/-- one more factor -/
theorem pow_next (n1 d1 : Int) (t1 : ByteArray) (e1 e2 : Int) (et : ByteArray) {p q a r : Int × Int} (hp : powI n1 d1 t1 e1 e2 et = p) (hq : mulI p.1 p.2 ⟨#[]⟩ n1 d1 t1 = q) (ha : addI e1 e2 et 1 1 ⟨#[]⟩ = a) (hr : powI n1 d1 t1 a.1 a.2 ⟨#[]⟩ = r) : q.2 = 0 ∨ r.2 = 0 ∨ e1 < 0 ∨ q = r := by
  rcases eq_zero_or q with h | h1
  · exact .inl h
  rcases eq_zero_or r with h | h2
  · exact .inr (.inl h)
  by_cases h3 : e1 < 0
  · exact .inr (.inr (.inl h3))
  right; right; right
  subst hq
  obtain ⟨m1, m2, _, _⟩ := mul_ok h1
  have f1 := num_den m1
  subst hp
  unfold powI at f1
  obtain ⟨g1, g2, g3, g4⟩ := op2_ok f1
  have he2 : e2 = 1 ∧ -20 ≤ e1 ∧ e1 ≤ 20 := by
    by_cases h : e2 = 1 ∧ -20 ≤ e1 ∧ e1 ≤ 20
    · exact h
    · rw [if_neg h] at g4; simp at g4
  obtain ⟨rfl, h4, h5⟩ := he2
  have h11 : isNumT 1 1 ⟨#[]⟩ = true := by rw [isNumT_nil]; rfl
  have hmk : Nm.isNum (e1 + 1) 1 = true := decide_eq_true ⟨by omega, by omega, by omega, by omega, by simp⟩
  have hae : a = (e1 + 1, 1) := by
    rw [← ha]
    unfold addI
    rw [op2_yes g2 h11, show e1 * 1 + 1 * 1 = e1 + 1 by omega, show (1 : Int) * 1 = 1 by omega]
    exact mk_self hmk
  subst hae
  have hpow : powI n1 d1 t1 e1 1 et = powN n1 d1 t1 e1.toNat := by
    unfold powI
    rw [op2_yes g1 g2, if_pos ⟨rfl, h4, h5⟩]
    unfold powV
    rw [if_neg h3]
  subst hr
  unfold powI at h2
  obtain ⟨k1, k2, k3, k4⟩ := op2_ok h2
  have h6 : e1 + 1 ≤ 20 := by
    by_cases h : (1 : Int) = 1 ∧ -20 ≤ e1 + 1 ∧ e1 + 1 ≤ 20
    · exact h.2.2
    · rw [if_neg h] at k4; simp at k4
  have hpow2 : powI n1 d1 t1 (e1 + 1) 1 ⟨#[]⟩ = powN n1 d1 t1 (e1.toNat + 1) := by
    unfold powI
    rw [op2_yes g1 k2, if_pos ⟨rfl, by omega, h6⟩]
    unfold powV
    rw [if_neg (by omega), show (e1 + 1).toNat = e1.toNat + 1 by omega]
  rw [hpow]
  show _ = powI n1 d1 t1 (e1 + 1) 1 ⟨#[]⟩
  rw [hpow2]
  rfl

/-- comparing is an order -/
theorem cmp_back (n1 d1 : Int) (t1 : ByteArray) (n2 d2 : Int) (t2 : ByteArray) {c d : Int} (hc : cmpI n1 d1 t1 n2 d2 t2 = c) (hd : cmpI n2 d2 t2 n1 d1 t1 = d) : (c = 2 ∧ d = 2) ∨ (c = -d ∧ (c == 2) = false ∧ -1 ≤ d ∧ d ≤ 1) := by
  subst hc hd
  unfold cmpI
  rw [Bool.and_comm]
  cases h : (isNumT n2 d2 t2 && isNumT n1 d1 t1)
  · left; simp
  · right
    simp only [if_true]
    by_cases h1 : n1 * d2 < n2 * d1
    · rw [if_pos h1, if_neg (by omega), if_pos h1]; decide
    · by_cases h2 : n2 * d1 < n1 * d2
      · rw [if_neg h1, if_pos h2, if_pos h2]; decide
      · rw [if_neg h1, if_neg h2, if_neg h2, if_neg h1]; decide

end Go.Proofs.Ytncmekbfmgcbnaa
