/-
  What is proved: plain facts on the decimal texts of integers: what is written is read back; no program in sight.
  No condition.
-/
import Derived.Test.YtncmekbfmgcbnaaParse
namespace Go.Proofs.Ytncmekbfmgcbnaa
set_option linter.unusedVariables false
set_option linter.unusedSimpArgs false

theorem dch_toNat {d : Nat} (h : d < 10) : (dch d).toNat = 48 + d := by
  unfold dch
  rw [UInt8.toNat_ofNat']
  omega
theorem dval_dig : ∀ n, dval (dig n) = n := by
  intro n
  induction n using Nat.strongRecOn with
  | ind n ih =>
    by_cases h : n = 0
    · subst h; rw [dig_zero]; rfl
    · rw [dig_pos (by omega), dval_snoc, ih (n / 10) (by omega), dch_toNat (by omega)]
      omega
theorem dig_all : ∀ n, (dig n).all isDg = true := by
  intro n
  induction n using Nat.strongRecOn with
  | ind n ih =>
    by_cases h : n = 0
    · subst h; rw [dig_zero]; rfl
    · rw [dig_pos (by omega), List.all_append, ih (n / 10) (by omega)]
      simp only [List.all_cons, List.all_nil, Bool.and_true, Bool.true_and]
      unfold isDg
      rw [dch_toNat (by omega)]
      exact decide_eq_true (by omega)
theorem isDg_ne {c : UInt8} (h : isDg c = true) {x : UInt8} (hx : x.toNat < 48) : c ≠ x := by
  intro e
  subst e
  have := of_decide_eq_true h
  omega
theorem dig_head {n : Nat} : (dig n).head? ≠ some 45 := by
  intro h
  have h1 := dig_all n
  cases hd : dig n with
  | nil => rw [hd] at h; cases h
  | cons c l =>
    rw [hd] at h h1
    simp only [List.head?_cons, Option.some.injEq] at h
    simp only [List.all_cons, Bool.and_eq_true] at h1
    exact isDg_ne h1.1 (x := 45) (by decide) h
theorem prs_dig (n : Nat) : prs (dig n) = (false, dig n) := by unfold prs; rw [if_neg dig_head]

/-- sign and digits of a written integer -/
theorem prs_fmtI (n : Int) : prs (fmtI n) = (decide (n < 0), if n = 0 then [48] else dig n.natAbs) := by
  by_cases h0 : n = 0
  · subst h0; rfl
  · unfold fmtI
    rw [if_neg h0, if_neg h0]
    by_cases h1 : n < 0
    · rw [if_pos h1, decide_eq_true h1]; rfl
    · rw [if_neg h1, decide_eq_false h1, prs_dig]
theorem fmtI_val (n : Int) : sgn (prs (fmtI n)).1 (dval (prs (fmtI n)).2) = n := by
  rw [prs_fmtI]
  by_cases h0 : n = 0
  · subst h0; rfl
  · rw [if_neg h0, dval_dig]
    unfold sgn
    by_cases h1 : n < 0
    · rw [decide_eq_true h1]; simp; omega
    · rw [decide_eq_false h1]; simp; omega
theorem fmtI_inj {n m : Int} (h : fmtI n = fmtI m) : n = m := by rw [← fmtI_val n, ← fmtI_val m, h]
theorem parse_fmtI {l : List UInt8} (h : parseB l = true) : fmtI (parseN l) = l := by
  rw [parse_yes h]
  exact (of_decide_eq_true h).2.2.2
theorem parseB_fmt (n : Int) : parseB (fmtI n) = decide (-1000000000 < n ∧ n < 1000000000) := by
  unfold parseB
  rw [fmtI_val n]
  refine decide_eq_decide.2 ?_
  rw [prs_fmtI]
  by_cases h0 : n = 0
  · subst h0; simp; decide
  · simp only [if_neg h0]
    constructor
    · rintro ⟨_, h2, h3, _⟩
      have := dval_bd h3 h2
      rw [dval_dig] at this
      omega
    · intro h
      refine ⟨?_, dig_le 9 _ (by omega), dig_all _, (by first | rfl | trivial)⟩
      have := dig_ne (n := n.natAbs) (by omega)
      intro e; rw [e] at this; simp at this
theorem parseN_fmt {n : Int} (h : -1000000000 < n ∧ n < 1000000000) : parseN (fmtI n) = n := by
  rw [parse_yes (by rw [parseB_fmt]; exact decide_eq_true h), fmtI_val]
theorem fmtI_byte {n : Int} {c : UInt8} (h : c ∈ fmtI n) : c = 45 ∨ isDg c = true := by
  unfold fmtI at h
  split at h
  · right; rw [List.mem_singleton.1 h]; rfl
  · have hd : ∀ c ∈ dig n.natAbs, isDg c = true := List.all_eq_true.1 (dig_all _)
    split at h
    · rcases List.mem_cons.1 h with h | h
      · exact .inl h
      · exact .inr (hd c h)
    · exact .inr (hd c h)
theorem toL (s : ByteArray) : s.toList = s.data.toList := by rw [ByteArray.toList_eq]
theorem bytes_eq {a b : ByteArray} (h : a.data.toList = b.data.toList) : a = b := ByteArray.ext (Array.toList_inj.1 h)

theorem len_toList (b : ByteArray) : b.data.toList.length = b.size := by simp
end Go.Proofs.Ytncmekbfmgcbnaa
