/-
  What is proved: plain facts on repeated operands of arithmetic. No program in sight.
  Condition: valid vectors.
-/
import Derived.Test.YtmofcbpabdbjlaaRq32
import Derived.Test.YtmofcbpabdbjlaaRq33
namespace Go.Proofs.Ytmofcbpabdbjlaa

set_option maxRecDepth 8000

set_option linter.unusedVariables false

set_option linter.unusedSimpArgs false

theorem rp_ok {t : VT} (hv : isV t = true) (hc : cntK t.kind t.levels.length = true) {q : Nat} (h0 : t.items ≠ []) (hq : 1 ≤ q) (h40 : q * t.items.length ≤ 40) : rpS (q : Int) t = ⟨#[]⟩ ∧ rpT (q : Int) t = vecN t.kind (rpN q t.items) (rpN q t.names) ∧ isV (vecN t.kind (rpN q t.items) (rpN q t.names)) = true := by
  have f := cnt_form hv hc
  have k12 : t.kind = 1 ∨ t.kind = 2 := by
    rcases f.1 with h | h | h
    · exact absurd (f.2.2.2.2.2.2.2.2 h) h0
    · exact .inl h
    · exact .inr h
  have hV : rpV t q = vecN t.kind (rpN q t.items) (rpN q t.names) := by
    unfold rpV vecN
    rw [f.2.1, f.2.2.1, rpN_nil]
    rfl
  have hpos : 1 ≤ t.items.length := by
    have : t.items.length ≠ 0 := fun h => h0 (List.length_eq_zero_iff.1 h)
    omega
  have hq40 : q ≤ 40 := Nat.le_trans (Nat.le_mul_of_pos_right q hpos) h40
  have hok : isV (vecN t.kind (rpN q t.items) (rpN q t.names)) = true := by
    refine isV_vecN (by omega) (by omega) (by rw [zbh]; exact h40) (fun x hx => f.2.2.2.2.2.2.2.1 x (rpN_mem hx)) ?_ ?_
    · rcases f.2.2.2.2.2.1 with h | h
      · rw [h]
        exact .inl (rpN_nil q)
      · refine .inr ⟨by rw [zbh, zbh, h.1], ?_⟩
        obtain ⟨p, rfl⟩ : ∃ p, q = p + 1 := ⟨q - 1, by omega⟩
        rw [rpN_succ]
        have e : ∀ x y : List ByteArray, allE (x ++ y) = (allE x && allE y) := fun x y => by unfold allE; rw [List.all_append]
        rw [e, h.2, Bool.and_false]
    · have hs := f.2.2.2.2.2.2.1
      unfold zbi at hs ⊢
      rw [List.all_eq_true] at hs ⊢
      exact fun x hx => hs x (rpN_mem hx)
  have hG : rpG (q : Int) (lenV t) = true := by
    unfold rpG
    rw [f.2.2.2.1]
    have : (q : Int) * (t.items.length : Int) ≤ 40 := by exact_mod_cast h40
    simp only [Bool.and_eq_true, decide_eq_true_eq]
    exact ⟨⟨by omega, by omega⟩, this⟩
  have k5 : ¬ t.kind = 5 := by omega
  have e1 : (q : Int).toNat = q := Int.toNat_natCast q
  unfold rpS rpT
  rw [hv, hG, e1, hV, hok, if_neg k5, if_neg k5]
  exact ⟨rfl, rfl, rfl⟩

theorem atI_rp {q : Nat} {l : List It} {i : Nat} (h : i < q * l.length) : atI (rpN q l) i = atI l i := by
  have hpos : 0 < l.length := by
    rcases Nat.eq_zero_or_pos l.length with h' | h'
    · rw [h', Nat.mul_zero] at h
      omega
    · exact h'
  have h1 : i % l.length < l.length := Nat.mod_lt _ hpos
  rw [atI_eq (l := rpN q l) (i := i) (j := i) (by rw [zbh, Nat.mod_eq_of_lt h]) (by rw [zbh]; exact h), atI_eq rfl h1]
  exact rpN_get q l i h h1

theorem div_back {m n : Nat} (hm : 0 < m) (hn : 0 < n) (h : max m n % min m n = 0) : max m n / m * m = max m n ∧ 1 ≤ max m n / m := by
  have e : max m n / m * m = max m n := by
    rcases Nat.le_total m n with hl | hl
    · rw [Nat.max_eq_right hl] at h ⊢
      rw [Nat.min_eq_left hl] at h
      exact Nat.div_mul_cancel (Nat.dvd_of_mod_eq_zero h)
    · rw [Nat.max_eq_left hl, Nat.div_self hm, Nat.one_mul]
  refine ⟨e, ?_⟩
  rcases Nat.eq_zero_or_pos (max m n / m) with h0 | h0
  · rw [h0, Nat.zero_mul] at e
    omega
  · exact h0

/-- the shorter operand is repeated -/
theorem rc_main {op : ByteArray} {a b : VT} (h : arS op a b = ⟨#[]⟩) {n : Nat} (hn : (arT op a b).items.length = n) (h0 : n ≠ 0) :
    0 < a.items.length ∧ 0 < b.items.length ∧ rpS ((n / a.items.length : Nat) : Int) a = ⟨#[]⟩ ∧ rpS ((n / b.items.length : Nat) : Int) b = ⟨#[]⟩ ∧
      arS op (rpT ((n / a.items.length : Nat) : Int) a) (rpT ((n / b.items.length : Nat) : Int) b) = ⟨#[]⟩ ∧
      (arT op (rpT ((n / a.items.length : Nat) : Int) a) (rpT ((n / b.items.length : Nat) : Int) b)).items = (arT op a b).items := by
  obtain ⟨hA, hT⟩ := ar_ok h
  have fa := cnt_form hA.va hA.ka
  have fb := cnt_form hA.vb hA.kb
  rw [hT, two_len] at hn
  obtain ⟨m1, e1⟩ : ∃ m, a.items.length = m := ⟨_, rfl⟩
  obtain ⟨m2, e2⟩ : ∃ m, b.items.length = m := ⟨_, rfl⟩
  have hr := hA.rb
  rw [e1, e2] at hn hr
  have p1 : 0 < m1 := by
    rcases Nat.eq_zero_or_pos m1 with h' | h'
    · unfold recN at hn; rw [if_pos (.inl h')] at hn; omega
    · exact h'
  have p2 : 0 < m2 := by
    rcases Nat.eq_zero_or_pos m2 with h' | h'
    · unfold recN at hn; rw [if_pos (.inr h')] at hn; omega
    · exact h'
  have hmx : max m1 m2 = n := by
    unfold recN at hn
    rw [if_neg (by omega)] at hn
    exact hn
  have hmod : max m1 m2 % min m1 m2 = 0 := by
    unfold recB at hr
    simp only [Bool.or_eq_true, decide_eq_true_eq] at hr
    omega
  have n40 : n ≤ 40 := by
    have := fa.2.2.2.2.1
    have := fb.2.2.2.2.1
    omega
  have d1 := div_back p1 p2 hmod
  have d2 := div_back p2 p1 (by rw [Nat.max_comm, Nat.min_comm]; exact hmod)
  rw [Nat.max_comm m2 m1] at d2
  rw [hmx] at d1 d2
  rw [e1, e2]
  have n1 : a.items ≠ [] := fun e => by rw [e] at e1; simp at e1; omega
  have n2 : b.items ≠ [] := fun e => by rw [e] at e2; simp at e2; omega
  obtain ⟨r1, r2, r3⟩ := rp_ok hA.va hA.ka n1 d1.2 (by rw [e1, d1.1]; exact n40)
  obtain ⟨s1, s2, s3⟩ := rp_ok hA.vb hA.kb n2 d2.2 (by rw [e2, d2.1]; exact n40)
  rw [r2, s2]
  have l1 : (rpN (n / m1) a.items).length = n := by rw [zbh, e1, d1.1]
  have l2 : (rpN (n / m2) b.items).length = n := by rw [zbh, e2, d2.1]
  have ck : ∀ {t : VT}, cntK t.kind t.levels.length = true → cntK t.kind 0 = true := fun {t} hc => by
    unfold cntK at hc ⊢
    simp only [Bool.or_eq_true, Bool.and_eq_true, decide_eq_true_eq] at hc ⊢
    rcases hc with (h | h) | h
    · exact .inl (.inl h)
    · exact .inl (.inr h)
    · exact .inr ⟨h.1, trivial⟩
  have hB : ArOk op (vecN a.kind (rpN (n / m1) a.items) (rpN (n / m1) a.names)) (vecN b.kind (rpN (n / m2) b.items) (rpN (n / m2) b.names)) := by
    refine ⟨r3, s3, hA.ko, ck (t := a) hA.ka, ck (t := b) hA.kb, ?_⟩
    show recB (rpN (n / m1) a.items).length (rpN (n / m2) b.items).length = true
    rw [l1, l2]
    unfold recB
    rw [Nat.max_self, Nat.min_self, Nat.mod_self]
    simp
  have hS := ar_back hB
  refine ⟨p1, p2, r1, s1, hS, ?_⟩
  rw [(ar_ok hS).2, hT, two_items, two_items, e1, e2]
  show pwL (atI (rpN (n / m1) a.items)) (atI (rpN (n / m2) b.items)) (arF op) (recN (rpN (n / m1) a.items).length (rpN (n / m2) b.items).length) = _
  rw [l1, l2, hn]
  have hnn : recN n n = n := by
    unfold recN
    rw [if_neg (by omega), Nat.max_self]
  rw [hnn]
  unfold pwL
  apply List.map_congr_left
  intro i hi
  have hi := List.mem_range.1 hi
  rw [atI_rp (by rw [e1, d1.1]; exact hi), atI_rp (by rw [e2, d2.1]; exact hi)]

end Go.Proofs.Ytmofcbpabdbjlaa
