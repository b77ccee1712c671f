/-
  What is proved: MakeNumber of the reference returns n / d in lowest terms, or the missing value, as the program does; the statement on it.
  Condition: the arguments are ints of 64 bits.
-/
import Derived.Test.YtmofcbpabdbjlaaMake
namespace Go.Proofs.Ytmofcbpabdbjlaa
set_option maxRecDepth 8000
open Go.RowKit
set_option linter.unusedVariables false
set_option linter.unusedSimpArgs false

theorem inM_true {p q : Int} (h : Nm.inM (p, q) = true) : inI p (-999999999) 999999999 = true ∧ ¬ 999999999 < q := by
  simp only [Nm.inM, decide_eq_true_eq] at h
  exact ⟨inI_true ⟨h.1, h.2.1⟩, by omega⟩

theorem inM_false {p q : Int} (h : Nm.inM (p, q) = false) : inI p (-999999999) 999999999 = false ∨ (inI p (-999999999) 999999999 = true ∧ 999999999 < q) := by
  simp only [Nm.inM, decide_eq_false_iff_not] at h
  by_cases h1 : -999999999 ≤ p ∧ p ≤ 999999999
  · exact .inr ⟨inI_true h1, by omega⟩
  · exact .inl (inI_false h1)

theorem inM_cases (p q : Int) : (Nm.inM (p, q) = true ∧ inI p (-999999999) 999999999 = true ∧ ¬ 999999999 < q) ∨ (Nm.inM (p, q) = false ∧ inI p (-999999999) 999999999 = false) ∨ (Nm.inM (p, q) = false ∧ inI p (-999999999) 999999999 = true ∧ 999999999 < q) := by
  cases h : Nm.inM (p, q)
  · rcases inM_false h with h1 | ⟨h1, h2⟩
    · exact .inr (.inl ⟨rfl, h1⟩)
    · exact .inr (.inr ⟨rfl, h1, h2⟩)
  · obtain ⟨h1, h2⟩ := inM_true h
    exact .inl ⟨rfl, h1, h2⟩

set_option maxHeartbeats 1000000 in
theorem spec_make (n d : Int) (w : World) (hn : -9223372036854775808 ≤ n ∧ n ≤ 9223372036854775807) (hd : -9223372036854775808 ≤ d ∧ d ≤ 9223372036854775807) :
    Calls Try.prog 144 #[.int .i64 n, .int .i64 d] w fun e w' => e = .returned (.agg #[.int .i64 (Nm.mk n d).1, .int .i64 (Nm.mk n d).2, .string ⟨#[]⟩]) ∧ Below w.heap.size w w' := by
  obtain ⟨hn1, hn2⟩ := hn
  obtain ⟨hd1, hd2⟩ := hd
  by_cases hg : d ≠ 0 ∧ (-4000000000000000000 ≤ n ∧ n ≤ 4000000000000000000) ∧ (-4000000000000000000 ≤ d ∧ d ≤ 4000000000000000000)
  · obtain ⟨g0, ⟨g1, g2⟩, g3, g4⟩ := hg
    have hmk := Nm.mk_good g0 ⟨g1, g2⟩ ⟨g3, g4⟩
    have z0 : (d == 0) = false := by simpa using g0
    have i1 := inI_true ⟨g1, g2⟩
    have i2 := inI_true ⟨g3, g4⟩
    by_cases hs : d < 0
    · obtain ⟨G, p, q, hG, G1, G2, hp, hq, hr, p1, p2, q1, q2⟩ := red_facts (Nm.red_neg_eq (n := n) hs) (by omega) (by omega) (by omega)
      rw [hr] at hmk
      rw [Nm.gcdI_neg] at hG
      have hp1 : n.tdiv G = -p := by rw [← hp, Int.neg_tdiv, Int.neg_neg]
      have hq1 : d.tdiv G = -q := by rw [← hq, Int.neg_tdiv, Int.neg_neg]
      have hp2 : n.tdiv (-G) = p := by rw [Int.tdiv_neg, hp1, Int.neg_neg]
      have hq2 : d.tdiv (-G) = q := by rw [Int.tdiv_neg, hq1, Int.neg_neg]
      have HG := Lib.hid hG
      clear hr hG g0 hn1 hn2 hd1 hd2 hp hq
      have zG : (G == 0) = false := by simp; omega
      have zG2 : (-G == 0) = false := by simp; omega
      rcases inM_cases p q with ⟨hM, m1, m2⟩ | ⟨hM, m1⟩ | ⟨hM, m1, m2⟩
      all_goals
        rw [hM] at hmk
        have HM := Lib.hid (hmk.trans (by first | (rw [if_pos rfl]) | (rw [if_neg (by simp)])))
        clear hmk hM
        go_enter Try.func144, Try.ntmps144
        go_wp2_with (go_at_call 104; refine (spec_in _ _ _ _).mono ?_; rintro e w' ⟨rfl, rfl⟩)
        refine (spec_gcd n d _ (by omega) (by omega)).mono ?_
        rintro e w1 ⟨rfl, hb1⟩
        obtain ⟨hc1, hf1⟩ := bcell hb1
        have B1 : Below w.heap.size w w1 := below_next (by go_grown) (Nat.le_refl _) hb1
        have z1 : w.heap.size ≤ w1.heap.size := B1.size
        have y1_0 : w.heap.size < w1.heap.size := by have := hb1.size; (try simp at this); omega
        have k1_0_0 : w1.cell? ⟨w.heap.size, 0, none⟩ = some (.int .i64 0) := by rw [hc1 _ _ (by (try simp); (try omega))]; go_simp
        have k1_0_1 : w1.cell? ⟨w.heap.size, 1, none⟩ = some (.int .i64 0) := by rw [hc1 _ _ (by (try simp); (try omega))]; go_simp
        have k1_0_2 : w1.cell? ⟨w.heap.size, 2, none⟩ = some (.string ⟨#[]⟩) := by rw [hc1 _ _ (by (try simp); (try omega))]; go_simp
        clear hc1
        rw [HG.out]
        go_wp2_with fail
        go_region
        go_wp2_with (go_at_call 104; refine (spec_in _ _ _ _).mono ?_; rintro e w' ⟨rfl, rfl⟩)
        first
        | exact bodyPost_ret (v := .agg #[.int .i64 0, .int .i64 0, .string ⟨#[]⟩]) (by simp [results, Try.results144, go_sem, *]) rfl ⟨ret_itm HM.out, by go_grown⟩
        | exact bodyPost_ret (v := .agg #[.int .i64 p, .int .i64 q, .string ⟨#[]⟩]) (by simp [results, Try.results144, go_sem, *]) rfl ⟨ret_itm HM.out, by go_grown⟩
    · obtain ⟨G, p, q, hG, G1, G2, hp, hq, hr, p1, p2, q1, q2⟩ := red_facts (Nm.red_pos_eq (n := n) (by omega)) g0 ⟨g1, g2⟩ ⟨g3, g4⟩
      rw [hr] at hmk
      have HG := Lib.hid hG
      clear hr hG g0 hn1 hn2 hd1 hd2
      have zG : (G == 0) = false := by simp; omega
      have g9 : ¬ d < 0 := hs
      rcases inM_cases p q with ⟨hM, m1, m2⟩ | ⟨hM, m1⟩ | ⟨hM, m1, m2⟩
      all_goals
        rw [hM] at hmk
        have HM := Lib.hid (hmk.trans (by first | (rw [if_pos rfl]) | (rw [if_neg (by simp)])))
        clear hmk hM
        go_enter Try.func144, Try.ntmps144
        go_wp2_with (go_at_call 104; refine (spec_in _ _ _ _).mono ?_; rintro e w' ⟨rfl, rfl⟩)
        refine (spec_gcd n d _ (by omega) (by omega)).mono ?_
        rintro e w1 ⟨rfl, hb1⟩
        obtain ⟨hc1, hf1⟩ := bcell hb1
        have B1 : Below w.heap.size w w1 := below_next (by go_grown) (Nat.le_refl _) hb1
        have z1 : w.heap.size ≤ w1.heap.size := B1.size
        have y1_0 : w.heap.size < w1.heap.size := by have := hb1.size; (try simp at this); omega
        have k1_0_0 : w1.cell? ⟨w.heap.size, 0, none⟩ = some (.int .i64 0) := by rw [hc1 _ _ (by (try simp); (try omega))]; go_simp
        have k1_0_1 : w1.cell? ⟨w.heap.size, 1, none⟩ = some (.int .i64 0) := by rw [hc1 _ _ (by (try simp); (try omega))]; go_simp
        have k1_0_2 : w1.cell? ⟨w.heap.size, 2, none⟩ = some (.string ⟨#[]⟩) := by rw [hc1 _ _ (by (try simp); (try omega))]; go_simp
        clear hc1
        rw [HG.out]
        go_wp2_with fail
        go_region
        go_wp2_with (go_at_call 104; refine (spec_in _ _ _ _).mono ?_; rintro e w' ⟨rfl, rfl⟩)
        first
        | exact bodyPost_ret (v := .agg #[.int .i64 0, .int .i64 0, .string ⟨#[]⟩]) (by simp [results, Try.results144, go_sem, *]) rfl ⟨ret_itm HM.out, by go_grown⟩
        | exact bodyPost_ret (v := .agg #[.int .i64 p, .int .i64 q, .string ⟨#[]⟩]) (by simp [results, Try.results144, go_sem, *]) rfl ⟨ret_itm HM.out, by go_grown⟩
  · have hbad : d = 0 ∨ (d ≠ 0 ∧ inI n (-4000000000000000000) 4000000000000000000 = false) ∨ (d ≠ 0 ∧ inI n (-4000000000000000000) 4000000000000000000 = true ∧ inI d (-4000000000000000000) 4000000000000000000 = false) := by
      by_cases h0 : d = 0
      · exact .inl h0
      · by_cases h1 : -4000000000000000000 ≤ n ∧ n ≤ 4000000000000000000
        · exact .inr (.inr ⟨h0, inI_true h1, inI_false (fun h2 => hg ⟨h0, h1, h2⟩)⟩)
        · exact .inr (.inl ⟨h0, inI_false h1⟩)
    have HM := Lib.hid (Nm.mk_bad (n := n) (d := d) (by omega))
    clear hg
    rcases hbad with rfl | ⟨k1, k2⟩ | ⟨k1, k2, k3⟩
    · go_enter Try.func144, Try.ntmps144
      go_wp2_with fail
      go_returns
      exact ⟨ret_itm HM.out, by go_grown⟩
    all_goals
      have z0 : (d == 0) = false := by simpa using k1
      clear k1
      go_enter Try.func144, Try.ntmps144
      go_wp2_with (go_at_call 104; refine (spec_in _ _ _ _).mono ?_; rintro e w' ⟨rfl, rfl⟩)
      go_returns
      exact ⟨ret_itm HM.out, by go_grown⟩

end Go.Proofs.Ytmofcbpabdbjlaa
