/-
  What is proved: MakeNumber of the program and of the reference return n / d in lowest terms, or the missing value; the statement on it.
  Condition: the arguments are ints of 64 bits.
-/
import Derived.Test.YtmofcbpabdbjlaaGcd
namespace Go.Proofs.Ytmofcbpabdbjlaa
set_option maxRecDepth 8000
open Go.RowKit
set_option linter.unusedVariables false
set_option linter.unusedSimpArgs false

namespace Nm

theorem red_pos_eq {n d : Int} (h : 0 < d) : red n d = (n.tdiv (gcdI n d), d.tdiv (gcdI n d)) := by
  unfold red
  rw [if_neg (by omega), tdiv_gcd_left, tdiv_gcd_right]

theorem red_neg_eq {n d : Int} (h : d < 0) : red n d = ((-n).tdiv (gcdI (-n) (-d)), (-d).tdiv (gcdI (-n) (-d))) := by
  unfold red
  rw [if_pos h, tdiv_gcd_left, tdiv_gcd_right, gcdI_neg]

theorem tdiv_bd {n g : Int} {L : Int} (h1 : -L ≤ n) (h2 : n ≤ L) : -L ≤ n.tdiv g ∧ n.tdiv g ≤ L := by
  have h : (n.tdiv g).natAbs ≤ n.natAbs := by rw [Int.natAbs_tdiv]; exact Nat.div_le_self _ _
  omega

theorem mk_bad {n d : Int} (h : d = 0 ∨ ¬ (-4000000000000000000 ≤ n ∧ n ≤ 4000000000000000000) ∨ ¬ (-4000000000000000000 ≤ d ∧ d ≤ 4000000000000000000)) : mk n d = (0, 0) := by
  unfold mk
  rw [if_pos]
  simpa [inL] using h

theorem mk_good {n d : Int} (h0 : d ≠ 0) (h1 : -4000000000000000000 ≤ n ∧ n ≤ 4000000000000000000) (h2 : -4000000000000000000 ≤ d ∧ d ≤ 4000000000000000000) :
    mk n d = if inM (red n d) then red n d else (0, 0) := by
  unfold mk
  rw [if_neg]
  simp [inL, h0, h1, h2]

theorem isNum_red {n d : Int} (h0 : d ≠ 0) : isNum (red n d).1 (red n d).2 = inM (red n d) := by
  have h1 := red_pos n d h0
  have h2 := red_gcd n d h0
  unfold isNum inM
  rw [Bool.eq_iff_iff]
  simp only [decide_eq_true_eq]
  omega

end Nm

theorem emptyText : (⟨#[]⟩ : ByteArray).toList = [] := by rw [ByteArray.toList_eq]

theorem isNumT_nil (p q : Int) : isNumT p q ⟨#[]⟩ = Nm.isNum p q := by
  unfold isNumT
  rw [emptyText]
  rfl

/-- the facts that the walk takes of a fraction to be reduced: n1 / d1 with d1 positive, G its divisor -/
theorem red_facts {n d n1 d1 : Int} (hr : Nm.red n d = (n1.tdiv (Nm.gcdI n1 d1), d1.tdiv (Nm.gcdI n1 d1))) (h0 : d1 ≠ 0) (hn : -4000000000000000000 ≤ n1 ∧ n1 ≤ 4000000000000000000) (hd : -4000000000000000000 ≤ d1 ∧ d1 ≤ 4000000000000000000) :
    ∃ G p q : Int, Nm.gcdI n1 d1 = G ∧ 1 ≤ G ∧ G ≤ 4000000000000000000 ∧ n1.tdiv G = p ∧ d1.tdiv G = q ∧ Nm.red n d = (p, q) ∧ -4000000000000000000 ≤ p ∧ p ≤ 4000000000000000000 ∧ -4000000000000000000 ≤ q ∧ q ≤ 4000000000000000000 := by
  refine ⟨_, _, _, rfl, ?_, ?_, rfl, rfl, hr, (Nm.tdiv_bd hn.1 hn.2).1, (Nm.tdiv_bd hn.1 hn.2).2, (Nm.tdiv_bd hd.1 hd.2).1, (Nm.tdiv_bd hd.1 hd.2).2⟩
  · have := Nm.gcdI_pos n1 d1 h0; omega
  · have h1 := Int.le_of_dvd (a := Nm.gcdI n1 d1) (b := (d1.natAbs : Int)) (by omega) (Int.dvd_natAbs.2 (Nm.gcdI_dvd_right n1 d1))
    omega

def zeroI : Value := .agg #[.int .i64 0, .int .i64 0, .string ⟨#[]⟩]
theorem ret_itm {p q : Int} {r : Int × Int} (h : r = (p, q)) : Ending.returned (.agg #[.int .i64 p, .int .i64 q, .string ⟨#[]⟩]) = .returned (.agg #[.int .i64 r.1, .int .i64 r.2, .string ⟨#[]⟩]) := by rw [h]

set_option maxHeartbeats 1000000 in
theorem impl_make (n d : Int) (w : World) (hn : -9223372036854775808 ≤ n ∧ n ≤ 9223372036854775807) (hd : -9223372036854775808 ≤ d ∧ d ≤ 9223372036854775807) :
    Calls Try.prog 146 #[.int .i64 n, .int .i64 d] w fun e w' => e = .returned (.agg #[.int .i64 (Nm.mk n d).1, .int .i64 (Nm.mk n d).2, .string ⟨#[]⟩]) ∧ Below w.heap.size w w' := by
  obtain ⟨hn1, hn2⟩ := hn
  obtain ⟨hd1, hd2⟩ := hd
  by_cases hg : d ≠ 0 ∧ (-4000000000000000000 ≤ n ∧ n ≤ 4000000000000000000) ∧ (-4000000000000000000 ≤ d ∧ d ≤ 4000000000000000000)
  · obtain ⟨g0, ⟨g1, g2⟩, g3, g4⟩ := hg
    have hmk := Nm.mk_good g0 ⟨g1, g2⟩ ⟨g3, g4⟩
    have hin := Nm.isNum_red (n := n) g0
    have z0 : (d == 0) = false := by simpa using g0
    by_cases hs : d < 0
    · obtain ⟨G, p, q, hG, G1, G2, hp, hq, hr, p1, p2, q1, q2⟩ := red_facts (Nm.red_neg_eq (n := n) hs) (by omega) (by omega) (by omega)
      rw [hr] at hmk hin
      have HG := Lib.hid hG
      clear hr hG g0 hn1 hn2 hd1 hd2
      have zG : (G == 0) = false := by simp; omega
      cases hM : Nm.inM (p, q)
      all_goals
        rw [hM] at hmk hin
        have HM := Lib.hid (hmk.trans (by first | (rw [if_pos rfl]) | (rw [if_neg (by simp)])))
        have hI : isNumT p q ⟨#[]⟩ = _ := (isNumT_nil p q).trans hin
        clear hmk hin hM
        go_enter Try.func146, Try.ntmps146
        go_wp2_with fail
        refine (impl_gcd (-n) (-d) _ (by omega) (by omega)).mono ?_
        rintro e w1 ⟨rfl, hb1⟩
        obtain ⟨hc1, hf1⟩ := bcell hb1
        have B1 : Below w.heap.size w w1 := below_next (by go_grown) (Nat.le_refl _) hb1
        have z1 : w.heap.size ≤ w1.heap.size := B1.size
        have y1_0 : w.heap.size < w1.heap.size := by have := hb1.size; (try simp at this); omega
        have k1_0_0 : w1.cell? ⟨w.heap.size, 0, none⟩ = some (.int .i64 0) := by rw [hc1 _ _ (by (try simp); (try omega))]; go_simp
        have k1_0_1 : w1.cell? ⟨w.heap.size, 1, none⟩ = some (.int .i64 0) := by rw [hc1 _ _ (by (try simp); (try omega))]; go_simp
        have k1_0_2 : w1.cell? ⟨w.heap.size, 2, none⟩ = some (.string ⟨#[]⟩) := by rw [hc1 _ _ (by (try simp); (try omega))]; go_simp
        clear hc1
        rw [HG.out]
        go_wp2_with fail
        go_region
        go_wp2_with fail
        refine (impl_isnum p q ⟨#[]⟩ _).mono ?_
        rintro e w2 ⟨rfl, hb2⟩
        obtain ⟨hc2, hf2⟩ := bcell hb2
        have B2 : Below w.heap.size w w2 := below_next (by go_grown) (Nat.le_refl _) hb2
        have z2 : w.heap.size ≤ w2.heap.size := B2.size
        have y2_0 : w.heap.size < w2.heap.size := by have := hb2.size; (try simp at this); omega
        have y2_1 : w1.heap.size < w2.heap.size := by have := hb2.size; (try simp at this); omega
        have k2_0_0 : w2.cell? ⟨w.heap.size, 0, none⟩ = some (.int .i64 0) := by rw [hc2 _ _ (by (try simp); (try omega))]; go_simp
        have k2_0_1 : w2.cell? ⟨w.heap.size, 1, none⟩ = some (.int .i64 0) := by rw [hc2 _ _ (by (try simp); (try omega))]; go_simp
        have k2_0_2 : w2.cell? ⟨w.heap.size, 2, none⟩ = some (.string ⟨#[]⟩) := by rw [hc2 _ _ (by (try simp); (try omega))]; go_simp
        have k2_1_0 : w2.cell? ⟨w1.heap.size, 0, none⟩ = some (.int .i64 p) := by rw [hc2 _ _ (by (try simp); (try omega))]; go_simp
        have k2_1_1 : w2.cell? ⟨w1.heap.size, 1, none⟩ = some (.int .i64 q) := by rw [hc2 _ _ (by (try simp); (try omega))]; go_simp
        have k2_1_2 : w2.cell? ⟨w1.heap.size, 2, none⟩ = some (.string ⟨#[]⟩) := by rw [hc2 _ _ (by (try simp); (try omega))]; go_simp
        clear hc2
        go_wp2_with fail
        first
        | exact bodyPost_ret (v := .agg #[.int .i64 0, .int .i64 0, .string ⟨#[]⟩]) (by simp [results, Try.results146, go_sem, *]) rfl ⟨ret_itm HM.out, by go_grown⟩
        | exact bodyPost_ret (v := .agg #[.int .i64 p, .int .i64 q, .string ⟨#[]⟩]) (by simp [results, Try.results146, go_sem, *]) rfl ⟨ret_itm HM.out, by go_grown⟩
    · obtain ⟨G, p, q, hG, G1, G2, hp, hq, hr, p1, p2, q1, q2⟩ := red_facts (Nm.red_pos_eq (n := n) (by omega)) g0 ⟨g1, g2⟩ ⟨g3, g4⟩
      rw [hr] at hmk hin
      have HG := Lib.hid hG
      have g9 : ¬ d < 0 := hs
      clear hr hG g0 hn1 hn2 hd1 hd2
      have zG : (G == 0) = false := by simp; omega
      cases hM : Nm.inM (p, q)
      all_goals
        rw [hM] at hmk hin
        have HM := Lib.hid (hmk.trans (by first | (rw [if_pos rfl]) | (rw [if_neg (by simp)])))
        have hI : isNumT p q ⟨#[]⟩ = _ := (isNumT_nil p q).trans hin
        clear hmk hin hM
        go_enter Try.func146, Try.ntmps146
        go_wp2_with fail
        refine (impl_gcd n d _ (by omega) (by omega)).mono ?_
        rintro e w1 ⟨rfl, hb1⟩
        obtain ⟨hc1, hf1⟩ := bcell hb1
        have B1 : Below w.heap.size w w1 := below_next (by go_grown) (Nat.le_refl _) hb1
        have z1 : w.heap.size ≤ w1.heap.size := B1.size
        have y1_0 : w.heap.size < w1.heap.size := by have := hb1.size; (try simp at this); omega
        have k1_0_0 : w1.cell? ⟨w.heap.size, 0, none⟩ = some (.int .i64 0) := by rw [hc1 _ _ (by (try simp); (try omega))]; go_simp
        have k1_0_1 : w1.cell? ⟨w.heap.size, 1, none⟩ = some (.int .i64 0) := by rw [hc1 _ _ (by (try simp); (try omega))]; go_simp
        have k1_0_2 : w1.cell? ⟨w.heap.size, 2, none⟩ = some (.string ⟨#[]⟩) := by rw [hc1 _ _ (by (try simp); (try omega))]; go_simp
        clear hc1
        rw [HG.out]
        go_wp2_with fail
        go_region
        go_wp2_with fail
        refine (impl_isnum p q ⟨#[]⟩ _).mono ?_
        rintro e w2 ⟨rfl, hb2⟩
        obtain ⟨hc2, hf2⟩ := bcell hb2
        have B2 : Below w.heap.size w w2 := below_next (by go_grown) (Nat.le_refl _) hb2
        have z2 : w.heap.size ≤ w2.heap.size := B2.size
        have y2_0 : w.heap.size < w2.heap.size := by have := hb2.size; (try simp at this); omega
        have y2_1 : w1.heap.size < w2.heap.size := by have := hb2.size; (try simp at this); omega
        have k2_0_0 : w2.cell? ⟨w.heap.size, 0, none⟩ = some (.int .i64 0) := by rw [hc2 _ _ (by (try simp); (try omega))]; go_simp
        have k2_0_1 : w2.cell? ⟨w.heap.size, 1, none⟩ = some (.int .i64 0) := by rw [hc2 _ _ (by (try simp); (try omega))]; go_simp
        have k2_0_2 : w2.cell? ⟨w.heap.size, 2, none⟩ = some (.string ⟨#[]⟩) := by rw [hc2 _ _ (by (try simp); (try omega))]; go_simp
        have k2_1_0 : w2.cell? ⟨w1.heap.size, 0, none⟩ = some (.int .i64 p) := by rw [hc2 _ _ (by (try simp); (try omega))]; go_simp
        have k2_1_1 : w2.cell? ⟨w1.heap.size, 1, none⟩ = some (.int .i64 q) := by rw [hc2 _ _ (by (try simp); (try omega))]; go_simp
        have k2_1_2 : w2.cell? ⟨w1.heap.size, 2, none⟩ = some (.string ⟨#[]⟩) := by rw [hc2 _ _ (by (try simp); (try omega))]; go_simp
        clear hc2
        go_wp2_with fail
        first
        | exact bodyPost_ret (v := .agg #[.int .i64 0, .int .i64 0, .string ⟨#[]⟩]) (by simp [results, Try.results146, go_sem, *]) rfl ⟨ret_itm HM.out, by go_grown⟩
        | exact bodyPost_ret (v := .agg #[.int .i64 p, .int .i64 q, .string ⟨#[]⟩]) (by simp [results, Try.results146, go_sem, *]) rfl ⟨ret_itm HM.out, by go_grown⟩
  · have hbad : d = 0 ∨ (d ≠ 0 ∧ n < -4000000000000000000) ∨ (d ≠ 0 ∧ ¬ n < -4000000000000000000 ∧ 4000000000000000000 < n) ∨ (d ≠ 0 ∧ ¬ n < -4000000000000000000 ∧ ¬ 4000000000000000000 < n ∧ d < -4000000000000000000) ∨ (d ≠ 0 ∧ ¬ n < -4000000000000000000 ∧ ¬ 4000000000000000000 < n ∧ ¬ d < -4000000000000000000 ∧ 4000000000000000000 < d) := by omega
    have HM := Lib.hid (Nm.mk_bad (n := n) (d := d) (by omega))
    clear hg
    rcases hbad with rfl | ⟨k1, k2⟩ | ⟨k1, k2, k3⟩ | ⟨k1, k2, k3, k4⟩ | ⟨k1, k2, k3, k4, k5⟩
    · go_enter Try.func146, Try.ntmps146
      go_wp2_with fail
      go_returns
      exact ⟨ret_itm HM.out, by go_grown⟩
    all_goals
      have z0 : (d == 0) = false := by simpa using k1
      clear k1
      go_enter Try.func146, Try.ntmps146
      go_wp2_with fail
      go_returns
      exact ⟨ret_itm HM.out, by go_grown⟩

end Go.Proofs.Ytmofcbpabdbjlaa
