/-
  What is proved: what the functions gcd, l2Gcd, l2Abs, l1In and IsNumber of the program and of the reference return. MakeNumber of the program and of the reference return n / d in lowest terms, or the missing value; the statement on it. MakeNumber of the reference returns n / d in lowest terms, or the missing value, as the program does; the statement on it. the statement on MakeNumber.
  Condition: the integers of the greatest common divisor are not the least int. Condition: the arguments are ints of 64 bits.
-/
import Derived.BigQuiet
import Derived.Deep.Light
import Derived.Deep.QuietTactic
import Derived.Lib.Hide
import Derived.Test.YtmofcbpabdbjlaaGreatMz1
import Derived.Test.YtmofcbpabdbjlaaGreatMz4
namespace Go.Proofs.YtmofcbpabdbjlaaGreat

set_option maxRecDepth 8000

section

open Go.RowKit

theorem impl_gcd (a b : Int) (w : World) (ha : -9223372036854775807 ≤ a ∧ a ≤ 9223372036854775807) (hb : -9223372036854775807 ≤ b ∧ b ≤ 9223372036854775807) :
    Calls Tryz.prog 110 #[.int .i64 a, .int .i64 b] w fun e w' => e = .returned (.int .i64 (Nm.gcdI a b)) ∧ Below w.heap.size w w' := by
  obtain ⟨ha1, ha2⟩ := ha
  obtain ⟨hb1, hb2⟩ := hb
  obtain ⟨G, hG⟩ : ∃ G : Nat, G = Nat.gcd a.natAbs b.natAbs := ⟨_, rfl⟩
  have HG : Hid (Nm.gcdI a b = (G : Int) ∧ G = Nat.gcd a.natAbs b.natAbs) := ⟨by rw [hG]; rfl, hG⟩
  clear hG
  by_cases h1 : a < 0 <;> by_cases h2 : b < 0
  all_goals
    go_enter Tryz.func110, Tryz.ntmps110
    go_wp2
    go_loopw [0, 1] (fun p q wr => ∃ x y : Nat, p = .int .i64 x ∧ q = .int .i64 y ∧ x ≤ 9223372036854775807 ∧ y ≤ 9223372036854775807 ∧ Hid (Nat.gcd x y = G) ∧ Below w.heap.size w wr) (fun _ q _ => (intOf q).toNat)
    case atStart =>
      refine ⟨a.natAbs, b.natAbs, ?_, ?_, by omega, by omega, HG.out.2.symm, Below.refl _ _⟩
      · congr 1; omega
      · congr 1; omega
    case round =>
      obtain ⟨x, y, rfl, rfl, hx, hy, hg, hbel⟩ := hrel
      by_cases hy0 : y = 0
      · have hne : ((y : Int) != 0) = false := by simp [hy0]
        have hz := Lib.hid hy0
        clear hy0
        go_wp2
        go_ret
        exact ⟨zat (by rw [HG.out.1, ← hg.out, hz.out, Nat.gcd_zero_right]), hbel⟩
      · have hyp : 0 < y := by omega
        have hne : ((y : Int) != 0) = true := by simp; omega
        have hne2 : ((y : Int) == 0) = false := by simp; omega
        have hm : x % y < y := Nat.mod_lt _ hyp
        have hs : Hid (Nat.gcd y (x % y) = G) := (Nm.gcd_step x y).trans hg.out
        clear hy0
        go_wp2
        go_region
        all_goals
          go_roundw
          case rel => (repeat apply Exists.intro); exact ⟨⟨y, x % y, rfl, rfl, by omega, by omega, hs, hbel.drew⟩, rfl⟩
          case measure => simp [intOf]; omega

theorem spec_abs (a : Int) (w : World) (h : -9223372036854775807 ≤ a ∧ a ≤ 9223372036854775807) :
    Calls Tryz.prog 51 #[.int .i64 a] w fun e w' => e = .returned (.int .i64 (a.natAbs : Int)) ∧ w = w' := by
  obtain ⟨h1, h2⟩ := h
  by_cases h0 : a < 0
  all_goals
    go_enter Tryz.func51, Tryz.ntmps51
    go_wp2
    go_ret
    exact ⟨zat (by omega), rfl⟩

theorem spec_gcd (a b : Int) (w : World) (ha : -9223372036854775807 ≤ a ∧ a ≤ 9223372036854775807) (hb : -9223372036854775807 ≤ b ∧ b ≤ 9223372036854775807) :
    Calls Tryz.prog 105 #[.int .i64 a, .int .i64 b] w fun e w' => e = .returned (.int .i64 (Nm.gcdI a b)) ∧ Below w.heap.size w w' := by
  obtain ⟨p, hp⟩ : ∃ p : Nat, p = a.natAbs := ⟨_, rfl⟩
  obtain ⟨q, hq⟩ : ∃ q : Nat, q = b.natAbs := ⟨_, rfl⟩
  have hpb : p ≤ 9223372036854775807 := by omega
  have hqb : q ≤ 9223372036854775807 := by omega
  obtain ⟨G, hG⟩ : ∃ G : Nat, G = Nat.gcd p q := ⟨_, rfl⟩
  have HG : Hid (Nm.gcdI a b = (G : Int) ∧ G = Nat.gcd p q) := ⟨by rw [hG, hp, hq]; rfl, hG⟩
  clear hG
  have HA := Lib.hid ha
  have HB := Lib.hid hb
  have HP := Lib.hid hp
  have HQ := Lib.hid hq
  clear ha hb hp hq
  go_enter Tryz.func105, Tryz.ntmps105
  go_wp2_with fail
  refine (spec_abs _ _ HA.out).mono ?_
  rintro e w' ⟨rfl, rfl⟩
  rw [← HP.out]
  go_wp2_with fail
  refine (spec_abs _ _ HB.out).mono ?_
  rintro e w' ⟨rfl, rfl⟩
  rw [← HQ.out]
  go_wp2_with fail
  go_loopw [5, 6, 7] (fun p q _ wr => ∃ x y : Nat, p = .int .i64 x ∧ q = .int .i64 y ∧ x ≤ 9223372036854775807 ∧ y ≤ 9223372036854775807 ∧ Hid (Nat.gcd x y = G) ∧ Below w.heap.size w wr) (fun _ q _ _ => (intOf q).toNat)
  case atStart => exact ⟨p, q, rfl, rfl, hpb, hqb, HG.out.2.symm, Below.refl _ _⟩
  case round =>
    obtain ⟨x, y, rfl, rfl, hx, hy, hg, hbel⟩ := hrel
    by_cases hy0 : y = 0
    · have hne : ((y : Int) != 0) = false := by simp [hy0]
      have hz := Lib.hid hy0
      clear hy0
      go_wp2
      go_ret
      exact ⟨zat (by rw [HG.out.1, ← hg.out, hz.out, Nat.gcd_zero_right]), hbel⟩
    · have hyp : 0 < y := by omega
      have hne : ((y : Int) != 0) = true := by simp; omega
      have hne2 : ((y : Int) == 0) = false := by simp; omega
      have hm : x % y < y := Nat.mod_lt _ hyp
      have hs : Hid (Nat.gcd y (x % y) = G) := (Nm.gcd_step x y).trans hg.out
      clear hy0
      go_wp2
      all_goals
        go_roundw
        case rel => exact ⟨y, x % y, rfl, rfl, by omega, by omega, hs, hbel⟩
        case measure => simp [intOf]; omega

/-- an item is a number -/
def zas (n d : Int) (t : ByteArray) : Bool := t.toList.isEmpty && Nm.isNum n d

theorem isNumT_true {n d : Int} {t : ByteArray} (ht : t.toList = []) (h1 : 1 ≤ d) (h2 : d ≤ 999999999) (h3 : -999999999 ≤ n) (h4 : n ≤ 999999999) : zas n d t = (Nm.gcdI n d == 1) := by
  unfold zas Nm.isNum Nm.gcdI
  rw [ht, Bool.eq_iff_iff]
  simp [h1, h2, h3, h4]
  omega

theorem isNumT_false {n d : Int} {t : ByteArray} (h : ¬ (t.toList = [] ∧ 1 ≤ d ∧ d ≤ 999999999 ∧ -999999999 ≤ n ∧ n ≤ 999999999)) : zas n d t = false := by
  unfold zas Nm.isNum
  rw [Bool.eq_false_iff]
  intro h'
  simp only [Bool.and_eq_true, List.isEmpty_iff, decide_eq_true_eq] at h'
  exact h ⟨h'.1, h'.2.1, h'.2.2.1, h'.2.2.2.1, h'.2.2.2.2.1⟩

theorem zak (n d : Int) (t : ByteArray) (w : World) : Calls Tryz.prog 89 #[.agg #[.int .i64 n, .int .i64 d, .string t]] w fun e w' => e = .returned (.bool (zas n d t)) ∧ Below w.heap.size w w' := by
  go_enter Tryz.func89, Tryz.ntmps89
  go_wp2_with (go_at_call 110; refine (impl_gcd _ _ _ (by omega) (by omega)).mono ?_; rintro e w1 ⟨rfl, hb⟩)
  · go_ret
    exact ⟨zap (isNumT_true ‹_› ‹_› ‹_› ‹_› ‹_›).symm, ((Below.refl _ _).alloc (Nat.le_refl _) _).trans (hb.mono (by simp))⟩
  all_goals
    go_ret
    exact ⟨zap (isNumT_false (by rintro ⟨a1, a2, a3, a4, a5⟩; first | omega | contradiction)).symm, (Below.refl _ _).alloc (Nat.le_refl _) _⟩

theorem zam (n d : Int) (t : ByteArray) (w : World) : Calls Tryz.prog 98 #[.agg #[.int .i64 n, .int .i64 d, .string t]] w fun e w' => e = .returned (.bool (zas n d t)) ∧ Below w.heap.size w w' := by
  go_enter Tryz.func98, Tryz.ntmps98
  go_wp2_with (first | (go_at_call 83; refine (zbj _ _ _ _).mono ?_; rintro e w1 ⟨rfl, rfl⟩; simp only [inI_eq]) | (go_at_call 105; refine (spec_gcd _ _ _ (by omega) (by omega)).mono ?_; rintro e w1 ⟨rfl, hb⟩))
  · have h1 : 1 ≤ d ∧ d ≤ 999999999 := by assumption
    have h2 : -999999999 ≤ n ∧ n ≤ 999999999 := by assumption
    go_ret
    exact ⟨zap (isNumT_true ‹_› h1.1 h1.2 h2.1 h2.2).symm, ((Below.refl _ _).alloc (Nat.le_refl _) _).trans (hb.mono (by simp))⟩
  all_goals
    go_ret
    exact ⟨zap (isNumT_false (by rintro ⟨a1, a2, a3, a4, a5⟩; first | contradiction | (have := (‹¬ (_ ∧ _)›); exact this ⟨by assumption, by assumption⟩))).symm, (Below.refl _ _).alloc (Nat.le_refl _) _⟩

end

section

open Go.RowKit

set_option linter.unusedVariables false

set_option linter.unusedSimpArgs false

namespace Nm

theorem red_pos_eq {n d : Int} (h : 0 < d) : red n d = (n.tdiv (gcdI n d), d.tdiv (gcdI n d)) := by
  unfold red
  rw [if_neg (by omega), tdiv_gcd_left, tdiv_gcd_right]

theorem red_neg_eq {n d : Int} (h : d < 0) : red n d = ((-n).tdiv (gcdI (-n) (-d)), (-d).tdiv (gcdI (-n) (-d))) := by
  unfold red
  rw [if_pos h, tdiv_gcd_left, tdiv_gcd_right, gcdI_neg]

theorem tdiv_bd {n g : Int} {L : Int} (h1 : -L ≤ n) (h2 : n ≤ L) : -L ≤ n.tdiv g ∧ n.tdiv g ≤ L := by
  have h : (n.tdiv g).natAbs ≤ n.natAbs := by rw [Int.natAbs_tdiv]; exact Nat.div_le_self _ _
  omega

theorem mk_bad {n d : Int} (h : d = 0 ∨ ¬ (-4000000000000000000 ≤ n ∧ n ≤ 4000000000000000000) ∨ ¬ (-4000000000000000000 ≤ d ∧ d ≤ 4000000000000000000)) : mk n d = (0, 0) := by
  unfold mk
  rw [if_pos]
  simpa [inL] using h

theorem mk_good {n d : Int} (h0 : d ≠ 0) (h1 : -4000000000000000000 ≤ n ∧ n ≤ 4000000000000000000) (h2 : -4000000000000000000 ≤ d ∧ d ≤ 4000000000000000000) :
    mk n d = if inM (red n d) then red n d else (0, 0) := by
  unfold mk
  rw [if_neg]
  simp [inL, h0, h1, h2]

theorem isNum_red {n d : Int} (h0 : d ≠ 0) : isNum (red n d).1 (red n d).2 = inM (red n d) := by
  have h1 := red_pos n d h0
  have h2 := red_gcd n d h0
  unfold isNum inM
  rw [Bool.eq_iff_iff]
  simp only [decide_eq_true_eq]
  omega

end Nm

theorem emptyText : (⟨#[]⟩ : ByteArray).toList = [] := by rw [ByteArray.toList_eq]

theorem isNumT_nil (p q : Int) : zas p q ⟨#[]⟩ = Nm.isNum p q := by
  unfold zas
  rw [emptyText]
  rfl

/-- the facts that the walk takes of a fraction to be reduced: n1 / d1 with d1 positive, G its divisor -/
theorem red_facts {n d n1 d1 : Int} (hr : Nm.red n d = (n1.tdiv (Nm.gcdI n1 d1), d1.tdiv (Nm.gcdI n1 d1))) (h0 : d1 ≠ 0) (hn : -4000000000000000000 ≤ n1 ∧ n1 ≤ 4000000000000000000) (hd : -4000000000000000000 ≤ d1 ∧ d1 ≤ 4000000000000000000) :
    ∃ G p q : Int, Nm.gcdI n1 d1 = G ∧ 1 ≤ G ∧ G ≤ 4000000000000000000 ∧ n1.tdiv G = p ∧ d1.tdiv G = q ∧ Nm.red n d = (p, q) ∧ -4000000000000000000 ≤ p ∧ p ≤ 4000000000000000000 ∧ -4000000000000000000 ≤ q ∧ q ≤ 4000000000000000000 := by
  refine ⟨_, _, _, rfl, ?_, ?_, rfl, rfl, hr, (Nm.tdiv_bd hn.1 hn.2).1, (Nm.tdiv_bd hn.1 hn.2).2, (Nm.tdiv_bd hd.1 hd.2).1, (Nm.tdiv_bd hd.1 hd.2).2⟩
  · have := Nm.gcdI_pos n1 d1 h0; omega
  · have h1 := Int.le_of_dvd (a := Nm.gcdI n1 d1) (b := (d1.natAbs : Int)) (by omega) (Int.dvd_natAbs.2 (Nm.gcdI_dvd_right n1 d1))
    omega

theorem zar {p q : Int} {r : Int × Int} (h : r = (p, q)) : Ending.returned (.agg #[.int .i64 p, .int .i64 q, .string ⟨#[]⟩]) = .returned (.agg #[.int .i64 r.1, .int .i64 r.2, .string ⟨#[]⟩]) := by rw [h]

set_option maxHeartbeats 1000000 in
theorem impl_make (n d : Int) (w : World) (hn : -9223372036854775808 ≤ n ∧ n ≤ 9223372036854775807) (hd : -9223372036854775808 ≤ d ∧ d ≤ 9223372036854775807) :
    Calls Tryz.prog 90 #[.int .i64 n, .int .i64 d] w fun e w' => e = .returned (.agg #[.int .i64 (Nm.mk n d).1, .int .i64 (Nm.mk n d).2, .string ⟨#[]⟩]) ∧ Below w.heap.size w w' := by
  obtain ⟨hn1, hn2⟩ := hn
  obtain ⟨hd1, hd2⟩ := hd
  by_cases hg : d ≠ 0 ∧ (-4000000000000000000 ≤ n ∧ n ≤ 4000000000000000000) ∧ (-4000000000000000000 ≤ d ∧ d ≤ 4000000000000000000)
  · obtain ⟨g0, ⟨g1, g2⟩, g3, g4⟩ := hg
    have hmk := Nm.mk_good g0 ⟨g1, g2⟩ ⟨g3, g4⟩
    have hin := Nm.isNum_red (n := n) g0
    have z0 : (d == 0) = false := by simpa using g0
    by_cases hs : d < 0
    · obtain ⟨G, p, q, hG, G1, G2, hp, hq, hr, p1, p2, q1, q2⟩ := red_facts (Nm.red_neg_eq (n := n) hs) (by omega) (by omega) (by omega)
      rw [hr] at hmk hin
      have HG := Lib.hid hG
      clear hr hG g0 hn1 hn2 hd1 hd2
      have zG : (G == 0) = false := by simp; omega
      cases hM : Nm.inM (p, q)
      all_goals
        rw [hM] at hmk hin
        have HM := Lib.hid (hmk.trans (by first | (rw [if_pos rfl]) | (rw [if_neg (by simp)])))
        have hI : zas p q ⟨#[]⟩ = _ := (isNumT_nil p q).trans hin
        clear hmk hin hM
        go_enter Tryz.func90, Tryz.ntmps90
        go_wp2_with fail
        refine (impl_gcd (-n) (-d) _ (by omega) (by omega)).mono ?_
        rintro e w1 ⟨rfl, hb1⟩
        obtain ⟨hc1, hf1⟩ := bcell hb1
        have B1 : Below w.heap.size w w1 := zai (by go_grown) (Nat.le_refl _) hb1
        have z1 : w.heap.size ≤ w1.heap.size := B1.size
        have y1_0 : w.heap.size < w1.heap.size := by have := hb1.size; (try simp at this); omega
        have k1_0_0 : w1.cell? ⟨w.heap.size, 0, none⟩ = some (.int .i64 0) := by rw [hc1 _ _ (by (try simp); (try omega))]; go_simp
        have k1_0_1 : w1.cell? ⟨w.heap.size, 1, none⟩ = some (.int .i64 0) := by rw [hc1 _ _ (by (try simp); (try omega))]; go_simp
        have k1_0_2 : w1.cell? ⟨w.heap.size, 2, none⟩ = some (.string ⟨#[]⟩) := by rw [hc1 _ _ (by (try simp); (try omega))]; go_simp
        clear hc1
        rw [HG.out]
        go_wp2_with fail
        go_region
        go_wp2_with fail
        refine (zak p q ⟨#[]⟩ _).mono ?_
        rintro e w2 ⟨rfl, hb2⟩
        obtain ⟨hc2, hf2⟩ := bcell hb2
        have B2 : Below w.heap.size w w2 := zai (by go_grown) (Nat.le_refl _) hb2
        have z2 : w.heap.size ≤ w2.heap.size := B2.size
        have y2_0 : w.heap.size < w2.heap.size := by have := hb2.size; (try simp at this); omega
        have y2_1 : w1.heap.size < w2.heap.size := by have := hb2.size; (try simp at this); omega
        have k2_0_0 : w2.cell? ⟨w.heap.size, 0, none⟩ = some (.int .i64 0) := by rw [hc2 _ _ (by (try simp); (try omega))]; go_simp
        have k2_0_1 : w2.cell? ⟨w.heap.size, 1, none⟩ = some (.int .i64 0) := by rw [hc2 _ _ (by (try simp); (try omega))]; go_simp
        have k2_0_2 : w2.cell? ⟨w.heap.size, 2, none⟩ = some (.string ⟨#[]⟩) := by rw [hc2 _ _ (by (try simp); (try omega))]; go_simp
        have k2_1_0 : w2.cell? ⟨w1.heap.size, 0, none⟩ = some (.int .i64 p) := by rw [hc2 _ _ (by (try simp); (try omega))]; go_simp
        have k2_1_1 : w2.cell? ⟨w1.heap.size, 1, none⟩ = some (.int .i64 q) := by rw [hc2 _ _ (by (try simp); (try omega))]; go_simp
        have k2_1_2 : w2.cell? ⟨w1.heap.size, 2, none⟩ = some (.string ⟨#[]⟩) := by rw [hc2 _ _ (by (try simp); (try omega))]; go_simp
        clear hc2
        go_wp2_with fail
        first
        | exact bodyPost_ret (v := .agg #[.int .i64 0, .int .i64 0, .string ⟨#[]⟩]) (by simp [results, Tryz.results90, go_sem, *]) rfl ⟨zar HM.out, by go_grown⟩
        | exact bodyPost_ret (v := .agg #[.int .i64 p, .int .i64 q, .string ⟨#[]⟩]) (by simp [results, Tryz.results90, go_sem, *]) rfl ⟨zar HM.out, by go_grown⟩
    · obtain ⟨G, p, q, hG, G1, G2, hp, hq, hr, p1, p2, q1, q2⟩ := red_facts (Nm.red_pos_eq (n := n) (by omega)) g0 ⟨g1, g2⟩ ⟨g3, g4⟩
      rw [hr] at hmk hin
      have HG := Lib.hid hG
      have g9 : ¬ d < 0 := hs
      clear hr hG g0 hn1 hn2 hd1 hd2
      have zG : (G == 0) = false := by simp; omega
      cases hM : Nm.inM (p, q)
      all_goals
        rw [hM] at hmk hin
        have HM := Lib.hid (hmk.trans (by first | (rw [if_pos rfl]) | (rw [if_neg (by simp)])))
        have hI : zas p q ⟨#[]⟩ = _ := (isNumT_nil p q).trans hin
        clear hmk hin hM
        go_enter Tryz.func90, Tryz.ntmps90
        go_wp2_with fail
        refine (impl_gcd n d _ (by omega) (by omega)).mono ?_
        rintro e w1 ⟨rfl, hb1⟩
        obtain ⟨hc1, hf1⟩ := bcell hb1
        have B1 : Below w.heap.size w w1 := zai (by go_grown) (Nat.le_refl _) hb1
        have z1 : w.heap.size ≤ w1.heap.size := B1.size
        have y1_0 : w.heap.size < w1.heap.size := by have := hb1.size; (try simp at this); omega
        have k1_0_0 : w1.cell? ⟨w.heap.size, 0, none⟩ = some (.int .i64 0) := by rw [hc1 _ _ (by (try simp); (try omega))]; go_simp
        have k1_0_1 : w1.cell? ⟨w.heap.size, 1, none⟩ = some (.int .i64 0) := by rw [hc1 _ _ (by (try simp); (try omega))]; go_simp
        have k1_0_2 : w1.cell? ⟨w.heap.size, 2, none⟩ = some (.string ⟨#[]⟩) := by rw [hc1 _ _ (by (try simp); (try omega))]; go_simp
        clear hc1
        rw [HG.out]
        go_wp2_with fail
        go_region
        go_wp2_with fail
        refine (zak p q ⟨#[]⟩ _).mono ?_
        rintro e w2 ⟨rfl, hb2⟩
        obtain ⟨hc2, hf2⟩ := bcell hb2
        have B2 : Below w.heap.size w w2 := zai (by go_grown) (Nat.le_refl _) hb2
        have z2 : w.heap.size ≤ w2.heap.size := B2.size
        have y2_0 : w.heap.size < w2.heap.size := by have := hb2.size; (try simp at this); omega
        have y2_1 : w1.heap.size < w2.heap.size := by have := hb2.size; (try simp at this); omega
        have k2_0_0 : w2.cell? ⟨w.heap.size, 0, none⟩ = some (.int .i64 0) := by rw [hc2 _ _ (by (try simp); (try omega))]; go_simp
        have k2_0_1 : w2.cell? ⟨w.heap.size, 1, none⟩ = some (.int .i64 0) := by rw [hc2 _ _ (by (try simp); (try omega))]; go_simp
        have k2_0_2 : w2.cell? ⟨w.heap.size, 2, none⟩ = some (.string ⟨#[]⟩) := by rw [hc2 _ _ (by (try simp); (try omega))]; go_simp
        have k2_1_0 : w2.cell? ⟨w1.heap.size, 0, none⟩ = some (.int .i64 p) := by rw [hc2 _ _ (by (try simp); (try omega))]; go_simp
        have k2_1_1 : w2.cell? ⟨w1.heap.size, 1, none⟩ = some (.int .i64 q) := by rw [hc2 _ _ (by (try simp); (try omega))]; go_simp
        have k2_1_2 : w2.cell? ⟨w1.heap.size, 2, none⟩ = some (.string ⟨#[]⟩) := by rw [hc2 _ _ (by (try simp); (try omega))]; go_simp
        clear hc2
        go_wp2_with fail
        first
        | exact bodyPost_ret (v := .agg #[.int .i64 0, .int .i64 0, .string ⟨#[]⟩]) (by simp [results, Tryz.results90, go_sem, *]) rfl ⟨zar HM.out, by go_grown⟩
        | exact bodyPost_ret (v := .agg #[.int .i64 p, .int .i64 q, .string ⟨#[]⟩]) (by simp [results, Tryz.results90, go_sem, *]) rfl ⟨zar HM.out, by go_grown⟩
  · have hbad : d = 0 ∨ (d ≠ 0 ∧ n < -4000000000000000000) ∨ (d ≠ 0 ∧ ¬ n < -4000000000000000000 ∧ 4000000000000000000 < n) ∨ (d ≠ 0 ∧ ¬ n < -4000000000000000000 ∧ ¬ 4000000000000000000 < n ∧ d < -4000000000000000000) ∨ (d ≠ 0 ∧ ¬ n < -4000000000000000000 ∧ ¬ 4000000000000000000 < n ∧ ¬ d < -4000000000000000000 ∧ 4000000000000000000 < d) := by omega
    have HM := Lib.hid (Nm.mk_bad (n := n) (d := d) (by omega))
    clear hg
    rcases hbad with rfl | ⟨k1, k2⟩ | ⟨k1, k2, k3⟩ | ⟨k1, k2, k3, k4⟩ | ⟨k1, k2, k3, k4, k5⟩
    · go_enter Tryz.func90, Tryz.ntmps90
      go_wp2_with fail
      go_returns
      exact ⟨zar HM.out, by go_grown⟩
    all_goals
      have z0 : (d == 0) = false := by simpa using k1
      clear k1
      go_enter Tryz.func90, Tryz.ntmps90
      go_wp2_with fail
      go_returns
      exact ⟨zar HM.out, by go_grown⟩

end

section

open Go.RowKit

set_option linter.unusedVariables false

set_option linter.unusedSimpArgs false

theorem inM_true {p q : Int} (h : Nm.inM (p, q) = true) : inI p (-999999999) 999999999 = true ∧ ¬ 999999999 < q := by
  simp only [Nm.inM, decide_eq_true_eq] at h
  exact ⟨inI_true ⟨h.1, h.2.1⟩, by omega⟩

theorem inM_false {p q : Int} (h : Nm.inM (p, q) = false) : inI p (-999999999) 999999999 = false ∨ (inI p (-999999999) 999999999 = true ∧ 999999999 < q) := by
  simp only [Nm.inM, decide_eq_false_iff_not] at h
  by_cases h1 : -999999999 ≤ p ∧ p ≤ 999999999
  · exact .inr ⟨inI_true h1, by omega⟩
  · exact .inl (inI_false h1)

theorem inM_cases (p q : Int) : (Nm.inM (p, q) = true ∧ inI p (-999999999) 999999999 = true ∧ ¬ 999999999 < q) ∨ (Nm.inM (p, q) = false ∧ inI p (-999999999) 999999999 = false) ∨ (Nm.inM (p, q) = false ∧ inI p (-999999999) 999999999 = true ∧ 999999999 < q) := by
  cases h : Nm.inM (p, q)
  · rcases inM_false h with h1 | ⟨h1, h2⟩
    · exact .inr (.inl ⟨rfl, h1⟩)
    · exact .inr (.inr ⟨rfl, h1, h2⟩)
  · obtain ⟨h1, h2⟩ := inM_true h
    exact .inl ⟨rfl, h1, h2⟩

set_option maxHeartbeats 1000000 in
theorem spec_make (n d : Int) (w : World) (hn : -9223372036854775808 ≤ n ∧ n ≤ 9223372036854775807) (hd : -9223372036854775808 ≤ d ∧ d ≤ 9223372036854775807) :
    Calls Tryz.prog 87 #[.int .i64 n, .int .i64 d] w fun e w' => e = .returned (.agg #[.int .i64 (Nm.mk n d).1, .int .i64 (Nm.mk n d).2, .string ⟨#[]⟩]) ∧ Below w.heap.size w w' := by
  obtain ⟨hn1, hn2⟩ := hn
  obtain ⟨hd1, hd2⟩ := hd
  by_cases hg : d ≠ 0 ∧ (-4000000000000000000 ≤ n ∧ n ≤ 4000000000000000000) ∧ (-4000000000000000000 ≤ d ∧ d ≤ 4000000000000000000)
  · obtain ⟨g0, ⟨g1, g2⟩, g3, g4⟩ := hg
    have hmk := Nm.mk_good g0 ⟨g1, g2⟩ ⟨g3, g4⟩
    have z0 : (d == 0) = false := by simpa using g0
    have i1 := inI_true ⟨g1, g2⟩
    have i2 := inI_true ⟨g3, g4⟩
    by_cases hs : d < 0
    · obtain ⟨G, p, q, hG, G1, G2, hp, hq, hr, p1, p2, q1, q2⟩ := red_facts (Nm.red_neg_eq (n := n) hs) (by omega) (by omega) (by omega)
      rw [hr] at hmk
      rw [Nm.gcdI_neg] at hG
      have hp1 : n.tdiv G = -p := by rw [← hp, Int.neg_tdiv, Int.neg_neg]
      have hq1 : d.tdiv G = -q := by rw [← hq, Int.neg_tdiv, Int.neg_neg]
      have hp2 : n.tdiv (-G) = p := by rw [Int.tdiv_neg, hp1, Int.neg_neg]
      have hq2 : d.tdiv (-G) = q := by rw [Int.tdiv_neg, hq1, Int.neg_neg]
      have HG := Lib.hid hG
      clear hr hG g0 hn1 hn2 hd1 hd2 hp hq
      have zG : (G == 0) = false := by simp; omega
      have zG2 : (-G == 0) = false := by simp; omega
      rcases inM_cases p q with ⟨hM, m1, m2⟩ | ⟨hM, m1⟩ | ⟨hM, m1, m2⟩
      all_goals
        rw [hM] at hmk
        have HM := Lib.hid (hmk.trans (by first | (rw [if_pos rfl]) | (rw [if_neg (by simp)])))
        clear hmk hM
        go_enter Tryz.func87, Tryz.ntmps87
        go_wp2_with (go_at_call 83; refine (zbj _ _ _ _).mono ?_; rintro e w' ⟨rfl, rfl⟩)
        refine (spec_gcd n d _ (by omega) (by omega)).mono ?_
        rintro e w1 ⟨rfl, hb1⟩
        obtain ⟨hc1, hf1⟩ := bcell hb1
        have B1 : Below w.heap.size w w1 := zai (by go_grown) (Nat.le_refl _) hb1
        have z1 : w.heap.size ≤ w1.heap.size := B1.size
        have y1_0 : w.heap.size < w1.heap.size := by have := hb1.size; (try simp at this); omega
        have k1_0_0 : w1.cell? ⟨w.heap.size, 0, none⟩ = some (.int .i64 0) := by rw [hc1 _ _ (by (try simp); (try omega))]; go_simp
        have k1_0_1 : w1.cell? ⟨w.heap.size, 1, none⟩ = some (.int .i64 0) := by rw [hc1 _ _ (by (try simp); (try omega))]; go_simp
        have k1_0_2 : w1.cell? ⟨w.heap.size, 2, none⟩ = some (.string ⟨#[]⟩) := by rw [hc1 _ _ (by (try simp); (try omega))]; go_simp
        clear hc1
        rw [HG.out]
        go_wp2_with fail
        go_region
        go_wp2_with (go_at_call 83; refine (zbj _ _ _ _).mono ?_; rintro e w' ⟨rfl, rfl⟩)
        first
        | exact bodyPost_ret (v := .agg #[.int .i64 0, .int .i64 0, .string ⟨#[]⟩]) (by simp [results, Tryz.results87, go_sem, *]) rfl ⟨zar HM.out, by go_grown⟩
        | exact bodyPost_ret (v := .agg #[.int .i64 p, .int .i64 q, .string ⟨#[]⟩]) (by simp [results, Tryz.results87, go_sem, *]) rfl ⟨zar HM.out, by go_grown⟩
    · obtain ⟨G, p, q, hG, G1, G2, hp, hq, hr, p1, p2, q1, q2⟩ := red_facts (Nm.red_pos_eq (n := n) (by omega)) g0 ⟨g1, g2⟩ ⟨g3, g4⟩
      rw [hr] at hmk
      have HG := Lib.hid hG
      clear hr hG g0 hn1 hn2 hd1 hd2
      have zG : (G == 0) = false := by simp; omega
      have g9 : ¬ d < 0 := hs
      rcases inM_cases p q with ⟨hM, m1, m2⟩ | ⟨hM, m1⟩ | ⟨hM, m1, m2⟩
      all_goals
        rw [hM] at hmk
        have HM := Lib.hid (hmk.trans (by first | (rw [if_pos rfl]) | (rw [if_neg (by simp)])))
        clear hmk hM
        go_enter Tryz.func87, Tryz.ntmps87
        go_wp2_with (go_at_call 83; refine (zbj _ _ _ _).mono ?_; rintro e w' ⟨rfl, rfl⟩)
        refine (spec_gcd n d _ (by omega) (by omega)).mono ?_
        rintro e w1 ⟨rfl, hb1⟩
        obtain ⟨hc1, hf1⟩ := bcell hb1
        have B1 : Below w.heap.size w w1 := zai (by go_grown) (Nat.le_refl _) hb1
        have z1 : w.heap.size ≤ w1.heap.size := B1.size
        have y1_0 : w.heap.size < w1.heap.size := by have := hb1.size; (try simp at this); omega
        have k1_0_0 : w1.cell? ⟨w.heap.size, 0, none⟩ = some (.int .i64 0) := by rw [hc1 _ _ (by (try simp); (try omega))]; go_simp
        have k1_0_1 : w1.cell? ⟨w.heap.size, 1, none⟩ = some (.int .i64 0) := by rw [hc1 _ _ (by (try simp); (try omega))]; go_simp
        have k1_0_2 : w1.cell? ⟨w.heap.size, 2, none⟩ = some (.string ⟨#[]⟩) := by rw [hc1 _ _ (by (try simp); (try omega))]; go_simp
        clear hc1
        rw [HG.out]
        go_wp2_with fail
        go_region
        go_wp2_with (go_at_call 83; refine (zbj _ _ _ _).mono ?_; rintro e w' ⟨rfl, rfl⟩)
        first
        | exact bodyPost_ret (v := .agg #[.int .i64 0, .int .i64 0, .string ⟨#[]⟩]) (by simp [results, Tryz.results87, go_sem, *]) rfl ⟨zar HM.out, by go_grown⟩
        | exact bodyPost_ret (v := .agg #[.int .i64 p, .int .i64 q, .string ⟨#[]⟩]) (by simp [results, Tryz.results87, go_sem, *]) rfl ⟨zar HM.out, by go_grown⟩
  · have hbad : d = 0 ∨ (d ≠ 0 ∧ inI n (-4000000000000000000) 4000000000000000000 = false) ∨ (d ≠ 0 ∧ inI n (-4000000000000000000) 4000000000000000000 = true ∧ inI d (-4000000000000000000) 4000000000000000000 = false) := by
      by_cases h0 : d = 0
      · exact .inl h0
      · by_cases h1 : -4000000000000000000 ≤ n ∧ n ≤ 4000000000000000000
        · exact .inr (.inr ⟨h0, inI_true h1, inI_false (fun h2 => hg ⟨h0, h1, h2⟩)⟩)
        · exact .inr (.inl ⟨h0, inI_false h1⟩)
    have HM := Lib.hid (Nm.mk_bad (n := n) (d := d) (by omega))
    clear hg
    rcases hbad with rfl | ⟨k1, k2⟩ | ⟨k1, k2, k3⟩
    · go_enter Tryz.func87, Tryz.ntmps87
      go_wp2_with fail
      go_returns
      exact ⟨zar HM.out, by go_grown⟩
    all_goals
      have z0 : (d == 0) = false := by simpa using k1
      clear k1
      go_enter Tryz.func87, Tryz.ntmps87
      go_wp2_with (go_at_call 83; refine (zbj _ _ _ _).mono ?_; rintro e w' ⟨rfl, rfl⟩)
      go_returns
      exact ⟨zar HM.out, by go_grown⟩

end

section

open Go.RowKit

set_option linter.unusedVariables false

set_option linter.unusedSimpArgs false

end

end Go.Proofs.YtmofcbpabdbjlaaGreat
