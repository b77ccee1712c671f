/-
  What is proved: what the functions gcd, l2Gcd, l2Abs, l1In and IsNumber of the program and of the reference return.
  Condition: the integers of the greatest common divisor are not the least int.
-/
import Derived.Test.YtmofcbpabdbjlaaBase
import Derived.Test.YtmofcbpabdbjlaaNum
import Derived.Lib.Hide
import Derived.Deep.Light
import Derived.BigQuiet
import Derived.Deep.QuietTactic
namespace Go.Proofs.Ytmofcbpabdbjlaa
set_option maxRecDepth 8000
open Go.RowKit

theorem impl_gcd (a b : Int) (w : World) (ha : -9223372036854775807 ≤ a ∧ a ≤ 9223372036854775807) (hb : -9223372036854775807 ≤ b ∧ b ≤ 9223372036854775807) :
    Calls Try.prog 194 #[.int .i64 a, .int .i64 b] w fun e w' => e = .returned (.int .i64 (Nm.gcdI a b)) ∧ Below w.heap.size w w' := by
  obtain ⟨ha1, ha2⟩ := ha
  obtain ⟨hb1, hb2⟩ := hb
  obtain ⟨G, hG⟩ : ∃ G : Nat, G = Nat.gcd a.natAbs b.natAbs := ⟨_, rfl⟩
  have HG : Hid (Nm.gcdI a b = (G : Int) ∧ G = Nat.gcd a.natAbs b.natAbs) := ⟨by rw [hG]; rfl, hG⟩
  clear hG
  by_cases h1 : a < 0 <;> by_cases h2 : b < 0
  all_goals
    go_enter Try.func194, Try.ntmps194
    go_wp2
    go_loopw [0, 1] (fun p q wr => ∃ x y : Nat, p = .int .i64 x ∧ q = .int .i64 y ∧ x ≤ 9223372036854775807 ∧ y ≤ 9223372036854775807 ∧ Hid (Nat.gcd x y = G) ∧ Below w.heap.size w wr) (fun _ q _ => (intOf q).toNat)
    case atStart =>
      refine ⟨a.natAbs, b.natAbs, ?_, ?_, by omega, by omega, HG.out.2.symm, Below.refl _ _⟩
      · congr 1; omega
      · congr 1; omega
    case round =>
      obtain ⟨x, y, rfl, rfl, hx, hy, hg, hbel⟩ := hrel
      by_cases hy0 : y = 0
      · have hne : ((y : Int) != 0) = false := by simp [hy0]
        have hz := Lib.hid hy0
        clear hy0
        go_wp2
        go_ret
        exact ⟨ret_int (by rw [HG.out.1, ← hg.out, hz.out, Nat.gcd_zero_right]), hbel⟩
      · have hyp : 0 < y := by omega
        have hne : ((y : Int) != 0) = true := by simp; omega
        have hne2 : ((y : Int) == 0) = false := by simp; omega
        have hm : x % y < y := Nat.mod_lt _ hyp
        have hs : Hid (Nat.gcd y (x % y) = G) := (Nm.gcd_step x y).trans hg.out
        clear hy0
        go_wp2
        go_region
        all_goals
          go_roundw
          case rel => (repeat apply Exists.intro); exact ⟨⟨y, x % y, rfl, rfl, by omega, by omega, hs, hbel.drew⟩, rfl⟩
          case measure => simp [intOf]; omega
theorem spec_abs (a : Int) (w : World) (h : -9223372036854775807 ≤ a ∧ a ≤ 9223372036854775807) :
    Calls Try.prog 157 #[.int .i64 a] w fun e w' => e = .returned (.int .i64 (a.natAbs : Int)) ∧ w = w' := by
  obtain ⟨h1, h2⟩ := h
  by_cases h0 : a < 0
  all_goals
    go_enter Try.func157, Try.ntmps157
    go_wp2
    go_ret
    exact ⟨ret_int (by omega), rfl⟩

theorem spec_gcd (a b : Int) (w : World) (ha : -9223372036854775807 ≤ a ∧ a ≤ 9223372036854775807) (hb : -9223372036854775807 ≤ b ∧ b ≤ 9223372036854775807) :
    Calls Try.prog 193 #[.int .i64 a, .int .i64 b] w fun e w' => e = .returned (.int .i64 (Nm.gcdI a b)) ∧ Below w.heap.size w w' := by
  obtain ⟨p, hp⟩ : ∃ p : Nat, p = a.natAbs := ⟨_, rfl⟩
  obtain ⟨q, hq⟩ : ∃ q : Nat, q = b.natAbs := ⟨_, rfl⟩
  have hpb : p ≤ 9223372036854775807 := by omega
  have hqb : q ≤ 9223372036854775807 := by omega
  obtain ⟨G, hG⟩ : ∃ G : Nat, G = Nat.gcd p q := ⟨_, rfl⟩
  have HG : Hid (Nm.gcdI a b = (G : Int) ∧ G = Nat.gcd p q) := ⟨by rw [hG, hp, hq]; rfl, hG⟩
  clear hG
  have HA := Lib.hid ha
  have HB := Lib.hid hb
  have HP := Lib.hid hp
  have HQ := Lib.hid hq
  clear ha hb hp hq
  go_enter Try.func193, Try.ntmps193
  go_wp2_with fail
  refine (spec_abs _ _ HA.out).mono ?_
  rintro e w' ⟨rfl, rfl⟩
  rw [← HP.out]
  go_wp2_with fail
  refine (spec_abs _ _ HB.out).mono ?_
  rintro e w' ⟨rfl, rfl⟩
  rw [← HQ.out]
  go_wp2_with fail
  go_loopw [5, 6, 7] (fun p q _ wr => ∃ x y : Nat, p = .int .i64 x ∧ q = .int .i64 y ∧ x ≤ 9223372036854775807 ∧ y ≤ 9223372036854775807 ∧ Hid (Nat.gcd x y = G) ∧ Below w.heap.size w wr) (fun _ q _ _ => (intOf q).toNat)
  case atStart => exact ⟨p, q, rfl, rfl, hpb, hqb, HG.out.2.symm, Below.refl _ _⟩
  case round =>
    obtain ⟨x, y, rfl, rfl, hx, hy, hg, hbel⟩ := hrel
    by_cases hy0 : y = 0
    · have hne : ((y : Int) != 0) = false := by simp [hy0]
      have hz := Lib.hid hy0
      clear hy0
      go_wp2
      go_ret
      exact ⟨ret_int (by rw [HG.out.1, ← hg.out, hz.out, Nat.gcd_zero_right]), hbel⟩
    · have hyp : 0 < y := by omega
      have hne : ((y : Int) != 0) = true := by simp; omega
      have hne2 : ((y : Int) == 0) = false := by simp; omega
      have hm : x % y < y := Nat.mod_lt _ hyp
      have hs : Hid (Nat.gcd y (x % y) = G) := (Nm.gcd_step x y).trans hg.out
      clear hy0
      go_wp2
      all_goals
        go_roundw
        case rel => exact ⟨y, x % y, rfl, rfl, by omega, by omega, hs, hbel⟩
        case measure => simp [intOf]; omega

/-- an item is a number -/
def isNumT (n d : Int) (t : ByteArray) : Bool := t.toList.isEmpty && Nm.isNum n d

theorem isNumT_true {n d : Int} {t : ByteArray} (ht : t.toList = []) (h1 : 1 ≤ d) (h2 : d ≤ 999999999) (h3 : -999999999 ≤ n) (h4 : n ≤ 999999999) : isNumT n d t = (Nm.gcdI n d == 1) := by
  unfold isNumT Nm.isNum Nm.gcdI
  rw [ht, Bool.eq_iff_iff]
  simp [h1, h2, h3, h4]
  omega

theorem isNumT_false {n d : Int} {t : ByteArray} (h : ¬ (t.toList = [] ∧ 1 ≤ d ∧ d ≤ 999999999 ∧ -999999999 ≤ n ∧ n ≤ 999999999)) : isNumT n d t = false := by
  unfold isNumT Nm.isNum
  rw [Bool.eq_false_iff]
  intro h'
  simp only [Bool.and_eq_true, List.isEmpty_iff, decide_eq_true_eq] at h'
  exact h ⟨h'.1, h'.2.1, h'.2.2.1, h'.2.2.2.1, h'.2.2.2.2.1⟩

theorem impl_isnum (n d : Int) (t : ByteArray) (w : World) : Calls Try.prog 156 #[.agg #[.int .i64 n, .int .i64 d, .string t]] w fun e w' => e = .returned (.bool (isNumT n d t)) ∧ Below w.heap.size w w' := by
  go_enter Try.func156, Try.ntmps156
  go_wp2_with (go_at_call 194; refine (impl_gcd _ _ _ (by omega) (by omega)).mono ?_; rintro e w1 ⟨rfl, hb⟩)
  · go_ret
    exact ⟨ret_bool (isNumT_true ‹_› ‹_› ‹_› ‹_› ‹_›).symm, ((Below.refl _ _).alloc (Nat.le_refl _) _).trans (hb.mono (by simp))⟩
  all_goals
    go_ret
    exact ⟨ret_bool (isNumT_false (by rintro ⟨a1, a2, a3, a4, a5⟩; first | omega | contradiction)).symm, (Below.refl _ _).alloc (Nat.le_refl _) _⟩

theorem spec_isnum (n d : Int) (t : ByteArray) (w : World) : Calls Try.prog 155 #[.agg #[.int .i64 n, .int .i64 d, .string t]] w fun e w' => e = .returned (.bool (isNumT n d t)) ∧ Below w.heap.size w w' := by
  go_enter Try.func155, Try.ntmps155
  go_wp2_with (first | (go_at_call 104; refine (spec_in _ _ _ _).mono ?_; rintro e w1 ⟨rfl, rfl⟩; simp only [inI_eq]) | (go_at_call 193; refine (spec_gcd _ _ _ (by omega) (by omega)).mono ?_; rintro e w1 ⟨rfl, hb⟩))
  · have h1 : 1 ≤ d ∧ d ≤ 999999999 := by assumption
    have h2 : -999999999 ≤ n ∧ n ≤ 999999999 := by assumption
    go_ret
    exact ⟨ret_bool (isNumT_true ‹_› h1.1 h1.2 h2.1 h2.2).symm, ((Below.refl _ _).alloc (Nat.le_refl _) _).trans (hb.mono (by simp))⟩
  all_goals
    go_ret
    exact ⟨ret_bool (isNumT_false (by rintro ⟨a1, a2, a3, a4, a5⟩; first | contradiction | (have := (‹¬ (_ ∧ _)›); exact this ⟨by assumption, by assumption⟩))).symm, (Below.refl _ _).alloc (Nat.le_refl _) _⟩

theorem laws_toItem (n d : Int) (t : ByteArray) (w : World) : Calls Try.prog 145 #[.agg #[.int .i64 n, .int .i64 d, .string t]] w fun e w' => e = .returned (.agg #[.int .i64 n, .int .i64 d, .string t]) ∧ Below w.heap.size w w' := by
  go_enter Try.func145, Try.ntmps145
  go_wp2_with fail
  go_returns
  exact ⟨rfl, by go_grown⟩

theorem laws_szItem (n d l : Int) (t : ByteArray) (w : World) (ht : t.size ≤ maxLen) (hl : 0 ≤ l ∧ l ≤ 1048576) : Calls Try.prog 143 #[.agg #[.int .i64 n, .int .i64 d, .string t], .int .i64 l] w fun e w' => e = .returned (.int .i64 (if l < t.size then -1 else l - t.size)) ∧ Below w.heap.size w w' := by
  obtain ⟨h1, h2⟩ := hl
  unfold maxLen at ht
  by_cases h3 : l < t.size
  · rw [if_pos h3]
    have h4 : l - t.size < 0 := by omega
    go_enter Try.func143, Try.ntmps143
    go_wp2_with fail
    go_ret
    exact ⟨rfl, by go_grown⟩
  · rw [if_neg h3]
    have h4 : 0 ≤ l - t.size := by omega
    go_enter Try.func143, Try.ntmps143
    go_wp2_with fail
    go_ret
    exact ⟨rfl, by go_grown⟩

end Go.Proofs.Ytmofcbpabdbjlaa
