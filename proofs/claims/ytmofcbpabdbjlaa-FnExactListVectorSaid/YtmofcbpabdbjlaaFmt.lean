/-
  What is proved: FormatInt of the program and of the reference return the decimal text of every int.
  Condition: the argument is an int of 64 bits.
-/
import Derived.Test.YtmofcbpabdbjlaaRow
import Derived.WalkLawsBesides
import Derived.WalkSpells
namespace Go.Proofs.Ytmofcbpabdbjlaa
set_option maxRecDepth 8000
open Go.RowKit
set_option linter.unusedVariables false
set_option linter.unusedSimpArgs false

/-- the digit d as a byte -/
def dch (d : Nat) : UInt8 := UInt8.ofNat (48 + d)

/-- the decimal digits of a natural number; none of 0 -/
def dig (n : Nat) : List UInt8 := if h : n = 0 then [] else dig (n / 10) ++ [dch (n % 10)]
termination_by n
decreasing_by omega

theorem dig_zero : dig 0 = [] := by rw [dig]; simp

theorem dig_pos {n : Nat} (h : 0 < n) : dig n = dig (n / 10) ++ [dch (n % 10)] := by
  rw [dig]
  simp [show ¬ n = 0 by omega]

theorem dig_len (n : Nat) : (dig n).length ≤ 1 + n / 10 := by
  by_cases h : n = 0
  · subst h; rw [dig_zero]; simp
  · rw [dig_pos (by omega), List.length_append]
    have := dig_len (n / 10)
    by_cases h9 : n / 10 = 0
    · rw [h9, dig_zero] at *; simp
    · simp; omega
termination_by n
decreasing_by omega

theorem dig_ne {n : Nat} (h : 0 < n) : 0 < (dig n).length := by rw [dig_pos h]; simp

/-- the text of an int -/
def fmtI (n : Int) : List UInt8 := if n = 0 then [48] else if n < 0 then 45 :: dig n.natAbs else dig n.natAbs
def bstr (l : List UInt8) : ByteArray := ⟨l.toArray⟩

theorem bstr_toList (l : List UInt8) : (bstr l).data.toList = l := rfl
theorem bstr_size (l : List UInt8) : (bstr l).size = l.length := rfl
theorem eq_bstr {s : ByteArray} {l : List UInt8} (h : s.data.toList = l) : s = bstr l := by
  subst h; rfl

theorem digit_text (d : Nat) (h : d < 10) : (ByteArray.extract ⟨#[48, 49, 50, 51, 52, 53, 54, 55, 56, 57]⟩ d (d + 1)).data.toList = [dch d] := by
  match d, h with
  | 0, _ => rfl
  | 1, _ => rfl
  | 2, _ => rfl
  | 3, _ => rfl
  | 4, _ => rfl
  | 5, _ => rfl
  | 6, _ => rfl
  | 7, _ => rfl
  | 8, _ => rfl
  | 9, _ => rfl

theorem str_eq {a b : ByteArray} (h : a.data.toList = b.data.toList) : Value.string a = Value.string b := by rw [WideShapes.bytes_inj h]

theorem step_text {N a : Nat} {t : ByteArray} (ha : 0 < a) (h : dig a ++ t.data.toList = dig N) :
    dig (a / 10) ++ (bstr [dch (a % 10)] ++ t).data.toList = dig N := by
  rw [← h, dig_pos ha]
  simp [bstr]

theorem slice_digit (x : Int) (d : Nat) (hx : x = d) (hd : d < 10) (w : World) :
    (Instr.slice 9 (.string ⟨#[48, 49, 50, 51, 52, 53, 54, 55, 56, 57]⟩) (some (.int .i64 x)) (some (.int .i64 (x + 1))) none).run Try.prog w = .ok (.string (bstr [dch d])) w := by
  subst hx
  rw [run_slice_string_if _ _ _ _ _ _ _ Try.underlying9]
  have h1 : (0 : Int) ≤ (d : Int) + 1 ∧ (d : Int) + 1 ≤ ((⟨#[48, 49, 50, 51, 52, 53, 54, 55, 56, 57]⟩ : ByteArray).size : Int) := by
    rw [show (⟨#[48, 49, 50, 51, 52, 53, 54, 55, 56, 57]⟩ : ByteArray).size = 10 from rfl]; omega
  rw [if_pos h1, if_pos ⟨by omega, by omega⟩]
  have e1 : ((d : Int)).toNat = d := by omega
  have e2 : ((d : Int) + 1).toNat = d + 1 := by omega
  rw [e1, e2]
  exact congrArg (fun s => Result.ok (Value.string s) w) (eq_bstr (digit_text d hd))

theorem text_size {N a : Nat} {t : ByteArray} (ha : 0 < a) (h : dig a ++ t.data.toList = dig N) : t.size ≤ N / 10 := by
  have h1 := dig_len N
  have h2 := dig_ne ha
  have h3 : (dig a ++ t.data.toList).length = (dig N).length := by rw [h]
  have h4 : t.data.toList.length = t.size := by simp
  simp only [List.length_append] at h3
  omega

theorem spec_fmt_pos (n : Nat) (w : World) (h0 : 0 < n) (h : n ≤ 9223372036854775807) :
    Calls Try.prog 179 #[.int .i64 n] w fun e w' => e = .returned (.string (bstr (dig n))) ∧ w = w' := by
  have g0 : ((n : Int) == 0) = false := by simp; omega
  go_enter Try.func179, Try.ntmps179
  go_wp2_with fail
  go_loop [3, 4] (fun s x => ∃ (a : Nat) (t : ByteArray), s = .string t ∧ x = .int .i64 a ∧ a ≤ n ∧ Hid (dig a ++ t.data.toList = dig n)) (fun _ x => (intOf x).toNat)
  case atStart => exact ⟨n, ⟨#[]⟩, rfl, rfl, Nat.le_refl _, by simp [Hid]⟩
  case round =>
    obtain ⟨a, t, rfl, rfl, han, hd⟩ := hrel
    by_cases ha : 0 < a
    · have g1 : ((a : Int) != 0) = true := by simp; omega
      have hs := text_size ha hd.out
      have hs2 : t.size ≤ 922337203685477580 := by omega
      have hst := Lib.hid (step_text ha hd.out)
      have hsz : (bstr [dch (a % 10)]).size = 1 := rfl
      have hsl := slice_digit ((a : Int) % 10) (a % 10) (by omega) (by omega)
      clear hs
      go_wp2_with fail
      go_round
      case rel => exact ⟨a / 10, bstr [dch (a % 10)] ++ t, rfl, by go_num, by omega, hst⟩
      case measure => simp [intOf]; omega
    · have hz : a = 0 := by omega
      have g1 : ((a : Int) != 0) = false := by simp [hz]
      have fin : Hid (t.data.toList = dig n) := by have := hd.out; rw [hz, dig_zero] at this; exact this
      clear hz
      go_wp2_with fail
      go_ret
      exact ⟨ret_str (eq_bstr fin.out), rfl⟩

theorem spec_fmt_neg (n : Nat) (w : World) (h0 : 0 < n) (h : n ≤ 9223372036854775808) :
    Calls Try.prog 179 #[.int .i64 (-(n : Int))] w fun e w' => e = .returned (.string (bstr (45 :: dig n))) ∧ w = w' := by
  have g0 : ((-(n : Int)) == 0) = false := by simp; omega
  have g9 : (-(n : Int)) < 0 := by omega
  go_enter Try.func179, Try.ntmps179
  go_wp2_with fail
  go_loop [3, 4] (fun s x => ∃ (a : Nat) (t : ByteArray), s = .string t ∧ x = .int .i64 (-(a : Int)) ∧ a ≤ n ∧ Hid (dig a ++ t.data.toList = dig n)) (fun _ x => (- intOf x).toNat)
  case atStart => exact ⟨n, ⟨#[]⟩, rfl, rfl, Nat.le_refl _, by simp [Hid]⟩
  case round =>
    obtain ⟨a, t, rfl, rfl, han, hd⟩ := hrel
    by_cases ha : 0 < a
    · have g1 : ((-(a : Int)) != 0) = true := by simp; omega
      have hs := text_size ha hd.out
      have hs2 : t.size ≤ 922337203685477580 := by omega
      have hst := Lib.hid (step_text ha hd.out)
      have hsz : (bstr [dch (a % 10)]).size = 1 := rfl
      have hsl := slice_digit ((a : Int) % 10) (a % 10) (by omega) (by omega)
      clear hs
      by_cases hq : a % 10 = 0
      · have hq1 : (a : Int) % 10 = 0 := by omega
        have hq2 : ¬ 0 < (a : Int) % 10 := by omega
        have hsl0 := slice_digit (-((a : Int) % 10)) 0 (by omega) (by omega)
        have hsz0 : (bstr [dch 0]).size = 1 := rfl
        have hst0 : Hid (dig (a / 10) ++ (bstr [dch 0] ++ t).data.toList = dig n) := by have := hst.out; rw [hq] at this; exact this
        clear hq hq1 hsl hsz
        go_wp2_with fail
        go_round
        case rel => exact ⟨a / 10, bstr [dch 0] ++ t, rfl, by go_num, by omega, hst0⟩
        case measure => simp [intOf]; omega
      · have hq2 : 0 < (a : Int) % 10 := by omega
        clear hq
        go_wp2_with fail
        go_round
        case rel => exact ⟨a / 10, bstr [dch (a % 10)] ++ t, rfl, by go_num, by omega, hst⟩
        case measure => simp [intOf]; omega
    · have hz : a = 0 := by omega
      have g1 : ((-(a : Int)) != 0) = false := by simp [hz]
      have fin : Hid (t.data.toList = dig n) := by have := hd.out; rw [hz, dig_zero] at this; exact this
      have fs : t.size ≤ 9223372036854775000 := by
        have h1 := dig_len n
        have h2 : t.data.toList.length = t.size := by simp
        rw [fin.out] at h2
        omega
      clear hz
      go_wp2_with fail
      go_ret
      exact ⟨ret_str (eq_bstr (by simp [fin.out])), rfl⟩

end Go.Proofs.Ytmofcbpabdbjlaa
