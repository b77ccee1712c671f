/-
  What is proved: FormatName of the program and of the reference return the same, for every string; the statement on it.
  Condition: strings within the model's length.
-/
import Derived.Test.YtmofcbpabdbjlaaSyn2
namespace Go.Proofs.Ytmofcbpabdbjlaa
set_option maxRecDepth 8000
open Go.RowKit
set_option linter.unusedVariables false
set_option linter.unusedSimpArgs false

def fmtName (s : ByteArray) : ByteArray := if synB s then s else if isNameB s then (⟨#[96]⟩ ++ s ++ ⟨#[96]⟩ : ByteArray) else ⟨#[]⟩

theorem syn_name {s : ByteArray} (h : synB s = true) : isNameB s = true := by
  simp only [synB, Bool.and_eq_true] at h
  exact h.1.1.1

theorem name_size20 {s : ByteArray} (h : isNameB s = true) : s.size ≤ 20 := by
  unfold isNameB at h
  simp at h
  omega

theorem impl_formatName (s : ByteArray) (w : World) (hs : s.size ≤ maxLen) : Calls Try.prog 215 #[.string s] w fun e w' => e = .returned (.string (fmtName s)) ∧ w = w' := by
  cases hS : synB s
  · cases hN : isNameB s
    · have HM := Lib.hid (show fmtName s = ⟨#[]⟩ by simp [fmtName, hS, hN])
      go_enter Try.func215, Try.ntmps215
      go_wp2_with (first | (go_at_call 220; refine (impl_syn _ _ hs).mono ?_; rintro e w' ⟨rfl, rfl⟩) | (go_at_call 214; refine (impl_isName _ _ hs).mono ?_; rintro e w' ⟨rfl, rfl⟩))
      go_ret
      exact ⟨ret_str HM.out.symm, rfl⟩
    · have HM := Lib.hid (show fmtName s = (⟨#[96]⟩ ++ s ++ ⟨#[96]⟩ : ByteArray) by simp [fmtName, hS, hN])
      have h20 := name_size20 hN
      go_enter Try.func215, Try.ntmps215
      go_wp2_with (first | (go_at_call 220; refine (impl_syn _ _ hs).mono ?_; rintro e w' ⟨rfl, rfl⟩) | (go_at_call 214; refine (impl_isName _ _ hs).mono ?_; rintro e w' ⟨rfl, rfl⟩))
      go_ret
      exact ⟨ret_str HM.out.symm, rfl⟩
  · have HM := Lib.hid (show fmtName s = s by simp [fmtName, hS])
    go_enter Try.func215, Try.ntmps215
    go_wp2_with (first | (go_at_call 220; refine (impl_syn _ _ hs).mono ?_; rintro e w' ⟨rfl, rfl⟩) | (go_at_call 214; refine (impl_isName _ _ hs).mono ?_; rintro e w' ⟨rfl, rfl⟩))
    go_ret
    exact ⟨ret_str HM.out.symm, rfl⟩

theorem spec_formatName (s : ByteArray) (w : World) (hs : s.size ≤ maxLen) : Calls Try.prog 197 #[.string s] w fun e w' => e = .returned (.string (fmtName s)) ∧ Below w.heap.size w w' := by
  cases hN : isNameB s
  · have hS : synB s = false := by
      cases h : synB s
      · rfl
      · rw [syn_name h] at hN; cases hN
    have HM := Lib.hid (show fmtName s = ⟨#[]⟩ by simp [fmtName, hS, hN])
    go_enter Try.func197, Try.ntmps197
    go_wp2_with (go_at_call 196; refine (spec_isName _ _ hs).mono ?_; rintro e w' ⟨rfl, rfl⟩)
    go_ret
    exact ⟨ret_str HM.out.symm, Below.refl _ _⟩
  · have h20 := name_size20 hN
    cases hS : synB s
    · have HM := Lib.hid (show fmtName s = (⟨#[96]⟩ ++ s ++ ⟨#[96]⟩ : ByteArray) by simp [fmtName, hS, hN])
      go_enter Try.func197, Try.ntmps197
      go_wp2_with (first | (go_at_call 211; refine (spec_syn _ _ hs).mono ?_; rintro e w1 ⟨rfl, hb1⟩) | (go_at_call 196; refine (spec_isName _ _ hs).mono ?_; rintro e w' ⟨rfl, rfl⟩))
      go_ret
      exact ⟨ret_str HM.out.symm, hb1⟩
    · have HM := Lib.hid (show fmtName s = s by simp [fmtName, hS])
      go_enter Try.func197, Try.ntmps197
      go_wp2_with (first | (go_at_call 211; refine (spec_syn _ _ hs).mono ?_; rintro e w1 ⟨rfl, hb1⟩) | (go_at_call 196; refine (spec_isName _ _ hs).mono ?_; rintro e w' ⟨rfl, rfl⟩))
      go_ret
      exact ⟨ret_str HM.out.symm, hb1⟩

end Go.Proofs.Ytmofcbpabdbjlaa
