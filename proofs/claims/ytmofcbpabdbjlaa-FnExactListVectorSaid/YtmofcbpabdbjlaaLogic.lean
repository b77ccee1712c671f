/-
  What is proved: what the functions on three-valued logical values (NotLogical, AndLogical, OrLogical, XorLogical, of the program and of the reference) return, for all integers.
  No condition.
-/
import Derived.Test.YtmofcbpabdbjlaaBase
import Derived.Lib.Hide
import Derived.Deep.Light
namespace Go.Proofs.Ytmofcbpabdbjlaa
set_option maxRecDepth 8000
open Go.RowKit

def notL (x : Int) : Int := if x = 0 then 1 else if x = 1 then 0 else 2
def andL (x y : Int) : Int := if x = 0 ∨ y = 0 then 0 else if x = 1 ∧ y = 1 then 1 else 2
def orL (x y : Int) : Int := if x = 1 ∨ y = 1 then 1 else if x = 0 ∧ y = 0 then 0 else 2
def xorL (x y : Int) : Int := if x < 0 ∨ x > 1 ∨ y < 0 ∨ y > 1 then 2 else if x = y then 0 else 1
def valL (x : Int) : Int := if x = 0 ∨ x = 1 then x else 2

theorem impl_and (x y : Int) (w : World) : Calls Try.prog 115 #[.int .i64 x, .int .i64 y] w fun e w' => e = .returned (.int .i64 (andL x y)) ∧ w = w' := by
  go_enter Try.func115, Try.ntmps115
  go_wp2
  all_goals (go_ret; exact ⟨ret_int (by simp_all [andL]), rfl⟩)

theorem impl_or (x y : Int) (w : World) : Calls Try.prog 117 #[.int .i64 x, .int .i64 y] w fun e w' => e = .returned (.int .i64 (orL x y)) ∧ w = w' := by
  go_enter Try.func117, Try.ntmps117
  go_wp2
  all_goals (go_ret; exact ⟨ret_int (by simp_all [orL]), rfl⟩)

theorem notL_hi {x : Int} (h : ¬ (0 ≤ x ∧ x ≤ 1)) : notL x = 2 := by unfold notL; rw [if_neg (by omega), if_neg (by omega)]
theorem notL_lo {x : Int} (h : 0 ≤ x ∧ x ≤ 1) : notL x = 1 - x := by
  unfold notL
  by_cases h0 : x = 0
  · rw [if_pos h0]; omega
  · rw [if_neg h0, if_pos (by omega)]; omega

theorem spec_not (x : Int) (w : World) : Calls Try.prog 159 #[.int .i64 x] w fun e w' => e = .returned (.int .i64 (notL x)) ∧ w = w' := by
  by_cases h : 0 ≤ x ∧ x ≤ 1
  · have hn := Lib.hid (notL_lo h)
    have hi := inI_true h
    obtain ⟨h0, h1⟩ := h
    go_enter Try.func159, Try.ntmps159
    go_wp2_with (go_at_call 104; refine (spec_in _ _ _ _).mono ?_; rintro e w' ⟨rfl, rfl⟩)
    go_ret
    exact ⟨ret_int hn.out.symm, rfl⟩
  · have hn := Lib.hid (notL_hi h)
    have hi := inI_false h
    clear h
    go_enter Try.func159, Try.ntmps159
    go_wp2_with (go_at_call 104; refine (spec_in _ _ _ _).mono ?_; rintro e w' ⟨rfl, rfl⟩)
    go_ret
    exact ⟨ret_int hn.out.symm, rfl⟩

theorem spec_val (x : Int) (w : World) : Calls Try.prog 158 #[.int .i64 x] w fun e w' => e = .returned (.int .i64 (valL x)) ∧ w = w' := by
  go_enter Try.func158, Try.ntmps158
  go_wp2_with (go_at_call 104; refine (spec_in _ _ _ _).mono ?_; rintro e w' ⟨rfl, rfl⟩)
  all_goals (go_ret; exact ⟨ret_int (by simp_all [valL, inI]; try omega), rfl⟩)

theorem spec_and (x y : Int) (w : World) : Calls Try.prog 110 #[.int .i64 x, .int .i64 y] w fun e w' => e = .returned (.int .i64 (andL x y)) ∧ w = w' := by
  go_enter Try.func110, Try.ntmps110
  go_wp2_with (go_at_call 158; refine (spec_val _ _).mono ?_; rintro e w' ⟨rfl, rfl⟩)
  all_goals (go_ret; exact ⟨ret_int (by go_light; first | (unfold andL; unfold valL at *; (repeat' split) <;> simp_all <;> omega) | (simp_all [andL]; done)), rfl⟩)

theorem orL_de (x y : Int) : notL (andL (notL x) (notL y)) = orL x y := by
  unfold notL andL orL
  repeat' split
  all_goals omega

theorem spec_or (x y : Int) (w : World) : Calls Try.prog 111 #[.int .i64 x, .int .i64 y] w fun e w' => e = .returned (.int .i64 (orL x y)) ∧ w = w' := by
  have hd := Lib.hid (orL_de x y)
  go_enter Try.func111, Try.ntmps111
  go_wp2_with (first | (go_at_call 159; refine (spec_not _ _).mono ?_; rintro e w' ⟨rfl, rfl⟩) | (go_at_call 110; refine (spec_and _ _ _).mono ?_; rintro e w' ⟨rfl, rfl⟩))
  go_ret
  exact ⟨ret_int hd.out, rfl⟩

theorem xorL_hi {x y : Int} (h : ¬ (0 ≤ x ∧ x ≤ 1) ∨ ¬ (0 ≤ y ∧ y ≤ 1)) : xorL x y = 2 := by unfold xorL; rw [if_pos (by omega)]