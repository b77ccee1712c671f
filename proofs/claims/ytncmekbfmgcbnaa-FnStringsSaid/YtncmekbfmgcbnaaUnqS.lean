/-
  What is proved: what the reference's UnquoteString returns, and the two readers of a hexadecimal digit.
  Condition: strings of not more than 1048576 bytes.
-/
import Derived.Test.YtncmekbfmgcbnaaUnqP
import Derived.Test.YtncmekbfmgcbnaaQuoteI
import Derived.Test.YtncmekbfmgcbnaaInst
import Derived.Test.YtncmekbfmgcbnaaJ
import Derived.Deep.DrawnRows
import Derived.Test.YtncmekbfmgcbnaaParse
namespace Go.Proofs.Ytncmekbfmgcbnaa
open Go.RowKit
set_option linter.unusedVariables false
set_option linter.unusedSimpArgs false

theorem index_hex64 (x : Int) (d : Nat) (hx : x = d) (hd : d < 16) (w : World) :
    (Instr.index 9 (.string ⟨#[48, 49, 50, 51, 52, 53, 54, 55, 56, 57, 97, 98, 99, 100, 101, 102]⟩) (.int .i64 x)).run Try.prog w = .ok (.int .u8 ((hexc d).toNat : Int)) w := by
  subst hx
  rcases (show d = 0 ∨ d = 1 ∨ d = 2 ∨ d = 3 ∨ d = 4 ∨ d = 5 ∨ d = 6 ∨ d = 7 ∨ d = 8 ∨ d = 9 ∨ d = 10 ∨ d = 11 ∨ d = 12 ∨ d = 13 ∨ d = 14 ∨ d = 15 by omega) with rfl | rfl | rfl | rfl | rfl | rfl | rfl | rfl | rfl | rfl | rfl | rfl | rfl | rfl | rfl | rfl <;> kernel_rfl

theorem impl_hexv (c : UInt8) (w : World) : Calls Try.prog 99 #[.int .u8 (c.toNat : Int)] w fun e w' => e = .returned (.int .i64 (hexI c)) ∧ Below w.heap.size w w' := by
  go_enter Try.func99, Try.ntmps99
  have hO := Own.nil w
  go_wp2_with (first
    | ((with_reducible refine wpl_alloc ?_); refine wpList_alloc_own rfl (by rfl) hO rfl (fun b => by simp only [Act.put, List.setIfInBounds_toArray, List.set_cons_succ, List.set_cons_zero]; rfl) ?_; (first | (refine nm 0 rfl ?_; clear hO; intro b0 u hO)); simp only [List.nil_append, List.cons_append] at hO)
    | ((with_reducible refine wpl_box ?_); refine wpList_box_own rfl (by rfl) hO rfl rfl (fun b => by simp only [Act.put, List.setIfInBounds_toArray, List.set_cons_succ, List.set_cons_zero]; rfl) ?_; (first | (refine nm 0 rfl ?_; clear hO; intro b0 u hO)); simp only [List.nil_append, List.cons_append] at hO)
    | fail)
  go_loopw [3] (fun i u => ∃ k : Nat, k ≤ 16 ∧ i = .int .i64 k ∧ Hid (∀ j, j < k → ¬ hexc j = c) ∧ Own w [] u) (fun i _ => 16 - (intOf i).toNat)
  case atStart => exact ⟨0, by omega, rfl, fun j hj => by omega, hO⟩
  case round =>
    clear hO
    obtain ⟨k, hk, rfl, hj, hO⟩ := hrel
    by_cases hlt : k < 16
    · have hx := index_hex64 k k rfl hlt
      by_cases he : hexc k = c
      · have ht : (((hexc k).toNat : Int) == (c.toNat : Int)) = true := by rw [he]; simp
        have hn : hexI c = k := by unfold hexI; rw [hexd_some hlt he hj.out]
        go_wp2_with (first
          | ((with_reducible refine wpl_alloc ?_); refine wpList_alloc_own rfl (by rfl) hO rfl (fun b => by simp only [Act.put, List.setIfInBounds_toArray, List.set_cons_succ, List.set_cons_zero]; rfl) ?_; (first | (refine nm 0 rfl ?_; clear hO; intro b0 u hO)); simp only [List.nil_append, List.cons_append] at hO)
          | ((with_reducible refine wpl_box ?_); refine wpList_box_own rfl (by rfl) hO rfl rfl (fun b => by simp only [Act.put, List.setIfInBounds_toArray, List.set_cons_succ, List.set_cons_zero]; rfl) ?_; (first | (refine nm 0 rfl ?_; clear hO; intro b0 u hO)); simp only [List.nil_append, List.cons_append] at hO)
          | fail)
        go_ret
        exact ⟨by rw [hn]; rfl, hO.below⟩
      · have ht : (((hexc k).toNat : Int) == (c.toNat : Int)) = false := by
          rw [beq_eq_false_iff_ne]; intro h; exact he (UInt8.toNat_inj.1 (by omega))
        go_wp2_with (first
          | ((with_reducible refine wpl_alloc ?_); refine wpList_alloc_own rfl (by rfl) hO rfl (fun b => by simp only [Act.put, List.setIfInBounds_toArray, List.set_cons_succ, List.set_cons_zero]; rfl) ?_; (first | (refine nm 0 rfl ?_; clear hO; intro b0 u hO)); simp only [List.nil_append, List.cons_append] at hO)
          | ((with_reducible refine wpl_box ?_); refine wpList_box_own rfl (by rfl) hO rfl rfl (fun b => by simp only [Act.put, List.setIfInBounds_toArray, List.set_cons_succ, List.set_cons_zero]; rfl) ?_; (first | (refine nm 0 rfl ?_; clear hO; intro b0 u hO)); simp only [List.nil_append, List.cons_append] at hO)
          | fail)
        go_roundw
        case rel => exact ⟨k + 1, by omega, by go_num, fun j hj' => by
          rcases Nat.lt_or_ge j k with h | h
          · exact hj.out j h
          · rw [show j = k by omega]; exact he, hO⟩
        case measure => simp [intOf]; omega
    · have hn : hexI c = -1 := by unfold hexI; rw [hexd_none fun j h => hj.out j (by omega)]
      go_wp2_with (first
        | ((with_reducible refine wpl_alloc ?_); refine wpList_alloc_own rfl (by rfl) hO rfl (fun b => by simp only [Act.put, List.setIfInBounds_toArray, List.set_cons_succ, List.set_cons_zero]; rfl) ?_; (first | (refine nm 0 rfl ?_; clear hO; intro b0 u hO)); simp only [List.nil_append, List.cons_append] at hO)
        | ((with_reducible refine wpl_box ?_); refine wpList_box_own rfl (by rfl) hO rfl rfl (fun b => by simp only [Act.put, List.setIfInBounds_toArray, List.set_cons_succ, List.set_cons_zero]; rfl) ?_; (first | (refine nm 0 rfl ?_; clear hO; intro b0 u hO)); simp only [List.nil_append, List.cons_append] at hO)
        | fail)
      go_ret
      exact ⟨by rw [hn]; rfl, hO.below⟩

theorem one_test (c d : UInt8) (s : ByteArray) (k : Nat) (h : k < s.size) (hc : s[k] = c) : ((s.extract k (k + 1)).toList == [d]) = decide (c = d) := by
  rw [ByteArray.toList_eq, ext_one s k h, hc]
  by_cases e : c = d
  · subst e; simp
  · simp [e]
theorem ext_is (s : ByteArray) (k : Nat) (h : k < s.size) {c : UInt8} (hc : s[k] = c) : s.extract k (k + 1) = bstr [c] := eq_bstr (by rw [ext_one s k h, hc])

theorem conv_lit (w : World) (z : UInt8) (x : Int) (hx : (z.toNat : Int) = x) :
    (convert 32 9 (.slice (some ⟨w.heap.size, 0, none⟩) 1 1)).run Try.prog (w.alloc (.cells #[.int .u8 x] 5)) = .ok (.string (bstr [z])) (w.alloc (.cells #[.int .u8 x] 5)) := by
  subst hx
  exact conv_own (base := w.heap.size) (l := [z]) (World.ownsRow_lit (base := w.heap.size) (e := 5) (size := 1) w #[.int .u8 ((z.toNat : Nat) : Int)] 1 (Nat.le_refl _) (by unfold maxLen; omega) rfl)