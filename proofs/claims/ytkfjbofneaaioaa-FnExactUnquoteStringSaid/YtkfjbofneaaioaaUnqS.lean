/-
  What is proved: what the reference's UnquoteString returns, and the two readers of a hexadecimal digit.
  Condition: strings of not more than 1048576 bytes.
-/
import Derived.Test.YtkfjbofneaaioaaUnqP
import Derived.Test.YtkfjbofneaaioaaQuoteI
import Derived.Test.YtkfjbofneaaioaaInst
import Derived.Test.YtkfjbofneaaioaaJ
import Derived.Deep.DrawnRows
import Derived.Test.YtkfjbofneaaioaaParse
namespace Go.Proofs.Ytkfjbofneaaioaa
open Go.RowKit
set_option linter.unusedVariables false
set_option linter.unusedSimpArgs false

theorem index_hex64 (x : Int) (d : Nat) (hx : x = d) (hd : d < 16) (w : World) :
    (Instr.index 9 (.string ⟨#[48, 49, 50, 51, 52, 53, 54, 55, 56, 57, 97, 98, 99, 100, 101, 102]⟩) (.int .i64 x)).run Try.prog w = .ok (.int .u8 ((hexc d).toNat : Int)) w := by
  subst hx
  rcases (show d = 0 ∨ d = 1 ∨ d = 2 ∨ d = 3 ∨ d = 4 ∨ d = 5 ∨ d = 6 ∨ d = 7 ∨ d = 8 ∨ d = 9 ∨ d = 10 ∨ d = 11 ∨ d = 12 ∨ d = 13 ∨ d = 14 ∨ d = 15 by omega) with rfl | rfl | rfl | rfl | rfl | rfl | rfl | rfl | rfl | rfl | rfl | rfl | rfl | rfl | rfl | rfl <;> kernel_rfl

theorem spec_nib (c : UInt8) (w : World) : Calls Try.prog 56 #[.int .u8 (c.toNat : Int)] w fun e w' => e = .returned (.int .i64 (nb c : Int)) ∧ Below w.heap.size w w' := by
  go_enter Try.func56, Try.ntmps56
  have hO := Own.nil w
  go_wp2_with (first
    | (refine wpList_alloc_own rfl (by rfl) hO rfl (fun b => by simp only [Act.put, List.setIfInBounds_toArray, List.set_cons_succ, List.set_cons_zero]; rfl) ?_; (first | (refine nm 0 rfl ?_; clear hO; intro b0 u hO)); simp only [List.nil_append, List.cons_append] at hO)
    | (refine wpList_box_own rfl (by rfl) hO rfl rfl (fun b => by simp only [Act.put, List.setIfInBounds_toArray, List.set_cons_succ, List.set_cons_zero]; rfl) ?_; (first | (refine nm 0 rfl ?_; clear hO; intro b0 u hO)); simp only [List.nil_append, List.cons_append] at hO)
    | fail)
  go_loopw [3] (fun i u => ∃ k : Nat, k ≤ 16 ∧ i = .int .i64 k ∧ Hid (∀ j, j < k → ¬ hexc j = c) ∧ Own w [] u) (fun i _ => 16 - (intOf i).toNat)
  case atStart => exact ⟨0, by omega, rfl, fun j hj => by omega, hO⟩
  case round =>
    clear hO
    obtain ⟨k, hk, rfl, hj, hO⟩ := hrel
    by_cases hlt : k < 16
    · have hx := index_hex64 k k rfl hlt
      by_cases he : hexc k = c
      · have ht : (((hexc k).toNat : Int) == (c.toNat : Int)) = true := by rw [he]; simp
        have hn : nb c = k := by unfold nb; rw [hexd_some hlt he hj.out]; rfl
        go_wp2_with (first
          | (refine wpList_alloc_own rfl (by rfl) hO rfl (fun b => by simp only [Act.put, List.setIfInBounds_toArray, List.set_cons_succ, List.set_cons_zero]; rfl) ?_; (first | (refine nm 0 rfl ?_; clear hO; intro b0 u hO)); simp only [List.nil_append, List.cons_append] at hO)
          | (refine wpList_box_own rfl (by rfl) hO rfl rfl (fun b => by simp only [Act.put, List.setIfInBounds_toArray, List.set_cons_succ, List.set_cons_zero]; rfl) ?_; (first | (refine nm 0 rfl ?_; clear hO; intro b0 u hO)); simp only [List.nil_append, List.cons_append] at hO)
          | fail)
        go_ret
        exact ⟨by rw [hn]; rfl, hO.below⟩
      · have ht : (((hexc k).toNat : Int) == (c.toNat : Int)) = false := by
          rw [beq_eq_false_iff_ne]; intro h; exact he (UInt8.toNat_inj.1 (by omega))
        go_wp2_with (first
          | (refine wpList_alloc_own rfl (by rfl) hO rfl (fun b => by simp only [Act.put, List.setIfInBounds_toArray, List.set_cons_succ, List.set_cons_zero]; rfl) ?_; (first | (refine nm 0 rfl ?_; clear hO; intro b0 u hO)); simp only [List.nil_append, List.cons_append] at hO)
          | (refine wpList_box_own rfl (by rfl) hO rfl rfl (fun b => by simp only [Act.put, List.setIfInBounds_toArray, List.set_cons_succ, List.set_cons_zero]; rfl) ?_; (first | (refine nm 0 rfl ?_; clear hO; intro b0 u hO)); simp only [List.nil_append, List.cons_append] at hO)
          | fail)
        go_roundw
        case rel => exact ⟨k + 1, by omega, by go_num, fun j hj' => by
          rcases Nat.lt_or_ge j k with h | h
          · exact hj.out j h
          · rw [show j = k by omega]; exact he, hO⟩
        case measure => simp [intOf]; omega
    · have hn : nb c = 0 := by unfold nb; rw [hexd_none fun j h => hj.out j (by omega)]; rfl
      go_wp2_with (first
        | (refine wpList_alloc_own rfl (by rfl) hO rfl (fun b => by simp only [Act.put, List.setIfInBounds_toArray, List.set_cons_succ, List.set_cons_zero]; rfl) ?_; (first | (refine nm 0 rfl ?_; clear hO; intro b0 u hO)); simp only [List.nil_append, List.cons_append] at hO)
        | (refine wpList_box_own rfl (by rfl) hO rfl rfl (fun b => by simp only [Act.put, List.setIfInBounds_toArray, List.set_cons_succ, List.set_cons_zero]; rfl) ?_; (first | (refine nm 0 rfl ?_; clear hO; intro b0 u hO)); simp only [List.nil_append, List.cons_append] at hO)
        | fail)
      go_ret
      exact ⟨by rw [hn]; rfl, hO.below⟩

theorem impl_hexv (c : UInt8) (w : World) : Calls Try.prog 58 #[.int .u8 (c.toNat : Int)] w fun e w' => e = .returned (.int .i64 (hexI c)) ∧ Below w.heap.size w w' := by
  go_enter Try.func58, Try.ntmps58
  have hO := Own.nil w
  go_wp2_with (first
    | (refine wpList_alloc_own rfl (by rfl) hO rfl (fun b => by simp only [Act.put, List.setIfInBounds_toArray, List.set_cons_succ, List.set_cons_zero]; rfl) ?_; (first | (refine nm 0 rfl ?_; clear hO; intro b0 u hO)); simp only [List.nil_append, List.cons_append] at hO)
    | (refine wpList_box_own rfl (by rfl) hO rfl rfl (fun b => by simp only [Act.put, List.setIfInBounds_toArray, List.set_cons_succ, List.set_cons_zero]; rfl) ?_; (first | (refine nm 0 rfl ?_; clear hO; intro b0 u hO)); simp only [List.nil_append, List.cons_append] at hO)
    | fail)
  go_loopw [3] (fun i u => ∃ k : Nat, k ≤ 16 ∧ i = .int .i64 k ∧ Hid (∀ j, j < k → ¬ hexc j = c) ∧ Own w [] u) (fun i _ => 16 - (intOf i).toNat)
  case atStart => exact ⟨0, by omega, rfl, fun j hj => by omega, hO⟩
  case round =>
    clear hO
    obtain ⟨k, hk, rfl, hj, hO⟩ := hrel
    by_cases hlt : k < 16
    · have hx := index_hex64 k k rfl hlt
      by_cases he : hexc k = c
      · have ht : (((hexc k).toNat : Int) == (c.toNat : Int)) = true := by rw [he]; simp
        have hn : hexI c = k := by unfold hexI; rw [hexd_some hlt he hj.out]
        go_wp2_with (first
          | (refine wpList_alloc_own rfl (by rfl) hO rfl (fun b => by simp only [Act.put, List.setIfInBounds_toArray, List.set_cons_succ, List.set_cons_zero]; rfl) ?_; (first | (refine nm 0 rfl ?_; clear hO; intro b0 u hO)); simp only [List.nil_append, List.cons_append] at hO)
          | (refine wpList_box_own rfl (by rfl) hO rfl rfl (fun b => by simp only [Act.put, List.setIfInBounds_toArray, List.set_cons_succ, List.set_cons_zero]; rfl) ?_; (first | (refine nm 0 rfl ?_; clear hO; intro b0 u hO)); simp only [List.nil_append, List.cons_append] at hO)
          | fail)
        go_ret
        exact ⟨by rw [hn]; rfl, hO.below⟩
      · have ht : (((hexc k).toNat : Int) == (c.toNat : Int)) = false := by
          rw [beq_eq_false_iff_ne]; intro h; exact he (UInt8.toNat_inj.1 (by omega))
        go_wp2_with (first
          | (refine wpList_alloc_own rfl (by rfl) hO rfl (fun b => by simp only [Act.put, List.setIfInBounds_toArray, List.set_cons_succ, List.set_cons_zero]; rfl) ?_; (first | (refine nm 0 rfl ?_; clear hO; intro b0 u hO)); simp only [List.nil_append, List.cons_append] at hO)
          | (refine wpList_box_own rfl (by rfl) hO rfl rfl (fun b => by simp only [Act.put, List.setIfInBounds_toArray, List.set_cons_succ, List.set_cons_zero]; rfl) ?_; (first | (refine nm 0 rfl ?_; clear hO; intro b0 u hO)); simp only [List.nil_append, List.cons_append] at hO)
          | fail)
        go_roundw
        case rel => exact ⟨k + 1, by omega, by go_num, fun j hj' => by
          rcases Nat.lt_or_ge j k with h | h
          · exact hj.out j h
          · rw [show j = k by omega]; exact he, hO⟩
        case measure => simp [intOf]; omega
    · have hn : hexI c = -1 := by unfold hexI; rw [hexd_none fun j h => hj.out j (by omega)]
      go_wp2_with (first
        | (refine wpList_alloc_own rfl (by rfl) hO rfl (fun b => by simp only [Act.put, List.setIfInBounds_toArray, List.set_cons_succ, List.set_cons_zero]; rfl) ?_; (first | (refine nm 0 rfl ?_; clear hO; intro b0 u hO)); simp only [List.nil_append, List.cons_append] at hO)
        | (refine wpList_box_own rfl (by rfl) hO rfl rfl (fun b => by simp only [Act.put, List.setIfInBounds_toArray, List.set_cons_succ, List.set_cons_zero]; rfl) ?_; (first | (refine nm 0 rfl ?_; clear hO; intro b0 u hO)); simp only [List.nil_append, List.cons_append] at hO)
        | fail)
      go_ret
      exact ⟨by rw [hn]; rfl, hO.below⟩

theorem one_test (c d : UInt8) (s : ByteArray) (k : Nat) (h : k < s.size) (hc : s[k] = c) : ((s.extract k (k + 1)).toList == [d]) = decide (c = d) := by
  rw [ByteArray.toList_eq, ext_one s k h, hc]
  by_cases e : c = d
  · subst e; simp
  · simp [e]
theorem ext_is (s : ByteArray) (k : Nat) (h : k < s.size) {c : UInt8} (hc : s[k] = c) : s.extract k (k + 1) = bstr [c] := eq_bstr (by rw [ext_one s k h, hc])

theorem conv_lit (w : World) (z : UInt8) (x : Int) (hx : (z.toNat : Int) = x) :
    (convert 52 9 (.slice (some ⟨w.heap.size, 0, none⟩) 1 1)).run Try.prog (w.alloc (.cells #[.int .u8 x] 5)) = .ok (.string (bstr [z])) (w.alloc (.cells #[.int .u8 x] 5)) := by
  subst hx
  exact conv_own (base := w.heap.size) (l := [z]) (World.ownsRow_lit (base := w.heap.size) (e := 5) (size := 1) w #[.int .u8 ((z.toNat : Nat) : Int)] 1 (Nat.le_refl _) (by unfold maxLen; omega) rfl)

set_option maxHeartbeats 1000000 in
theorem spec_unq (s : ByteArray) (w : World) (hs : s.size ≤ 1048576) : Calls Try.prog 39 #[.string s] w fun e w' => e = .returned (.tuple #[.string (bstr (unqT s.data.toList)), .bool (unqB s.data.toList)]) ∧ Below w.heap.size w w' := by
  have hl : s.data.toList.length = s.size := by simp
  have HL := Lib.hid hl
  clear hl
  go_enter Try.func39, Try.ntmps39
  have hO := Own.nil w
  go_wp2_with (first
    | (refine wpList_alloc_own rfl (by rfl) hO rfl (fun b => by simp only [Act.put, List.setIfInBounds_toArray, List.set_cons_succ, List.set_cons_zero]; rfl) ?_; (first | (refine nm 0 rfl ?_; clear hO; intro b0 u hO)); simp only [List.nil_append, List.cons_append] at hO)
    | (refine wpList_box_own rfl (by rfl) hO rfl rfl (fun b => by simp only [Act.put, List.setIfInBounds_toArray, List.set_cons_succ, List.set_cons_zero]; rfl) ?_; (first | (refine nm 0 rfl ?_; clear hO; intro b0 u hO)); simp only [List.nil_append, List.cons_append] at hO)
    | fail)
  go_loopw [4, 5] (fun t i u => ∃ (k : Nat) (T : ByteArray), 1 ≤ k ∧ (k ≤ s.size - 1 ∨ k = 1) ∧ T.size ≤ k ∧ i = .int .i64 k ∧ t = .string T ∧ Hid (T.data.toList ++ unq (rst s.data.toList k) = unq (rst s.data.toList 1)) ∧ Own w [] u) (fun _ i _ => s.size - (intOf i).toNat)
  case atStart => exact ⟨1, ⟨#[]⟩, by omega, by omega, by decide, rfl, rfl, rfl, hO⟩
  case round =>
    clear hO
    obtain ⟨k, T, hk1, hk, hT, rfl, rfl, hU, hO⟩ := hrel
    by_cases hlt : (k : Int) < (s.size : Int) - 1
    · have hk2 : k < s.size := by omega
      have HR := Lib.hid (rst_cons (s := s) (k := k) (by omega))
      obtain ⟨c, hc⟩ : ∃ c, s[k] = c := ⟨_, rfl⟩
      by_cases h92 : c = 92
      · subst h92
        have ht := one_test 92 92 s k hk2 hc
        rw [decide_eq_true rfl] at ht
        by_cases hl1 : (k : Int) + 1 < (s.size : Int) - 1
        · have hk3 : k + 1 < s.size := by omega
          have HR1 := Lib.hid (rst_cons (s := s) (k := k + 1) (by omega))
          obtain ⟨d, hd⟩ : ∃ d, s[k + 1] = d := ⟨_, rfl⟩
          have HS : ∀ (T' : List UInt8) (m : Nat), unq (92 :: d :: rst s.data.toList (k + 2)) = T' ++ unq (rst s.data.toList m) → Hid ((T ++ bstr T').data.toList ++ unq (rst s.data.toList m) = unq (rst s.data.toList 1)) := fun T' m h => by
            refine Eq.trans ?_ hU.out
            rw [HR.out, hc, HR1.out, hd, h, app_toList, List.append_assoc]
            rfl
          by_cases h110 : d = 110
          · subst h110
            have ht1 := one_test 110 110 s (k + 1) hk3 hd
            rw [decide_eq_true rfl] at ht1
            go_wp2_with (first
              | (refine wpList_alloc_own rfl (by rfl) hO rfl (fun b => by simp only [Act.put, List.setIfInBounds_toArray, List.set_cons_succ, List.set_cons_zero]; rfl) ?_; (first | (refine nm 0 rfl ?_; clear hO; intro b0 u hO)); simp only [List.nil_append, List.cons_append] at hO)
              | (refine wpList_box_own rfl (by rfl) hO rfl rfl (fun b => by simp only [Act.put, List.setIfInBounds_toArray, List.set_cons_succ, List.set_cons_zero]; rfl) ?_; (first | (refine nm 0 rfl ?_; clear hO; intro b0 u hO)); simp only [List.nil_append, List.cons_append] at hO)
              | fail)
            go_roundw
            case rel => exact ⟨k + 2, _, by omega, by omega, by rw [ByteArray.size_append]; show _ + 1 ≤ _; omega, by go_num, rfl, HS [10] (k + 2) unq_n, hO⟩
            case measure => simp [intOf]; omega
          · have ht1 := one_test d 110 s (k + 1) hk3 hd
            rw [decide_eq_false h110] at ht1
            by_cases h120 : d = 120
            · subst h120
              have ht2 := one_test 120 120 s (k + 1) hk3 hd
              rw [decide_eq_true rfl] at ht2
              by_cases hl2 : (k : Int) + 1 + 2 < (s.size : Int) - 1
              · have HR2 := Lib.hid (rst_cons (s := s) (k := k + 1 + 1) (by omega))
                have HR3 := Lib.hid (rst_cons (s := s) (k := k + 1 + 2) (by omega))
                have i1 : (0 : Int) ≤ (k : Int) + 1 + 1 := by omega
                have i2 : (k : Int) + 1 + 1 < (s.size : Int) := by omega
                have i3 : (0 : Int) ≤ (k : Int) + 1 + 2 := by omega
                have i4 : (k : Int) + 1 + 2 < (s.size : Int) := by omega
                have n1 := nb_lt (s[k + 1 + 1]'(by omega))
                have n2 := nb_lt (s[k + 1 + 2]'(by omega))
                obtain ⟨z, hz⟩ : ∃ z : UInt8, UInt8.ofNat (16 * nb (s[k + 1 + 1]'(by omega)) + nb (s[k + 1 + 2]'(by omega))) = z := ⟨_, rfl⟩
                have zn : z.toNat = 16 * nb (s[k + 1 + 1]'(by omega)) + nb (s[k + 1 + 2]'(by omega)) := by rw [← hz]; simp; omega
                have HZ := Lib.hid hz
                clear hz
                have zs : (bstr [z]).size = 1 := rfl
                go_wp2_with (first
                  | (refine wpList_alloc_own rfl (by rfl) hO rfl (fun b => by simp only [Act.put, List.setIfInBounds_toArray, List.set_cons_succ, List.set_cons_zero]; rfl) ?_; (first | (refine nm 0 rfl ?_; clear hO; intro b0 u hO)); simp only [List.nil_append, List.cons_append] at hO)
                  | (refine wpList_box_own rfl (by rfl) hO rfl rfl (fun b => by simp only [Act.put, List.setIfInBounds_toArray, List.set_cons_succ, List.set_cons_zero]; rfl) ?_; (first | (refine nm 0 rfl ?_; clear hO; intro b0 u hO)); simp only [List.nil_append, List.cons_append] at hO)
                  | fail)
                refine J.wp_region_c (n := 73) [0, 1, 2, 3, 4, 5, 6, 7, 8, 9, 10, 11, 12] [] (deps := fun i => [[], [], [1], [0, 1, 2], [0, 1, 2, 3], [0, 1, 2, 3, 4], [], [], [7], [6, 7, 8], [6, 7, 8, 9], [0, 1, 2, 3, 4, 5, 6, 7, 8, 9, 10], [0, 1, 2, 3, 4, 5, 6, 7, 8, 9, 10, 11], [], [], []].getD i []) (fun _ _ _ => True) (r := 3) (lst := #[true, true, true, true, true, true, true, true, true, true, true, true, true, false, false, false]) (by kernel_rfl) (by kernel_rfl) (by kernel_rfl) rfl (by decide) (by kernel_rfl) hO ?_
                refine J.Chain.cons (by rfl) (by rfl) (fun M u hO K hK => by (simp only [wp_at_zero, wp_at_succ]; go_step; exact hK _ hO)) (by simp only [J.putL, List.getElem_toArray, List.getElem_cons_succ, List.getElem_cons_zero, J.dstOf, List.getElem?_toArray, List.getElem?_cons_succ, List.getElem?_cons_zero, Option.bind_some, List.getD_cons_succ, List.getD_cons_zero, Act.put, List.setIfInBounds_toArray, List.set_cons_succ, List.set_cons_zero]; rfl) ?_
                refine J.Chain.cons (by rfl) (by rfl) (fun M u hO K hK => by (simp only [wp_at_zero, wp_at_succ]; go_step; exact hK _ hO)) (by simp only [J.putL, List.getElem_toArray, List.getElem_cons_succ, List.getElem_cons_zero, J.dstOf, List.getElem?_toArray, List.getElem?_cons_succ, List.getElem?_cons_zero, Option.bind_some, List.getD_cons_succ, List.getD_cons_zero, Act.put, List.setIfInBounds_toArray, List.set_cons_succ, List.set_cons_zero]; rfl) ?_
                refine J.Chain.cons (by rfl) (by rfl) (fun M u hO K hK => by (simp only [wp_at_zero, wp_at_succ]; go_step; exact hK _ hO)) (by simp only [J.putL, List.getElem_toArray, List.getElem_cons_succ, List.getElem_cons_zero, J.dstOf, List.getElem?_toArray, List.getElem?_cons_succ, List.getElem?_cons_zero, Option.bind_some, List.getD_cons_succ, List.getD_cons_zero, Act.put, List.setIfInBounds_toArray, List.set_cons_succ, List.set_cons_zero]; rfl) ?_
                refine J.Chain.cons (by rfl) (by rfl) (fun M u hO K hK => by (simp only [wp_at_zero, wp_at_succ]; go_step; exact hK _ hO)) (by simp only [J.putL, List.getElem_toArray, List.getElem_cons_succ, List.getElem_cons_zero, J.dstOf, List.getElem?_toArray, List.getElem?_cons_succ, List.getElem?_cons_zero, Option.bind_some, List.getD_cons_succ, List.getD_cons_zero, Act.put, List.setIfInBounds_toArray, List.set_cons_succ, List.set_cons_zero]; rfl) ?_
                refine J.Chain.cons (by rfl) (by rfl) (fun M u hO K hK => by (simp only [wp_at_zero, wp_at_succ]; go_step; refine (spec_nib _ _).mono ?_; rintro e u ⟨rfl, hb⟩; first | exact hK _ (hO.step hb) | (subst hb; exact hK _ hO))) (by simp only [J.putL, List.getElem_toArray, List.getElem_cons_succ, List.getElem_cons_zero, J.dstOf, List.getElem?_toArray, List.getElem?_cons_succ, List.getElem?_cons_zero, Option.bind_some, List.getD_cons_succ, List.getD_cons_zero, Act.put, List.setIfInBounds_toArray, List.set_cons_succ, List.set_cons_zero]; rfl) ?_
                refine J.Chain.cons (by rfl) (by rfl) (fun M u hO K hK => by (simp only [wp_at_zero, wp_at_succ]; go_step; exact hK _ hO)) (by simp only [J.putL, List.getElem_toArray, List.getElem_cons_succ, List.getElem_cons_zero, J.dstOf, List.getElem?_toArray, List.getElem?_cons_succ, List.getElem?_cons_zero, Option.bind_some, List.getD_cons_succ, List.getD_cons_zero, Act.put, List.setIfInBounds_toArray, List.set_cons_succ, List.set_cons_zero]; rfl) ?_
                refine J.Chain.cons (by rfl) (by rfl) (fun M u hO K hK => by (simp only [wp_at_zero, wp_at_succ]; go_step; exact hK _ hO)) (by simp only [J.putL, List.getElem_toArray, List.getElem_cons_succ, List.getElem_cons_zero, J.dstOf, List.getElem?_toArray, List.getElem?_cons_succ, List.getElem?_cons_zero, Option.bind_some, List.getD_cons_succ, List.getD_cons_zero, Act.put, List.setIfInBounds_toArray, List.set_cons_succ, List.set_cons_zero]; rfl) ?_
                refine J.Chain.cons (by rfl) (by rfl) (fun M u hO K hK => by (simp only [wp_at_zero, wp_at_succ]; go_step; exact hK _ hO)) (by simp only [J.putL, List.getElem_toArray, List.getElem_cons_succ, List.getElem_cons_zero, J.dstOf, List.getElem?_toArray, List.getElem?_cons_succ, List.getElem?_cons_zero, Option.bind_some, List.getD_cons_succ, List.getD_cons_zero, Act.put, List.setIfInBounds_toArray, List.set_cons_succ, List.set_cons_zero]; rfl) ?_
                refine J.Chain.cons (by rfl) (by rfl) (fun M u hO K hK => by (simp only [wp_at_zero, wp_at_succ]; go_step; exact hK _ hO)) (by simp only [J.putL, List.getElem_toArray, List.getElem_cons_succ, List.getElem_cons_zero, J.dstOf, List.getElem?_toArray, List.getElem?_cons_succ, List.getElem?_cons_zero, Option.bind_some, List.getD_cons_succ, List.getD_cons_zero, Act.put, List.setIfInBounds_toArray, List.set_cons_succ, List.set_cons_zero]; rfl) ?_
                refine J.Chain.cons (by rfl) (by rfl) (fun M u hO K hK => by (simp only [wp_at_zero, wp_at_succ]; go_step; exact hK _ hO)) (by simp only [J.putL, List.getElem_toArray, List.getElem_cons_succ, List.getElem_cons_zero, J.dstOf, List.getElem?_toArray, List.getElem?_cons_succ, List.getElem?_cons_zero, Option.bind_some, List.getD_cons_succ, List.getD_cons_zero, Act.put, List.setIfInBounds_toArray, List.set_cons_succ, List.set_cons_zero]; rfl) ?_
                refine J.Chain.cons (by rfl) (by rfl) (fun M u hO K hK => by (simp only [wp_at_zero, wp_at_succ]; go_step; refine (spec_nib _ _).mono ?_; rintro e u ⟨rfl, hb⟩; first | exact hK _ (hO.step hb) | (subst hb; exact hK _ hO))) (by simp only [J.putL, List.getElem_toArray, List.getElem_cons_succ, List.getElem_cons_zero, J.dstOf, List.getElem?_toArray, List.getElem?_cons_succ, List.getElem?_cons_zero, Option.bind_some, List.getD_cons_succ, List.getD_cons_zero, Act.put, List.setIfInBounds_toArray, List.set_cons_succ, List.set_cons_zero]; rfl) ?_
                refine J.Chain.cons (by rfl) (by rfl) (fun M u hO K hK => by (simp only [wp_at_zero, wp_at_succ]; go_step; exact hK _ hO)) (by simp only [J.putL, List.getElem_toArray, List.getElem_cons_succ, List.getElem_cons_zero, J.dstOf, List.getElem?_toArray, List.getElem?_cons_succ, List.getElem?_cons_zero, Option.bind_some, List.getD_cons_succ, List.getD_cons_zero, Act.put, List.setIfInBounds_toArray, List.set_cons_succ, List.set_cons_zero]; rfl) ?_
                refine J.Chain.cons (by rfl) (by rfl) (fun M u hO K hK => by (simp only [wp_at_zero, wp_at_succ]; go_step; exact hK _ hO)) (by simp only [J.putL, List.getElem_toArray, List.getElem_cons_succ, List.getElem_cons_zero, J.dstOf, List.getElem?_toArray, List.getElem?_cons_succ, List.getElem?_cons_zero, Option.bind_some, List.getD_cons_succ, List.getD_cons_zero, Act.put, List.setIfInBounds_toArray, List.set_cons_succ, List.set_cons_zero]; rfl) ?_
                refine J.Chain.nil ⟨?_, ?_⟩
                · exact J.Each.nil
                intro vs u hO hF
                clear hF
                simp only [List.flatMap_cons, List.flatMap_nil, List.append_nil, List.nil_append, List.cons_append] at hO
                simp only [J.putL]
                clear vs
                refine J.wpAny_one (i := 13) (by kernel_rfl) (by rfl) rfl fun K hK => ?_
                simp only [wp_at_zero, wp_at_succ]
                go_step
                refine hK _ _ ?_
                clear hK K
                refine J.wpAny_one (i := 14) (by kernel_rfl) (by rfl) rfl fun K hK => ?_
                simp only [wp_at_zero, wp_at_succ]
                go_step
                first | refine hK _ _ ?_ | (rw [conv_lit _ z _ (by omega)]; simp only [Result.andThen_ok, Oper.upon]; refine hK _ _ ?_)
                clear hK K
                refine J.wpAny_one (i := 15) (by kernel_rfl) (by rfl) rfl fun K hK => ?_
                simp only [wp_at_zero, wp_at_succ]
                go_step
                refine hK _ _ ?_
                clear hK K
                refine wpAny_done (by kernel_rfl) ?_ _
                go_wp2_with (first
                  | (refine wpList_alloc_own rfl (by rfl) hO rfl (fun b => by simp only [Act.put, List.setIfInBounds_toArray, List.set_cons_succ, List.set_cons_zero]; rfl) ?_; (first | (refine nm 0 rfl ?_; clear hO; intro b0 u hO)); simp only [List.nil_append, List.cons_append] at hO)
                  | (refine wpList_box_own rfl (by rfl) hO rfl rfl (fun b => by simp only [Act.put, List.setIfInBounds_toArray, List.set_cons_succ, List.set_cons_zero]; rfl) ?_; (first | (refine nm 0 rfl ?_; clear hO; intro b0 u hO)); simp only [List.nil_append, List.cons_append] at hO)
                  | fail)
                replace hO := hO.addBox 5 [.int .u8 ((nb (s[k + 1 + 1]'(by omega)) : Int) * 16 + (nb (s[k + 1 + 2]'(by omega)) : Int))]
                go_roundw
                case rel => exact ⟨k + 4, _, by omega, by omega, by rw [ByteArray.size_append]; omega, by go_num, rfl, HS [z] (k + 4) (by
                  rw [show k + 2 = k + 1 + 1 by omega, HR2.out, HR3.out, ← HZ.out]
                  exact unq_x), hO.sub (List.nil_sublist _)⟩
                case measure => simp [intOf]; omega
              · go_wp2_with (first
                  | (refine wpList_alloc_own rfl (by rfl) hO rfl (fun b => by simp only [Act.put, List.setIfInBounds_toArray, List.set_cons_succ, List.set_cons_zero]; rfl) ?_; (first | (refine nm 0 rfl ?_; clear hO; intro b0 u hO)); simp only [List.nil_append, List.cons_append] at hO)
                  | (refine wpList_box_own rfl (by rfl) hO rfl rfl (fun b => by simp only [Act.put, List.setIfInBounds_toArray, List.set_cons_succ, List.set_cons_zero]; rfl) ?_; (first | (refine nm 0 rfl ?_; clear hO; intro b0 u hO)); simp only [List.nil_append, List.cons_append] at hO)
                  | fail)
                go_roundw
                case rel => exact ⟨k + 2, _, by omega, by omega, by rw [ByteArray.size_append, ext_is s (k + 1) hk3 hd, bstr_size]; simp; omega, by go_num, rfl, by
                  rw [ext_is s (k + 1) hk3 hd]
                  exact HS [120] (k + 2) (unq_x0 (by rw [rst_len, HL.out]; omega)), hO⟩
                case measure => simp [intOf]; omega
            · have ht2 := one_test d 120 s (k + 1) hk3 hd
              rw [decide_eq_false h120] at ht2
              go_wp2_with (first
                | (refine wpList_alloc_own rfl (by rfl) hO rfl (fun b => by simp only [Act.put, List.setIfInBounds_toArray, List.set_cons_succ, List.set_cons_zero]; rfl) ?_; (first | (refine nm 0 rfl ?_; clear hO; intro b0 u hO)); simp only [List.nil_append, List.cons_append] at hO)
                | (refine wpList_box_own rfl (by rfl) hO rfl rfl (fun b => by simp only [Act.put, List.setIfInBounds_toArray, List.set_cons_succ, List.set_cons_zero]; rfl) ?_; (first | (refine nm 0 rfl ?_; clear hO; intro b0 u hO)); simp only [List.nil_append, List.cons_append] at hO)
                | fail)
              go_roundw
              case rel => exact ⟨k + 2, _, by omega, by omega, by rw [ByteArray.size_append, ext_is s (k + 1) hk3 hd, bstr_size]; simp; omega, by go_num, rfl, by
                rw [ext_is s (k + 1) hk3 hd]
                exact HS [d] (k + 2) (unq_o h110 h120), hO⟩
              case measure => simp [intOf]; omega
        · go_wp2_with (first
            | (refine wpList_alloc_own rfl (by rfl) hO rfl (fun b => by simp only [Act.put, List.setIfInBounds_toArray, List.set_cons_succ, List.set_cons_zero]; rfl) ?_; (first | (refine nm 0 rfl ?_; clear hO; intro b0 u hO)); simp only [List.nil_append, List.cons_append] at hO)
            | (refine wpList_box_own rfl (by rfl) hO rfl rfl (fun b => by simp only [Act.put, List.setIfInBounds_toArray, List.set_cons_succ, List.set_cons_zero]; rfl) ?_; (first | (refine nm 0 rfl ?_; clear hO; intro b0 u hO)); simp only [List.nil_append, List.cons_append] at hO)
            | fail)
          go_roundw
          case rel => exact ⟨k + 1, _, by omega, by omega, by rw [ByteArray.size_append, ext_is s k hk2 hc, bstr_size]; simp; omega, by go_num, rfl, by
            refine Eq.trans ?_ hU.out
            rw [HR.out, hc, rst_nil (k := k + 1) (by rw [HL.out]; omega), app_toList, ext_one s k hk2, hc, List.append_assoc, unq_end]
            rfl, hO⟩
          case measure => simp [intOf]; omega
      · have ht := one_test c 92 s k hk2 hc
        rw [decide_eq_false h92] at ht
        go_wp2_with (first
          | (refine wpList_alloc_own rfl (by rfl) hO rfl (fun b => by simp only [Act.put, List.setIfInBounds_toArray, List.set_cons_succ, List.set_cons_zero]; rfl) ?_; (first | (refine nm 0 rfl ?_; clear hO; intro b0 u hO)); simp only [List.nil_append, List.cons_append] at hO)
          | (refine wpList_box_own rfl (by rfl) hO rfl rfl (fun b => by simp only [Act.put, List.setIfInBounds_toArray, List.set_cons_succ, List.set_cons_zero]; rfl) ?_; (first | (refine nm 0 rfl ?_; clear hO; intro b0 u hO)); simp only [List.nil_append, List.cons_append] at hO)
          | fail)
        go_roundw
        case rel => exact ⟨k + 1, _, by omega, by omega, by rw [ByteArray.size_append, ext_is s k hk2 hc, bstr_size]; simp; omega, by go_num, rfl, by
          refine Eq.trans ?_ hU.out
          rw [HR.out, hc, unq_plain h92, app_toList, ext_one s k hk2, hc, List.append_assoc]
          rfl, hO⟩
        case measure => simp [intOf]; omega
    · have hU2 := hU.out
      rw [rst_nil (k := k) (by rw [HL.out]; omega)] at hU2
      have hT2 : T.data.toList = unq (rst s.data.toList 1) := by rw [← hU2]; simp [unq]
      have HT := Lib.hid hT2
      clear hU2 hT2
      by_cases hB : unqB s.data.toList = true
      · have hne := ne_test (a := bstr (quoL T.data.toList)) (b := s) (by rw [HT.out, of_decide_eq_true hB]; rfl)
        have HE : Hid (unqT s.data.toList = T.data.toList) := by rw [unqT_yes hB, HT.out]; rfl
        go_wp2_with (first
          | (refine wpList_alloc_own rfl (by rfl) hO rfl (fun b => by simp only [Act.put, List.setIfInBounds_toArray, List.set_cons_succ, List.set_cons_zero]; rfl) ?_; (first | (refine nm 0 rfl ?_; clear hO; intro b0 u hO)); simp only [List.nil_append, List.cons_append] at hO)
          | (refine wpList_box_own rfl (by rfl) hO rfl rfl (fun b => by simp only [Act.put, List.setIfInBounds_toArray, List.set_cons_succ, List.set_cons_zero]; rfl) ?_; (first | (refine nm 0 rfl ?_; clear hO; intro b0 u hO)); simp only [List.nil_append, List.cons_append] at hO)
          | fail)
        refine (spec_quote _ _ (by omega)).mono ?_
        rintro e u ⟨rfl, hb⟩
        first | (replace hO := hO.step hb; clear hb) | subst hb
        go_wp2_with (first
          | (refine wpList_alloc_own rfl (by rfl) hO rfl (fun b => by simp only [Act.put, List.setIfInBounds_toArray, List.set_cons_succ, List.set_cons_zero]; rfl) ?_; (first | (refine nm 0 rfl ?_; clear hO; intro b0 u hO)); simp only [List.nil_append, List.cons_append] at hO)
          | (refine wpList_box_own rfl (by rfl) hO rfl rfl (fun b => by simp only [Act.put, List.setIfInBounds_toArray, List.set_cons_succ, List.set_cons_zero]; rfl) ?_; (first | (refine nm 0 rfl ?_; clear hO; intro b0 u hO)); simp only [List.nil_append, List.cons_append] at hO)
          | fail)
        go_ret2
        exact ⟨by rw [HE.out, hB]; rfl, hO.below⟩
      · have hB2 : unqB s.data.toList = false := by simpa using hB
        have hne := ne_test' (a := bstr (quoL T.data.toList)) (b := s) (fun h => hB (decide_eq_true (by rw [← HT.out, ← h]; rfl)))
        have HE := Lib.hid (unqT_no hB2)
        clear hB
        go_wp2_with (first
          | (refine wpList_alloc_own rfl (by rfl) hO rfl (fun b => by simp only [Act.put, List.setIfInBounds_toArray, List.set_cons_succ, List.set_cons_zero]; rfl) ?_; (first | (refine nm 0 rfl ?_; clear hO; intro b0 u hO)); simp only [List.nil_append, List.cons_append] at hO)
          | (refine wpList_box_own rfl (by rfl) hO rfl rfl (fun b => by simp only [Act.put, List.setIfInBounds_toArray, List.set_cons_succ, List.set_cons_zero]; rfl) ?_; (first | (refine nm 0 rfl ?_; clear hO; intro b0 u hO)); simp only [List.nil_append, List.cons_append] at hO)
          | fail)
        refine (spec_quote _ _ (by omega)).mono ?_
        rintro e u ⟨rfl, hb⟩
        first | (replace hO := hO.step hb; clear hb) | subst hb
        go_wp2_with (first
          | (refine wpList_alloc_own rfl (by rfl) hO rfl (fun b => by simp only [Act.put, List.setIfInBounds_toArray, List.set_cons_succ, List.set_cons_zero]; rfl) ?_; (first | (refine nm 0 rfl ?_; clear hO; intro b0 u hO)); simp only [List.nil_append, List.cons_append] at hO)
          | (refine wpList_box_own rfl (by rfl) hO rfl rfl (fun b => by simp only [Act.put, List.setIfInBounds_toArray, List.set_cons_succ, List.set_cons_zero]; rfl) ?_; (first | (refine nm 0 rfl ?_; clear hO; intro b0 u hO)); simp only [List.nil_append, List.cons_append] at hO)
          | fail)
        go_ret2
        exact ⟨by rw [HE.out, hB2]; rfl, hO.below⟩
end Go.Proofs.Ytkfjbofneaaioaa
