/-
  What is proved: QuoteString of the program and of the reference return the quoted text of every string.
  Condition: the string holds at most 33554432 bytes.
-/
import Derived.Test.YtmofcbpabdbjlaaFmt
import Derived.WalkSmall
import Derived.StillTailTactics
import Derived.Lib.Strings
namespace Go.Proofs.Ytmofcbpabdbjlaa
set_option maxRecDepth 8000
open Go.RowKit
set_option linter.unusedVariables false
set_option linter.unusedSimpArgs false

/-- a hexadecimal digit as a byte -/
def hexc (d : Nat) : UInt8 := if d < 10 then UInt8.ofNat (48 + d) else UInt8.ofNat (87 + d)
/-- the text of one byte in a quoted string -/
def quo (c : UInt8) : List UInt8 :=
  if c.toNat = 34 ∨ c.toNat = 92 then [92, c] else if c.toNat = 10 then [92, 110]
  else if c.toNat < 32 ∨ 126 < c.toNat then [92, 120, hexc (c.toNat / 16), hexc (c.toNat % 16)] else [c]
def quoH (l : List UInt8) : List UInt8 := 34 :: l.flatMap quo
def quoL (l : List UInt8) : List UInt8 := quoH l ++ [34]

theorem quo_len (c : UInt8) : (quo c).length ≤ 4 := by
  unfold quo
  repeat' split
  all_goals simp

theorem quoH_len (l : List UInt8) : (quoH l).length ≤ 1 + 4 * l.length := by
  induction l with
  | nil => simp [quoH]
  | cons c l ih =>
    have := quo_len c
    simp only [quoH, List.flatMap_cons, List.length_cons, List.length_append] at *
    omega

theorem quoH_succ (s : ByteArray) (k : Nat) (h : k < s.size) : quoH (s.data.toList.take (k + 1)) = quoH (s.data.toList.take k) ++ quo s[k] := by
  rw [List.take_succ_eq_append_getElem (by simpa using h)]
  simp only [quoH, List.flatMap_append, List.flatMap_cons, List.flatMap_nil, List.append_nil, List.cons_append]
  rfl

theorem quo_cases (c : UInt8) :
    (quo c = [92, c] ∧ (((c.toNat : Int) == 34) = true ∨ (((c.toNat : Int) == 34) = false ∧ ((c.toNat : Int) == 92) = true))) ∨
    (quo c = [92, 110] ∧ ((c.toNat : Int) == 34) = false ∧ ((c.toNat : Int) == 92) = false ∧ ((c.toNat : Int) == 10) = true) ∨
    (quo c = [92, 120, hexc (c.toNat / 16), hexc (c.toNat % 16)] ∧ ((c.toNat : Int) == 34) = false ∧ ((c.toNat : Int) == 92) = false ∧ ((c.toNat : Int) == 10) = false ∧ ((c.toNat : Int) < 32 ∨ ((32 : Int) ≤ (c.toNat : Int) ∧ (126 : Int) < (c.toNat : Int)))) ∨
    (quo c = [c] ∧ ((c.toNat : Int) == 34) = false ∧ ((c.toNat : Int) == 92) = false ∧ ((c.toNat : Int) == 10) = false ∧ (32 : Int) ≤ (c.toNat : Int) ∧ (c.toNat : Int) ≤ 126) := by
  simp only [beq_iff_eq, beq_eq_false_iff_ne]
  unfold quo
  by_cases h1 : c.toNat = 34 ∨ c.toNat = 92
  · rw [if_pos h1]
    left
    refine ⟨rfl, ?_⟩
    omega
  · rw [if_neg h1]
    by_cases h2 : c.toNat = 10
    · rw [if_pos h2]
      right; left
      refine ⟨rfl, ?_⟩
      omega
    · rw [if_neg h2]
      by_cases h3 : c.toNat < 32 ∨ 126 < c.toNat
      · rw [if_pos h3]
        right; right; left
        refine ⟨rfl, ?_⟩
        omega
      · rw [if_neg h3]
        right; right; right
        refine ⟨rfl, ?_⟩
        omega

theorem hex_text (d : Nat) (h : d < 16) : (ByteArray.extract ⟨#[48, 49, 50, 51, 52, 53, 54, 55, 56, 57, 97, 98, 99, 100, 101, 102]⟩ d (d + 1)).data.toList = [hexc d] := by
  rcases (show d = 0 ∨ d = 1 ∨ d = 2 ∨ d = 3 ∨ d = 4 ∨ d = 5 ∨ d = 6 ∨ d = 7 ∨ d = 8 ∨ d = 9 ∨ d = 10 ∨ d = 11 ∨ d = 12 ∨ d = 13 ∨ d = 14 ∨ d = 15 by omega) with rfl | rfl | rfl | rfl | rfl | rfl | rfl | rfl | rfl | rfl | rfl | rfl | rfl | rfl | rfl | rfl <;> rfl

theorem ext_one (s : ByteArray) (k : Nat) (h : k < s.size) : (s.extract k (k + 1)).data.toList = [s[k]] := by
  rw [Lib.extract_data, show k + 1 - k = 1 by omega, List.drop_eq_getElem_cons (by simpa using h)]
  rfl

theorem app_toList (a b : ByteArray) : (a ++ b).data.toList = a.data.toList ++ b.data.toList := by simp

theorem quoH_size {s t : ByteArray} {k : Nat} (hk : k ≤ s.size) (h : t.data.toList = quoH (s.data.toList.take k)) : t.size ≤ 1 + 4 * k := by
  have h1 := quoH_len (s.data.toList.take k)
  have h2 : t.data.toList.length = t.size := by simp
  have h3 : (s.data.toList.take k).length ≤ k := List.length_take_le _ _
  rw [h] at h2
  omega

theorem slice_hex (x : Int) (d : Nat) (hx : x = d) (hd : d < 16) (w : World) :
    (Instr.slice 9 (.string ⟨#[48, 49, 50, 51, 52, 53, 54, 55, 56, 57, 97, 98, 99, 100, 101, 102]⟩) (some (.int .i64 x)) (some (.int .i64 (x + 1))) none).run Try.prog w = .ok (.string (bstr [hexc d])) w := by
  subst hx
  rw [run_slice_string_if _ _ _ _ _ _ _ Try.underlying9]
  have h1 : (0 : Int) ≤ (d : Int) + 1 ∧ (d : Int) + 1 ≤ ((⟨#[48, 49, 50, 51, 52, 53, 54, 55, 56, 57, 97, 98, 99, 100, 101, 102]⟩ : ByteArray).size : Int) := by
    rw [show (⟨#[48, 49, 50, 51, 52, 53, 54, 55, 56, 57, 97, 98, 99, 100, 101, 102]⟩ : ByteArray).size = 16 from rfl]; omega
  rw [if_pos h1, if_pos ⟨by omega, by omega⟩]
  have e1 : ((d : Int)).toNat = d := by omega
  have e2 : ((d : Int) + 1).toNat = d + 1 := by omega
  rw [e1, e2]
  exact congrArg (fun s => Result.ok (Value.string s) w) (eq_bstr (hex_text d hd))

theorem and15 (n : Nat) (h : n < 256) : bits BinOp.and .i64 (n : Int) 15 = ((n % 16 : Nat) : Int) := by
  have h1 : ∀ c : Fin 256, bits BinOp.and .i64 ((c.val : Nat) : Int) 15 = ((c.val % 16 : Nat) : Int) := by decide +kernel
  exact h1 ⟨n, h⟩

theorem spec_hex (x : Int) (d : Nat) (w : World) (hx : x = d) (hd : d < 16) : Calls Try.prog 212 #[.int .i64 x] w fun e w' => e = .returned (.string (bstr [hexc d])) ∧ w = w' := by
  subst hx
  have hsl := slice_hex (d : Int) d rfl hd
  go_enter Try.func212, Try.ntmps212
  go_wp2_with fail
  go_ret
  exact ⟨rfl, rfl⟩

theorem quo_own {w : World} {B m : Nat} {v : Value} {T N : List UInt8} {news : List Value} (h : w.ownsRow B 5 1 v (T.length + m) (bcs T ++ news)) (hm : m = N.length) (hn : news = bcs N) : w.ownsRow B 5 1 v (T ++ N).length (bcs (T ++ N)) := by
  subst hm; subst hn
  rw [bcs_app, List.length_append]
  exact h

/-- the round's end of the loop over the bytes -/
theorem quote_rel {s t t' : ByteArray} {k : Nat} {v : Value} (hlt : k < s.size) (hv : v = .string t') (h : t'.data.toList = quoH (s.data.toList.take (k + 1))) :
    ∃ (k_1 : Nat) (t_1 : ByteArray), k_1 ≤ s.size ∧ Value.int .i64 ((k : Int) + 1) = .int .i64 k_1 ∧ v = .string t_1 ∧ t_1.size ≤ 1 + 4 * k_1 ∧ Hid (t_1.data.toList = quoH (s.data.toList.take k_1)) :=
  ⟨k + 1, t', by omega, by go_num, hv, quoH_size (by omega) h, h⟩

theorem spec_quote (s : ByteArray) (w : World) (hs : s.size ≤ 33554432) : Calls Try.prog 198 #[.string s] w fun e w' => e = .returned (.string (bstr (quoL s.data.toList))) ∧ w = w' := by
  go_enter Try.func198, Try.ntmps198
  go_wp2_with fail
  go_loop [3, 4] (fun o i => ∃ (k : Nat) (t : ByteArray), k ≤ s.size ∧ i = .int .i64 k ∧ o = .string t ∧ t.size ≤ 1 + 4 * k ∧ Hid (t.data.toList = quoH (s.data.toList.take k))) (fun _ i => s.size - (intOf i).toNat)
  case atStart => exact ⟨0, ⟨#[34]⟩, Nat.zero_le _, rfl, rfl, by decide, rfl⟩
  case round =>
    obtain ⟨k, t, hk, rfl, rfl, htl, ht⟩ := hrel
    by_cases hlt : k < s.size
    · have hsucc := Lib.hid (quoH_succ s k hlt)
      rcases quo_cases s[k] with ⟨hq, (d1 | ⟨d1, d2⟩)⟩ | ⟨hq, d1, d2, d3⟩ | ⟨hq, d1, d2, d3, (d4 | ⟨d4, d5⟩)⟩ | ⟨hq, d1, d2, d3, d4, d5⟩
      all_goals
        have hb0 : (s[k].toNat : Int) ≤ 255 := by have := s[k].toNat_lt; omega
        have hs1 := Lib.hid (ext_one s k hlt)
        have hs2 := Lib.hid (hsucc.out.trans (congrArg (quoH (s.data.toList.take k) ++ ·) hq))
        clear hq
      · go_wp2_with fail
        go_round
        case rel => exact quote_rel (t := t) hlt rfl (by simp only [app_toList, hs2.out, ht.out, hs1.out]; simp)
        case measure => simp [intOf]; omega
      · go_wp2_with fail
        go_round
        case rel => exact quote_rel (t := t) hlt rfl (by simp only [app_toList, hs2.out, ht.out, hs1.out]; simp)
        case measure => simp [intOf]; omega
      · go_wp2_with fail
        go_round
        case rel => exact quote_rel (t := t) hlt rfl (by simp only [app_toList, hs2.out, ht.out]; try simp)
        case measure => simp [intOf]; omega
      · have hd1 : s[k].toNat / 16 < 16 := by omega
        have hd2 : s[k].toNat % 16 < 16 := by omega
        have hz1 : (bstr [hexc (s[k].toNat / 16)]).size = 1 := rfl
        have hz2 : (bstr [hexc (s[k].toNat % 16)]).size = 1 := rfl
        go_wp2_with fail
        refine (spec_hex _ (s[k].toNat / 16) _ (by omega) hd1).mono ?_
        rintro e w1 ⟨rfl, rfl⟩
        go_wp2_with fail
        refine (spec_hex _ (s[k].toNat % 16) _ (and15 _ (by omega)) hd2).mono ?_
        rintro e w1 ⟨rfl, rfl⟩
        go_wp2_with fail
        go_round
        case rel => exact quote_rel (t := t) hlt rfl (by simp only [app_toList, hs2.out, ht.out, bstr_toList]; simp)
        case measure => simp [intOf]; omega
      · have hd1 : s[k].toNat / 16 < 16 := by omega
        have hd2 : s[k].toNat % 16 < 16 := by omega
        have hz1 : (bstr [hexc (s[k].toNat / 16)]).size = 1 := rfl
        have hz2 : (bstr [hexc (s[k].toNat % 16)]).size = 1 := rfl
        go_wp2_with fail
        refine (spec_hex _ (s[k].toNat / 16) _ (by omega) hd1).mono ?_
        rintro e w1 ⟨rfl, rfl⟩
        go_wp2_with fail
        refine (spec_hex _ (s[k].toNat % 16) _ (and15 _ (by omega)) hd2).mono ?_
        rintro e w1 ⟨rfl, rfl⟩
        go_wp2_with fail
        go_round
        case rel => exact quote_rel (t := t) hlt rfl (by simp only [app_toList, hs2.out, ht.out, bstr_toList]; simp)
        case measure => simp [intOf]; omega
      · go_wp2_with fail
        go_round
        case rel => exact quote_rel (t := t) hlt rfl (by simp only [app_toList, hs2.out, ht.out, hs1.out])
        case measure => simp [intOf]; omega
    · have fin : Hid (t.data.toList = quoH s.data.toList) := by
        have h1 := ht.out
        rw [List.take_of_length_le (by simp; omega)] at h1
        exact h1
      go_wp2_with fail
      go_ret
      exact ⟨ret_str (eq_bstr (by simp [fin.out, quoL])), rfl⟩

end Go.Proofs.Ytmofcbpabdbjlaa
