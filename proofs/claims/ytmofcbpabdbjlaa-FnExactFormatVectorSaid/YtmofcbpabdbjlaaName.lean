/-
  What is proved: what the functions on names (IsName, IsSyntacticName, isReserved, isLetter, isDigit, of the program and of the reference) return.
  Condition: strings within the model's length.
-/
import Derived.Test.YtmofcbpabdbjlaaBase
import Derived.WalkLawsBesides
namespace Go.Proofs.Ytmofcbpabdbjlaa
set_option maxRecDepth 8000
open Go.RowKit
set_option linter.unusedVariables false
set_option linter.unusedSimpArgs false

def nmB (c : UInt8) : Bool := decide (33 ≤ c.toNat ∧ c.toNat ≤ 126 ∧ c.toNat ≠ 96)
def isNameB (s : ByteArray) : Bool := s.data.toList.all nmB && decide (1 ≤ s.size ∧ s.size ≤ 20)

theorem byte_at (s : ByteArray) (k : Nat) (h : k < s.size) : s.data.toList[k]? = some s[k] := by
  rw [List.getElem?_eq_getElem (by simpa using h)]
  rfl

theorem all_bytes {p : UInt8 → Bool} {s : ByteArray} (h : ∀ j (hj : j < s.size), p s[j] = true) : s.data.toList.all p = true := by
  rw [List.all_eq_true]
  intro x hx
  obtain ⟨j, hj, rfl⟩ := List.getElem_of_mem hx
  exact h j (by simpa using hj)

theorem all_not {p : UInt8 → Bool} {s : ByteArray} {k : Nat} (hk : k < s.size) (h : p s[k] = false) : s.data.toList.all p = false := by
  rw [Bool.eq_false_iff]
  intro ha
  rw [List.all_eq_true] at ha
  have := ha s[k] (List.mem_of_getElem? (byte_at s k hk))
  rw [h] at this
  cases this

theorem isName_hit {s : ByteArray} (h : ∀ j (hj : j < s.size), nmB s[j] = true) : isNameB s = decide (1 ≤ s.size ∧ s.size ≤ 20) := by
  unfold isNameB
  rw [all_bytes h, Bool.true_and]

theorem isName_miss {s : ByteArray} {k : Nat} (hk : k < s.size) (h : nmB s[k] = false) : isNameB s = false := by
  unfold isNameB
  rw [all_not hk h, Bool.false_and]

theorem below_succ {s : ByteArray} {p : UInt8 → Bool} {k : Nat} (h : ∀ j (hj : j < s.size), j < k → p s[j] = true) (hk : k < s.size) (hp : p s[k] = true) : ∀ j (hj : j < s.size), j < k + 1 → p s[j] = true := by
  intro j hj hjk
  by_cases e : j = k
  · subst e; exact hp
  · exact h j hj (by omega)

theorem nmB_true {c : UInt8} (h : nmB c = true) : (33 : Int) ≤ (c.toNat : Int) ∧ (c.toNat : Int) ≤ 126 ∧ ((c.toNat : Int) == 96) = false := by
  simp only [nmB, decide_eq_true_eq] at h
  refine ⟨by omega, by omega, by simp; omega⟩

theorem nmB_false {c : UInt8} (h : nmB c = false) : (c.toNat : Int) < 33 ∨ ((33 : Int) ≤ (c.toNat : Int) ∧ (126 : Int) < (c.toNat : Int)) ∨ ((33 : Int) ≤ (c.toNat : Int) ∧ (c.toNat : Int) ≤ 126 ∧ ((c.toNat : Int) == 96) = true) := by
  simp only [nmB, decide_eq_false_iff_not] at h
  simp only [beq_iff_eq]
  omega

theorem impl_isName (s : ByteArray) (w : World) (hs : s.size ≤ maxLen) : Calls Try.prog 214 #[.string s] w fun e w' => e = .returned (.bool (isNameB s)) ∧ w = w' := by
  unfold maxLen at hs
  go_enter Try.func214, Try.ntmps214
  go_wp2_with fail
  go_loop [3] (fun i => ∃ k : Nat, k ≤ s.size ∧ i = .int .i64 k ∧ Hid (∀ j (hj : j < s.size), j < k → nmB s[j] = true)) (fun i => s.size - (intOf i).toNat)
  case atStart => exact ⟨0, Nat.zero_le _, rfl, fun j _ h => absurd h (by omega)⟩
  case round =>
    obtain ⟨k, hk, rfl, hall⟩ := hrel
    by_cases hlt : k < s.size
    · by_cases hb : nmB s[k] = true
      · have hs1 := Lib.hid (below_succ hall.out hlt hb)
        obtain ⟨h1, h2, h3⟩ := nmB_true hb
        clear hb
        go_wp2_with fail
        go_round
        case rel => exact ⟨k + 1, by omega, by go_num, hs1⟩
        case measure => simp [intOf]; omega
      · have hb' : nmB s[k] = false := by simpa using hb
        have fin := Lib.hid (isName_miss hlt hb')
        have h0 := nmB_false hb'
        clear hb hb'
        rcases h0 with h1 | ⟨h1, h2⟩ | ⟨h1, h2, h3⟩
        all_goals
          go_wp2_with fail
          go_ret
          exact ⟨ret_bool fin.out.symm, rfl⟩
    · have hkn : k = s.size := by omega
      have fin := Lib.hid (isName_hit (s := s) (fun j hj => hall.out j hj (by omega)))
      have HK := Lib.hid hkn
      clear hkn
      rcases (show s.size < 1 ∨ (1 ≤ s.size ∧ s.size ≤ 20) ∨ 20 < s.size by omega) with g | ⟨g, g'⟩ | g
      · go_wp2_with fail
        go_ret
        exact ⟨ret_bool (by rw [fin.out, Bool.eq_iff_iff]; simp; omega), rfl⟩
      · go_wp2_with fail
        go_ret
        exact ⟨ret_bool (by rw [fin.out, Bool.eq_iff_iff]; simp; omega), rfl⟩
      · go_wp2_with fail
        go_ret
        exact ⟨ret_bool (by rw [fin.out, Bool.eq_iff_iff]; simp; omega), rfl⟩

theorem spec_isName (s : ByteArray) (w : World) (hs : s.size ≤ maxLen) : Calls Try.prog 196 #[.string s] w fun e w' => e = .returned (.bool (isNameB s)) ∧ w = w' := by
  unfold maxLen at hs
  go_enter Try.func196, Try.ntmps196
  go_wp2_with fail
  go_loop [3] (fun i => ∃ k : Nat, k ≤ s.size ∧ i = .int .i64 k ∧ Hid (∀ j (hj : j < s.size), j < k → nmB s[j] = true)) (fun i => s.size - (intOf i).toNat)
  case atStart => exact ⟨0, Nat.zero_le _, rfl, fun j _ h => absurd h (by omega)⟩
  case round =>
    obtain ⟨k, hk, rfl, hall⟩ := hrel
    by_cases hlt : k < s.size
    · by_cases hb : nmB s[k] = true
      · have hs1 := Lib.hid (below_succ hall.out hlt hb)
        obtain ⟨h1, h2, h3⟩ := nmB_true hb
        clear hb
        go_wp2_with fail
        go_round
        case rel => exact ⟨k + 1, by omega, by go_num, hs1⟩
        case measure => simp [intOf]; omega
      · have hb' : nmB s[k] = false := by simpa using hb
        have fin := Lib.hid (isName_miss hlt hb')
        have h0 := nmB_false hb'
        clear hb hb'
        rcases h0 with h1 | ⟨h1, h2⟩ | ⟨h1, h2, h3⟩
        all_goals
          go_wp2_with fail
          go_ret
          exact ⟨ret_bool fin.out.symm, rfl⟩
    · have hkn : k = s.size := by omega
      have fin := Lib.hid (isName_hit (s := s) (fun j hj => hall.out j hj (by omega)))
      clear hkn
      go_wp2_with (go_at_call 104; refine (spec_in _ _ _ _).mono ?_; rintro e w' ⟨rfl, rfl⟩)
      go_ret
      exact ⟨ret_bool (by rw [fin.out]; unfold inI; rw [Bool.eq_iff_iff]; simp; omega), rfl⟩

/-- the reserved words, as bytes -/
def resLL : List (List UInt8) := [[105, 102], [101, 108, 115, 101], [102, 111, 114], [105, 110], [119, 104, 105, 108, 101], [98, 114, 101, 97, 107], [110, 101, 120, 116], [102, 117, 110, 99, 116, 105, 111, 110], [114, 101, 116, 117, 114, 110], [84, 82, 85, 69], [70, 65, 76, 83, 69], [78, 85, 76, 76], [78, 65], [78, 65, 95, 110, 117, 109, 98, 101, 114, 95], [78, 65, 95, 99, 104, 97, 114, 97, 99, 116, 101, 114, 95], [116, 114, 121, 67, 97, 116, 99, 104], [119, 105, 116, 104, 67, 97, 108, 108, 105, 110, 103, 72, 97, 110, 100, 108, 101, 114, 115], [119, 105, 116, 104, 82, 101, 115, 116, 97, 114, 116], [105, 110, 118, 111, 107, 101, 82, 101, 115, 116, 97, 114, 116], [109, 105, 115, 115, 105, 110, 103], [111, 110, 46, 101, 120, 105, 116], [85, 115, 101, 77, 101, 116, 104, 111, 100], [78, 101, 120, 116, 77, 101, 116, 104, 111, 100]]
def resB (s : ByteArray) : Bool := resLL.any fun l => s.toList == l

set_option maxHeartbeats 1000000 in
theorem impl_reserved (s : ByteArray) (w : World) (hs : s.size ≤ maxLen) : Calls Try.prog 222 #[.string s] w fun e w' => e = .returned (.bool (resB s)) ∧ w = w' := by
  unfold maxLen at hs
  go_enter Try.func222, Try.ntmps222
  go_wp2_with fail
  all_goals (go_ret; refine ⟨ret_bool ?_, rfl⟩; go_light; simp only [resB, resLL, List.any_cons, List.any_nil]; simp_all)

/-- where a string stands in a list of strings; -1 if it does not -/
def findS (l : List ByteArray) (s : ByteArray) : Int := match l.findIdx? (fun x => x.toList == s.toList) with | some k => k | none => -1
def strs (l : List ByteArray) : List Value := l.map Value.string

theorem strs_getD {l : List ByteArray} {k : Nat} (h : k < l.length) : (strs l).getD k undef = .string (l[k]?.getD ByteArray.empty) := by
  simp [strs, List.getD_eq_getElem?_getD, h]

theorem find_hit {l : List ByteArray} {s : ByteArray} {k : Nat} (hk : k < l.length) (hall : ∀ j, j < k → ((l[j]?.getD ByteArray.empty).toList == s.toList) = false) (h : ((l[k]?.getD ByteArray.empty).toList == s.toList) = true) : findS l s = k := by
  have : l.findIdx? (fun x => x.toList == s.toList) = some k := by
    rw [List.findIdx?_eq_some_iff_getElem]
    refine ⟨hk, ?_, fun j hj => ?_⟩
    · simpa [List.getElem?_eq_getElem hk] using h
    · have := hall j hj
      simpa [List.getElem?_eq_getElem (show j < l.length by omega)] using this
  simp [findS, this]

theorem find_miss {l : List ByteArray} {s : ByteArray} (hall : ∀ j, j < l.length → ((l[j]?.getD ByteArray.empty).toList == s.toList) = false) : findS l s = -1 := by
  have : l.findIdx? (fun x => x.toList == s.toList) = none := by
    rw [List.findIdx?_eq_none_iff]
    intro x hx
    obtain ⟨j, hj, rfl⟩ := List.getElem_of_mem hx
    have := hall j hj
    simpa [List.getElem?_eq_getElem hj] using this
  simp [findS, this]

theorem spec_find (A : Option Addr) (n c : Nat) (l : List ByteArray) (s : ByteArray) (w : World) (h : Sl w 1 A n (strs l)) (hn : n ≤ 9223372036854775807) :
    Calls Try.prog 147 #[.slice A n c, .string s] w fun e w' => e = .returned (.int .i64 (findS l s)) ∧ w = w' := by
  have hl : l.length = n := by have := h.len; simpa [strs] using this
  have HL := Lib.hid hl
  clear hl
  go_enter Try.func147, Try.ntmps147
  go_wp2_with fail
  go_loop [5] (fun i => ∃ k : Nat, k ≤ n ∧ i = .int .i64 k ∧ Hid (∀ j, j < k → ((l[j]?.getD ByteArray.empty).toList == s.toList) = false)) (fun i => n - (intOf i).toNat)
  case atStart => exact ⟨0, Nat.zero_le _, rfl, fun j h => absurd h (by omega)⟩
  case round =>
    obtain ⟨k, hk, rfl, hall⟩ := hrel
    by_cases hlt : k < n
    · obtain ⟨b, off, rfl, hb, hc⟩ := h.cell1 hlt
      rw [strs_getD (by have := HL.out; omega)] at hc
      by_cases he : ((l[k]?.getD ByteArray.empty).toList == s.toList) = true
      · have fin := Lib.hid (find_hit (by have := HL.out; omega) hall.out he)
        go_wp2_with fail
        go_ret
        exact ⟨ret_int fin.out.symm, rfl⟩
      · have he' : ((l[k]?.getD ByteArray.empty).toList == s.toList) = false := by simpa using he
        have hs : Hid (∀ j, j < k + 1 → ((l[j]?.getD ByteArray.empty).toList == s.toList) = false) := fun j hj => by
          by_cases e : j = k
          · subst e; exact he'
          · exact hall.out j (by omega)
        clear he
        go_wp2_with fail
        go_round
        case rel => exact ⟨k + 1, by omega, by go_num, hs⟩
        case measure => simp [intOf]; omega
    · have hkn : k = n := by omega
      subst hkn
      have fin := Lib.hid (find_miss (l := l) (s := s) (fun j hj => hall.out j (by have := HL.out; omega)))
      go_wp2_with fail
      go_ret
      exact ⟨ret_int fin.out.symm, rfl⟩

theorem spec_has (A : Option Addr) (n c : Nat) (l : List ByteArray) (s : ByteArray) (w : World) (h : Sl w 1 A n (strs l)) (hn : n ≤ 9223372036854775807) :
    Calls Try.prog 81 #[.slice A n c, .string s] w fun e w' => e = .returned (.bool (decide (0 ≤ findS l s))) ∧ w = w' := by
  go_enter Try.func81, Try.ntmps81
  go_wp2_with (go_at_call 147; refine (spec_find A n c l s _ h hn).mono ?_; rintro e w' ⟨rfl, rfl⟩)
  go_ret
  exact ⟨rfl, rfl⟩

def resL : List ByteArray := resLL.map fun l => ⟨l.toArray⟩

theorem find_any (l : List ByteArray) (s : ByteArray) : decide (0 ≤ findS l s) = l.any fun x => x.toList == s.toList := by
  rw [← List.findIdx?_isSome]
  unfold findS
  cases l.findIdx? (fun x => x.toList == s.toList) with
  | none => simp
  | some k => simp

theorem has_res (s : ByteArray) : decide (0 ≤ findS resL s) = resB s := by
  rw [find_any, resL, List.any_map, resB]
  congr 1
  funext l
  simp only [Function.comp_apply, toList_mk]
  rw [Bool.eq_iff_iff]
  simp only [beq_iff_eq]
  exact eq_comm

theorem spec_reserved (s : ByteArray) (w : World) : Calls Try.prog 219 #[.string s] w fun e w' => e = .returned (.bool (resB s)) ∧ Below w.heap.size w w' := by
  have hr := Lib.hid (has_res s)
  go_enter Try.func219, Try.ntmps219
  go_wp2_with fail
  refine (spec_has _ 23 23 resL s _ (Sl.of_lit w _ _ 1 23 _ rfl rfl) (by omega)).mono ?_
  rintro e w1 ⟨rfl, rfl⟩
  go_wp2_with fail
  go_ret
  exact ⟨ret_bool hr.out, by go_grown⟩

def ltI (n : Int) : Bool := (decide (97 ≤ n) && decide (n ≤ 122)) || (decide (65 ≤ n) && decide (n ≤ 90))
def dgI (n : Int) : Bool := decide (48 ≤ n) && decide (n ≤ 57)

theorem impl_letter (n : Int) (w : World) : Calls Try.prog 223 #[.int .u8 n] w fun e w' => e = .returned (.bool (ltI n)) ∧ w = w' := by
  go_enter Try.func223, Try.ntmps223
  go_wp2_with fail
  all_goals (go_ret; exact ⟨ret_bool (by go_light; simp_all [ltI]; try omega), rfl⟩)

theorem impl_digit (n : Int) (w : World) : Calls Try.prog 224 #[.int .u8 n] w fun e w' => e = .returned (.bool (dgI n)) ∧ w = w' := by
  go_enter Try.func224, Try.ntmps224
  go_wp2_with fail
  all_goals (go_ret; exact ⟨ret_bool (by go_light; simp_all [dgI]; try omega), rfl⟩)

theorem spec_letter (n : Int) (w : World) : Calls Try.prog 217 #[.int .u8 n] w fun e w' => e = .returned (.bool (ltI n)) ∧ w = w' := by
  go_enter Try.func217, Try.ntmps217
  go_wp2_with fail
  all_goals (go_ret; exact ⟨ret_bool (by go_light; simp_all [ltI]; try omega), rfl⟩)

theorem spec_digit (n : Int) (w : World) : Calls Try.prog 218 #[.int .u8 n] w fun e w' => e = .returned (.bool (dgI n)) ∧ w = w' := by
  go_enter Try.func218, Try.ntmps218
  go_wp2_with fail
  all_goals (go_ret; exact ⟨ret_bool (by go_light; simp_all [dgI]; try omega), rfl⟩)

/-- a byte that a syntactic name may hold; a byte with which it may begin -/
def chB (c : UInt8) : Bool := ltI c.toNat || dgI c.toNat || c.toNat == 46 || c.toNat == 95
def hdB (l : List UInt8) : Bool := match l with
  | [] => false
  | [c] => ltI c.toNat || c.toNat == 46
  | c :: d :: _ => ltI c.toNat || (c.toNat == 46 && !dgI d.toNat)
def synB (s : ByteArray) : Bool := isNameB s && !resB s && hdB s.data.toList && s.data.toList.all chB

end Go.Proofs.Ytmofcbpabdbjlaa
