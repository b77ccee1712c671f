/-
  What is proved: IsSyntacticName of the program and of the reference return the same, for every string.
  Condition: strings within the model's length.
-/
import Derived.Test.YtmofcbpabdbjlaaName
namespace Go.Proofs.Ytmofcbpabdbjlaa
set_option maxRecDepth 8000
open Go.RowKit
set_option linter.unusedVariables false
set_option linter.unusedSimpArgs false

theorem name_size {s : ByteArray} (h : isNameB s = true) : 0 < s.size := by
  unfold isNameB at h
  simp at h
  omega

theorem list_cons {s : ByteArray} (h : 0 < s.size) : ∃ r, s.data.toList = s[0] :: r := by
  have h1 := byte_at s 0 h
  cases hl : s.data.toList with
  | nil => rw [hl] at h1; cases h1
  | cons c r => rw [hl] at h1; simp at h1; exact ⟨r, by rw [h1]⟩

theorem list_cons2 {s : ByteArray} (h : 1 < s.size) : ∃ r, s.data.toList = s[0] :: s[1] :: r := by
  have h0 := byte_at s 0 (by omega)
  have h1 := byte_at s 1 h
  cases hl : s.data.toList with
  | nil => rw [hl] at h1; cases h1
  | cons c r =>
    rw [hl] at h0 h1
    cases r with
    | nil => simp at h1
    | cons d r => simp at h0 h1; exact ⟨r, by rw [h0, h1]⟩

theorem list_one {s : ByteArray} (h : s.size = 1) : s.data.toList = [s[0]] := by
  obtain ⟨r, hr⟩ := list_cons (s := s) (by omega)
  have hl : s.data.toList.length = 1 := by simpa using h
  rw [hr] at hl ⊢
  cases r with
  | nil => rfl
  | cons a b => simp at hl

/-- the first byte decides: in the walk's own spelling -/
theorem syn_cases (s : ByteArray) (h : 0 < s.size) :
    (hdB s.data.toList = false ∧ ltI s[0].toNat = false ∧ ((s[0].toNat : Int) != 46) = true) ∨
    (hdB s.data.toList = true ∧ ltI s[0].toNat = true ∧ ((s[0].toNat : Int) == 46) = false ∧ ((s[0].toNat : Int) != 46) = true) ∨
    (ltI s[0].toNat = false ∧ ((s[0].toNat : Int) == 46) = true ∧ ((s[0].toNat : Int) != 46) = false ∧
      ((hdB s.data.toList = true ∧ s.size = 1) ∨ ∃ h1 : 1 < s.size, (hdB s.data.toList = true ∧ dgI s[1].toNat = false) ∨ (hdB s.data.toList = false ∧ dgI s[1].toNat = true))) := by
  by_cases hl : ltI s[0].toNat = true
  · refine .inr (.inl ⟨?_, hl, ?_, ?_⟩)
    · obtain ⟨r, hr⟩ := list_cons h
      rw [hr]
      cases r <;> simp [hdB, hl]
    · simp only [ltI, Bool.or_eq_true, Bool.and_eq_true, decide_eq_true_eq] at hl
      simp; omega
    · simp only [ltI, Bool.or_eq_true, Bool.and_eq_true, decide_eq_true_eq] at hl
      simp; omega
  · have hl' : ltI s[0].toNat = false := by simpa using hl
    by_cases h46 : ((s[0].toNat : Int) == 46) = true
    · refine .inr (.inr ⟨hl', h46, by simpa using h46, ?_⟩)
      have e46 : s[0].toNat = 46 := by simp at h46; omega
      by_cases h1 : 1 < s.size
      · right
        refine ⟨h1, ?_⟩
        obtain ⟨r, hr⟩ := list_cons2 h1
        rw [hr]
        cases hd : dgI s[1].toNat
        · exact .inl ⟨by simp [hdB, e46, hd], rfl⟩
        · exact .inr ⟨by simp [hdB, hl', hd], rfl⟩
      · left
        have e1 : s.size = 1 := by omega
        exact ⟨by rw [list_one e1]; simp [hdB, e46], e1⟩
    · left
      refine ⟨?_, hl', by simpa using h46⟩
      have e46 : ¬ s[0].toNat = 46 := by simp at h46; omega
      obtain ⟨r, hr⟩ := list_cons h
      rw [hr]
      cases r <;> simp [hdB, hl', e46]

theorem syn_bad (s : ByteArray) (h : 0 < s.size) (hb : hdB s.data.toList = false) :
    (ltI s[0].toNat = false ∧ ((s[0].toNat : Int) != 46) = true) ∨
    (ltI s[0].toNat = false ∧ ((s[0].toNat : Int) == 46) = true ∧ ((s[0].toNat : Int) != 46) = false ∧ ∃ h1 : 1 < s.size, dgI s[1].toNat = true) := by
  rcases syn_cases s h with ⟨_, a, b⟩ | ⟨a, _⟩ | ⟨a, b, c, (⟨d, _⟩ | ⟨h1, (⟨d, _⟩ | ⟨_, d⟩)⟩)⟩
  · exact .inl ⟨a, b⟩
  · rw [hb] at a; cases a
  · rw [hb] at d; cases d
  · rw [hb] at d; cases d
  · exact .inr ⟨a, b, c, h1, d⟩

theorem syn_good (s : ByteArray) (h : 0 < s.size) (hb : hdB s.data.toList = true) :
    (ltI s[0].toNat = true ∧ ((s[0].toNat : Int) == 46) = false ∧ ((s[0].toNat : Int) != 46) = true) ∨
    (ltI s[0].toNat = false ∧ ((s[0].toNat : Int) == 46) = true ∧ ((s[0].toNat : Int) != 46) = false ∧ s.size ≤ 1) ∨
    (ltI s[0].toNat = false ∧ ((s[0].toNat : Int) == 46) = true ∧ ((s[0].toNat : Int) != 46) = false ∧ ∃ h1 : 1 < s.size, dgI s[1].toNat = false) := by
  rcases syn_cases s h with ⟨a, _⟩ | ⟨_, a, b, c⟩ | ⟨a, b, c, (⟨_, d⟩ | ⟨h1, (⟨_, d⟩ | ⟨d, _⟩)⟩)⟩
  · rw [hb] at a; cases a
  · exact .inl ⟨a, b, c⟩
  · exact .inr (.inl ⟨a, b, c, by omega⟩)
  · exact .inr (.inr ⟨a, b, c, h1, d⟩)
  · rw [hb] at d; cases d

theorem chB_cases (c : UInt8) : (chB c = false ∧ ltI c.toNat = false ∧ dgI c.toNat = false ∧ ((c.toNat : Int) != 46) = true ∧ ((c.toNat : Int) != 95) = true) ∨
    (chB c = true ∧ ((ltI c.toNat = true) ∨ (ltI c.toNat = false ∧ dgI c.toNat = true) ∨ (ltI c.toNat = false ∧ dgI c.toNat = false ∧ ((c.toNat : Int) != 46) = false) ∨ (ltI c.toNat = false ∧ dgI c.toNat = false ∧ ((c.toNat : Int) != 46) = true ∧ ((c.toNat : Int) != 95) = false))) := by
  unfold chB
  cases ltI c.toNat <;> cases dgI c.toNat <;> by_cases h1 : c.toNat = 46 <;> by_cases h2 : c.toNat = 95 <;> simp [h1, h2] <;> omega

theorem syn_false1 {s : ByteArray} (h : isNameB s = false) : synB s = false := by simp [synB, h]
theorem syn_false2 {s : ByteArray} (h : resB s = true) : synB s = false := by simp [synB, h]
theorem syn_false3 {s : ByteArray} (h : hdB s.data.toList = false) : synB s = false := by simp [synB, h]
theorem syn_false4 {s : ByteArray} {k : Nat} (hk : k < s.size) (h : chB s[k] = false) : synB s = false := by simp [synB, all_not hk h]
theorem syn_true {s : ByteArray} (h1 : isNameB s = true) (h2 : resB s = false) (h3 : hdB s.data.toList = true) (h4 : ∀ j (hj : j < s.size), chB s[j] = true) : synB s = true := by simp [synB, h1, h2, h3, all_bytes h4]

set_option maxHeartbeats 1000000 in
theorem impl_syn (s : ByteArray) (w : World) (hs : s.size ≤ maxLen) : Calls Try.prog 220 #[.string s] w fun e w' => e = .returned (.bool (synB s)) ∧ w = w' := by
  by_cases hN : isNameB s = true
  · by_cases hR : resB s = true
    · have fin := Lib.hid (syn_false2 hR)
      go_enter Try.func220, Try.ntmps220
      go_wp2_with (first | (go_at_call 214; refine (impl_isName _ _ hs).mono ?_; rintro e w' ⟨rfl, rfl⟩) | (go_at_call 222; refine (impl_reserved _ _ hs).mono ?_; rintro e w' ⟨rfl, rfl⟩) | (go_at_call 223; refine (impl_letter _ _).mono ?_; rintro e w' ⟨rfl, rfl⟩) | (go_at_call 224; refine (impl_digit _ _).mono ?_; rintro e w' ⟨rfl, rfl⟩))
      go_ret
      exact ⟨ret_bool fin.out.symm, rfl⟩
    · have hR' : resB s = false := by simpa using hR
      have h0 := name_size hN
      clear hR
      by_cases hH : hdB s.data.toList = true
      · have hcs := syn_good s h0 hH
        have HH := Lib.hid hH
        have HR := Lib.hid hR'
        have HN := Lib.hid hN
        clear hH
        have hs2 : s.size ≤ 9223372036854775807 := hs
        rcases hcs with ⟨c1, c2, c3⟩ | ⟨c1, c2, c3, c4⟩ | ⟨c1, c2, c3, c4, c5⟩
        all_goals
          go_enter Try.func220, Try.ntmps220
          go_wp2_with (first | (go_at_call 214; refine (impl_isName _ _ hs).mono ?_; rintro e w' ⟨rfl, rfl⟩) | (go_at_call 222; refine (impl_reserved _ _ hs).mono ?_; rintro e w' ⟨rfl, rfl⟩) | (go_at_call 223; refine (impl_letter _ _).mono ?_; rintro e w' ⟨rfl, rfl⟩) | (go_at_call 224; refine (impl_digit _ _).mono ?_; rintro e w' ⟨rfl, rfl⟩))
          go_loop [3] (fun i => ∃ k : Nat, k ≤ s.size ∧ i = .int .i64 k ∧ Hid (∀ j (hj : j < s.size), j < k → chB s[j] = true)) (fun i => s.size - (intOf i).toNat)
          case atStart => exact ⟨0, Nat.zero_le _, rfl, fun j _ h => absurd h (by omega)⟩
          case round =>
            obtain ⟨k, hk, rfl, hall⟩ := hrel
            by_cases hlt : k < s.size
            · rcases chB_cases s[k] with ⟨hb, d1, d2, d3, d4⟩ | ⟨hb, (d1 | ⟨d1, d2⟩ | ⟨d1, d2, d3⟩ | ⟨d1, d2, d3, d4⟩)⟩
              · have fin := Lib.hid (syn_false4 hlt hb)
                clear hb
                go_wp2_with (first | (go_at_call 214; refine (impl_isName _ _ hs).mono ?_; rintro e w' ⟨rfl, rfl⟩) | (go_at_call 222; refine (impl_reserved _ _ hs).mono ?_; rintro e w' ⟨rfl, rfl⟩) | (go_at_call 223; refine (impl_letter _ _).mono ?_; rintro e w' ⟨rfl, rfl⟩) | (go_at_call 224; refine (impl_digit _ _).mono ?_; rintro e w' ⟨rfl, rfl⟩))
                go_ret
                exact ⟨ret_bool fin.out.symm, rfl⟩
              all_goals
                have hs1 := Lib.hid (below_succ hall.out hlt hb)
                clear hb
                go_wp2_with (first | (go_at_call 214; refine (impl_isName _ _ hs).mono ?_; rintro e w' ⟨rfl, rfl⟩) | (go_at_call 222; refine (impl_reserved _ _ hs).mono ?_; rintro e w' ⟨rfl, rfl⟩) | (go_at_call 223; refine (impl_letter _ _).mono ?_; rintro e w' ⟨rfl, rfl⟩) | (go_at_call 224; refine (impl_digit _ _).mono ?_; rintro e w' ⟨rfl, rfl⟩))
                go_round
                case rel => exact ⟨k + 1, by omega, by go_num, hs1⟩
                case measure => simp [intOf]; omega
            · have fin := Lib.hid (syn_true HN.out HR.out HH.out (fun j hj => hall.out j hj (by omega)))
              go_wp2_with fail
              go_ret
              exact ⟨ret_bool fin.out.symm, rfl⟩
      · have hH' : hdB s.data.toList = false := by simpa using hH
        have hcs := syn_bad s h0 hH'
        have fin := Lib.hid (syn_false3 hH')
        clear hH hH'
        rcases hcs with ⟨c1, c2⟩ | ⟨c1, c2, c3, c4, c5⟩
        all_goals
          go_enter Try.func220, Try.ntmps220
          go_wp2_with (first | (go_at_call 214; refine (impl_isName _ _ hs).mono ?_; rintro e w' ⟨rfl, rfl⟩) | (go_at_call 222; refine (impl_reserved _ _ hs).mono ?_; rintro e w' ⟨rfl, rfl⟩) | (go_at_call 223; refine (impl_letter _ _).mono ?_; rintro e w' ⟨rfl, rfl⟩) | (go_at_call 224; refine (impl_digit _ _).mono ?_; rintro e w' ⟨rfl, rfl⟩))
          go_ret
          exact ⟨ret_bool fin.out.symm, rfl⟩
  · have hN' : isNameB s = false := by simpa using hN
    have fin := Lib.hid (syn_false1 hN')
    clear hN
    go_enter Try.func220, Try.ntmps220
    go_wp2_with (first | (go_at_call 214; refine (impl_isName _ _ hs).mono ?_; rintro e w' ⟨rfl, rfl⟩) | (go_at_call 222; refine (impl_reserved _ _ hs).mono ?_; rintro e w' ⟨rfl, rfl⟩) | (go_at_call 223; refine (impl_letter _ _).mono ?_; rintro e w' ⟨rfl, rfl⟩) | (go_at_call 224; refine (impl_digit _ _).mono ?_; rintro e w' ⟨rfl, rfl⟩))
    go_ret
    exact ⟨ret_bool fin.out.symm, rfl⟩

end Go.Proofs.Ytmofcbpabdbjlaa
