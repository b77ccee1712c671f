/-
  What is proved: IsSyntacticName of the program and of the reference return the same, for every string.
  Condition: strings within the model's length.
-/
import Derived.Test.YtmofcbpabdbjlaaSyn
namespace Go.Proofs.Ytmofcbpabdbjlaa
set_option maxRecDepth 8000
open Go.RowKit
set_option linter.unusedVariables false
set_option linter.unusedSimpArgs false

/-- the reference's test on one byte -/
def cdB (k : Nat) (c : UInt8) : Bool := ltI c.toNat || c.toNat == 46 || (k != 0 && (dgI c.toNat || c.toNat == 95))

theorem cdB_cases (k : Nat) (c : UInt8) :
    (cdB k c = false ∧ ltI c.toNat = false ∧ ((c.toNat : Int) != 46) = true ∧ (((k : Int) == 0) = true ∨ (((k : Int) == 0) = false ∧ dgI c.toNat = false ∧ ((c.toNat : Int) != 95) = true))) ∨
    (cdB k c = true ∧ ((ltI c.toNat = true) ∨ (ltI c.toNat = false ∧ ((c.toNat : Int) != 46) = false) ∨
      (ltI c.toNat = false ∧ ((c.toNat : Int) != 46) = true ∧ ((k : Int) == 0) = false ∧ dgI c.toNat = true) ∨
      (ltI c.toNat = false ∧ ((c.toNat : Int) != 46) = true ∧ ((k : Int) == 0) = false ∧ dgI c.toNat = false ∧ ((c.toNat : Int) != 95) = false))) := by
  unfold cdB
  cases ltI c.toNat <;> cases dgI c.toNat <;> by_cases h1 : c.toNat = 46 <;> by_cases h2 : c.toNat = 95 <;> by_cases h3 : k = 0 <;> simp [h1, h2, h3] <;> omega

theorem cd_ch {k : Nat} {c : UInt8} (h : cdB k c = true) : chB c = true := by
  unfold cdB at h
  unfold chB
  revert h
  cases ltI c.toNat <;> cases dgI c.toNat <;> cases (c.toNat == 46) <;> cases (c.toNat == 95) <;> simp

theorem ch_cd {k : Nat} {c : UInt8} (h : chB c = true) (hk : k ≠ 0) : cdB k c = true := by
  unfold chB at h
  unfold cdB
  revert h
  cases ltI c.toNat <;> cases dgI c.toNat <;> cases (c.toNat == 46) <;> cases (c.toNat == 95) <;> simp [hk]

theorem syn_cd {s : ByteArray} {k : Nat} (hk : k < s.size) (h : cdB k s[k] = false) : synB s = false := by
  by_cases h0 : k = 0
  · subst h0
    refine syn_false3 ?_
    rcases syn_cases s hk with ⟨a, _⟩ | ⟨_, a, _⟩ | ⟨_, a, _⟩
    · exact a
    · simp [cdB, a] at h
    · simp at a; simp [cdB, show s[0].toNat = 46 by omega] at h
  · refine syn_false4 hk ?_
    cases hc : chB s[k]
    · rfl
    · rw [ch_cd hc h0] at h; cases h

theorem syn_head {s : ByteArray} (h0 : 0 < s.size) (h : cdB 0 s[0] = true) :
    (hdB s.data.toList = true ∧ ((s[0].toNat : Int) != 46) = true) ∨
    (((s[0].toNat : Int) != 46) = false ∧ ((hdB s.data.toList = true ∧ ((s.size : Int) == 1) = true) ∨ (((s.size : Int) == 1) = false ∧ ∃ h1 : 1 < s.size, (hdB s.data.toList = true ∧ dgI s[1].toNat = false) ∨ (hdB s.data.toList = false ∧ dgI s[1].toNat = true)))) := by
  rcases syn_cases s h0 with ⟨_, a, b⟩ | ⟨a, b, c, d⟩ | ⟨a, b, c, d⟩
  · exfalso; simp at b; simp [cdB, a, show ¬ s[0].toNat = 46 by omega] at h
  · exact .inl ⟨a, d⟩
  · refine .inr ⟨c, ?_⟩
    rcases d with ⟨d, e⟩ | ⟨h1, d⟩
    · exact .inl ⟨d, by simp; omega⟩
    · exact .inr ⟨by simp; omega, h1, d⟩

set_option maxHeartbeats 1000000 in
theorem spec_syn (s : ByteArray) (w : World) (hs : s.size ≤ maxLen) : Calls Try.prog 211 #[.string s] w fun e w' => e = .returned (.bool (synB s)) ∧ Below w.heap.size w w' := by
  have hs2 : s.size ≤ 9223372036854775807 := hs
  go_enter Try.func211, Try.ntmps211
  go_wp2_with fail
  go_loop [3] (fun i => ∃ k : Nat, k ≤ s.size ∧ i = .int .i64 k ∧ Hid (∀ j (hj : j < s.size), j < k → cdB j s[j] = true)) (fun i => s.size - (intOf i).toNat)
  case atStart => exact ⟨0, Nat.zero_le _, rfl, fun j _ h => absurd h (by omega)⟩
  case round =>
    obtain ⟨k, hk, rfl, hall⟩ := hrel
    by_cases hlt : k < s.size
    · rcases cdB_cases k s[k] with ⟨hb, d1, d2, d3⟩ | ⟨hb, (d1 | ⟨d1, d2⟩ | ⟨d1, d2, d3, d4⟩ | ⟨d1, d2, d3, d4, d5⟩)⟩
      · have fin := Lib.hid (syn_cd hlt hb)
        clear hb
        rcases d3 with d3 | ⟨d3, d4, d5⟩
        all_goals
          go_wp2_with (first | (go_at_call 196; refine (spec_isName _ _ hs).mono ?_; rintro e w' ⟨rfl, rfl⟩) | (go_at_call 217; refine (spec_letter _ _).mono ?_; rintro e w' ⟨rfl, rfl⟩) | (go_at_call 218; refine (spec_digit _ _).mono ?_; rintro e w' ⟨rfl, rfl⟩) | (go_at_call 219; refine (spec_reserved _ _).mono ?_; rintro e w1 ⟨rfl, hb1⟩))
          go_ret
          exact ⟨ret_bool fin.out.symm, Below.refl _ _⟩
      all_goals
        have hs1 : Hid (∀ j (hj : j < s.size), j < k + 1 → cdB j s[j] = true) := fun j hj hjk => by
          by_cases e : j = k
          · subst e; exact hb
          · exact hall.out j hj (by omega)
        clear hb
        go_wp2_with (first | (go_at_call 196; refine (spec_isName _ _ hs).mono ?_; rintro e w' ⟨rfl, rfl⟩) | (go_at_call 217; refine (spec_letter _ _).mono ?_; rintro e w' ⟨rfl, rfl⟩) | (go_at_call 218; refine (spec_digit _ _).mono ?_; rintro e w' ⟨rfl, rfl⟩) | (go_at_call 219; refine (spec_reserved _ _).mono ?_; rintro e w1 ⟨rfl, hb1⟩))
        go_round
        case rel => exact ⟨k + 1, by omega, by go_num, hs1⟩
        case measure => simp [intOf]; omega
    · have hd : Hid (∀ j (hj : j < s.size), cdB j s[j] = true) := fun j hj => hall.out j hj (by omega)
      clear hall
      by_cases hN : isNameB s = true
      · have h0 := name_size hN
        by_cases hR : resB s = true
        · have fin := Lib.hid (syn_false2 hR)
          go_wp2_with (first | (go_at_call 196; refine (spec_isName _ _ hs).mono ?_; rintro e w' ⟨rfl, rfl⟩) | (go_at_call 217; refine (spec_letter _ _).mono ?_; rintro e w' ⟨rfl, rfl⟩) | (go_at_call 218; refine (spec_digit _ _).mono ?_; rintro e w' ⟨rfl, rfl⟩) | (go_at_call 219; refine (spec_reserved _ _).mono ?_; rintro e w1 ⟨rfl, hb1⟩))
          go_ret
          exact ⟨ret_bool fin.out.symm, hb1⟩
        · have hR' : resB s = false := by simpa using hR
          have ht := Lib.hid (fun (hH : hdB s.data.toList = true) => syn_true hN hR' hH (fun j hj => cd_ch (hd.out j hj)))
          have hcs := syn_head h0 (hd.out 0 h0)
          clear hR
          rcases hcs with ⟨hH, c1⟩ | ⟨c1, (⟨hH, c2⟩ | ⟨c2, c3, (⟨hH, c4⟩ | ⟨hH, c4⟩)⟩)⟩
          · have fin := Lib.hid (ht.out hH)
            clear hH
            go_wp2_with (first | (go_at_call 196; refine (spec_isName _ _ hs).mono ?_; rintro e w' ⟨rfl, rfl⟩) | (go_at_call 217; refine (spec_letter _ _).mono ?_; rintro e w' ⟨rfl, rfl⟩) | (go_at_call 218; refine (spec_digit _ _).mono ?_; rintro e w' ⟨rfl, rfl⟩) | (go_at_call 219; refine (spec_reserved _ _).mono ?_; rintro e w1 ⟨rfl, hb1⟩))
            go_ret
            exact ⟨ret_bool fin.out.symm, hb1⟩
          · have fin := Lib.hid (ht.out hH)
            clear hH
            go_wp2_with (first | (go_at_call 196; refine (spec_isName _ _ hs).mono ?_; rintro e w' ⟨rfl, rfl⟩) | (go_at_call 217; refine (spec_letter _ _).mono ?_; rintro e w' ⟨rfl, rfl⟩) | (go_at_call 218; refine (spec_digit _ _).mono ?_; rintro e w' ⟨rfl, rfl⟩) | (go_at_call 219; refine (spec_reserved _ _).mono ?_; rintro e w1 ⟨rfl, hb1⟩))
            go_ret
            exact ⟨ret_bool fin.out.symm, hb1⟩
          · have fin := Lib.hid (ht.out hH)
            clear hH
            go_wp2_with (first | (go_at_call 196; refine (spec_isName _ _ hs).mono ?_; rintro e w' ⟨rfl, rfl⟩) | (go_at_call 217; refine (spec_letter _ _).mono ?_; rintro e w' ⟨rfl, rfl⟩) | (go_at_call 218; refine (spec_digit _ _).mono ?_; rintro e w' ⟨rfl, rfl⟩) | (go_at_call 219; refine (spec_reserved _ _).mono ?_; rintro e w1 ⟨rfl, hb1⟩))
            go_ret
            exact ⟨ret_bool fin.out.symm, hb1⟩
          · have fin := Lib.hid (syn_false3 hH)
            clear hH
            go_wp2_with (first | (go_at_call 196; refine (spec_isName _ _ hs).mono ?_; rintro e w' ⟨rfl, rfl⟩) | (go_at_call 217; refine (spec_letter _ _).mono ?_; rintro e w' ⟨rfl, rfl⟩) | (go_at_call 218; refine (spec_digit _ _).mono ?_; rintro e w' ⟨rfl, rfl⟩) | (go_at_call 219; refine (spec_reserved _ _).mono ?_; rintro e w1 ⟨rfl, hb1⟩))
            go_ret
            exact ⟨ret_bool fin.out.symm, hb1⟩
      · have hN' : isNameB s = false := by simpa using hN
        have fin := Lib.hid (syn_false1 hN')
        clear hN
        go_wp2_with (first | (go_at_call 196; refine (spec_isName _ _ hs).mono ?_; rintro e w' ⟨rfl, rfl⟩) | (go_at_call 217; refine (spec_letter _ _).mono ?_; rintro e w' ⟨rfl, rfl⟩) | (go_at_call 218; refine (spec_digit _ _).mono ?_; rintro e w' ⟨rfl, rfl⟩) | (go_at_call 219; refine (spec_reserved _ _).mono ?_; rintro e w1 ⟨rfl, hb1⟩))
        go_ret
        exact ⟨ret_bool fin.out.symm, Below.refl _ _⟩

end Go.Proofs.Ytmofcbpabdbjlaa
