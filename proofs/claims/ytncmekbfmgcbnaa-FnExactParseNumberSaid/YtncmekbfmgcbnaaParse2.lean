/-
  What is proved: what ParseInt of the reference returns, and the statement on ParseInt.
  Condition: strings of a length that is an int.
-/
import Derived.Test.YtncmekbfmgcbnaaParse
namespace Go.Proofs.Ytncmekbfmgcbnaa
open Go.RowKit
set_option linter.unusedVariables false
set_option linter.unusedSimpArgs false

theorem ext_at (s : ByteArray) (d : Nat) (h : d + 1 < s.size) : (s.extract 1 s.size)[d]'(by simp; omega) = s[d + 1] := by
  rw [ByteArray.getElem_extract]
  simp [Nat.add_comm]

set_option maxHeartbeats 4000000 in
theorem spec_parse (s : ByteArray) (w : World) (hs : s.size ≤ maxLen) : Calls Try.prog 93 #[.string s] w fun e w' => e = .returned (.tuple #[.int .i64 (parseN s.data.toList), .bool (parseB s.data.toList)]) ∧ w = w' := by
  unfold maxLen at hs
  by_cases h0 : s.size = 0
  · have hB := Lib.hid (prs_nil h0)
    have h1 : (s.size : Int) ≤ 0 := by omega
    clear h0
    go_enter Try.func93, Try.ntmps93
    go_wp2_with fail
    refine wp_loop_rounds 1 ?_
    rw [rounds_succ]
    go_wp2_with fail
    go_ret2
    exact ⟨by rw [parse_no hB.out, hB.out]; rfl, rfl⟩
  have hp : 0 < s.size := by omega
  clear h0
  cases hc : ((s[0].toNat : Int) == 45)
  · skip
    have HP := Lib.hid (prs_plain hp hc)
    go_enter Try.func93, Try.ntmps93
    go_wp2_with fail
    go_loop [4, 5, 6] (fun n d i => ∃ k : Nat, k ≤ s.size ∧ k ≤ 10 ∧ i = .int .i64 k ∧ d = .int .i64 k ∧ n = .int .i64 (dval (s.data.toList.take k) : Nat) ∧ Hid ((s.data.toList.take k).all isDg = true)) (fun _ _ i => s.size - (intOf i).toNat)
    case atStart => exact ⟨0, Nat.zero_le _, Nat.zero_le _, rfl, rfl, rfl, (by simp : _ = _)⟩
    case round =>
      obtain ⟨k, hk, hk2, rfl, rfl, rfl, hall⟩ := hrel
      have hb9 := dval_bd (k := 10) hall.out (by simp; omega)
      by_cases hlt : k < s.size
      · by_cases hl2 : k < 10
        · by_cases hk0 : k = 0
          · have HC := Lib.hid hc
            subst hk0
            have Z0 := Lib.hid (show dval (s.data.toList.take 0) = 0 from rfl)
            rw [Z0.out]
            cases hd : isDg s[0]
            · have hB := Lib.hid (show parseB s.data.toList = false by rw [parseB_of HP.out, not_all hlt hd]; simp)
              have h0 := isDg_false hd
              clear hd
              rcases h0 with q1 | ⟨q1, q2⟩
              all_goals
                go_wp2_with fail
                go_ret2
                exact ⟨by rw [parse_no hB.out, hB.out]; rfl, rfl⟩

            · obtain ⟨q1, q2⟩ := isDg_true hd
              obtain ⟨hA, hV⟩ := take_all_snoc hlt hall.out hd
              have HA := Lib.hid hA
              have HV := Lib.hid hV
              clear hd hA hV
              go_wp2_with fail
              go_round
              case rel => exact ⟨0 + 1, by omega, by omega, by go_num, by go_num, by rw [HV.out, Z0.out]; exact congrArg (Value.int .i64) (by omega), HA⟩
              case measure => simp [intOf]; omega
          · have hk1 : (((k : Nat) : Int) == 0) = false := by simp [hk0]
            cases hd : isDg s[k]
            · have hB := Lib.hid (show parseB s.data.toList = false by rw [parseB_of HP.out, not_all hlt hd]; simp)
              have h0 := isDg_false hd
              clear hd
              rcases h0 with q1 | ⟨q1, q2⟩
              all_goals
                go_wp2_with fail
                go_ret2
                exact ⟨by rw [parse_no hB.out, hB.out]; rfl, rfl⟩

            · obtain ⟨q1, q2⟩ := isDg_true hd
              obtain ⟨hA, hV⟩ := take_all_snoc hlt hall.out hd
              have HA := Lib.hid hA
              have HV := Lib.hid hV
              clear hd hA hV
              go_wp2_with fail
              go_round
              case rel => exact ⟨k + 1, by omega, by omega, by go_num, by go_num, by rw [HV.out]; exact congrArg (Value.int .i64) (by omega), HA⟩
              case measure => simp [intOf]; omega
        · have hB := Lib.hid (show parseB s.data.toList = false by rw [parseB_of HP.out]; simp; omega)
          go_wp2_with fail
          go_ret2
          exact ⟨by rw [parse_no hB.out, hB.out]; rfl, rfl⟩

      · have hkn : k = s.size := by omega
        have htk : s.data.toList.take k = s.data.toList := List.take_of_length_le (by simp; omega)
        rw [htk] at hall hb9
        rw [htk]
        have hk3 : 1 ≤ k := by omega
        by_cases hl2 : k < 10
        · have hsz : s.size ≤ 9 := by omega
          have HK := Lib.hid hkn
          clear hkn htk
          replace hb9 := dval_bd (k := 9) hall.out (by simp; omega)
          obtain ⟨m, hm⟩ : ∃ m, dval s.data.toList = m := ⟨_, rfl⟩
          rw [hm] at hb9
          rw [hm]
          have HM := Lib.hid hm
          clear hm
          have hps := Lib.hid (parseB_of HP.out)
          rw [hall.out] at hps
          rw [HM.out] at hps
          by_cases hq : bstr (fmtI (sgn false m)) = s
          · have hB := Lib.hid (show parseB s.data.toList = true by rw [hps.out]; simp [hq]; omega)
            have hq2 := ne_test hq
            have HQ := Lib.hid hq
            clear hq
            have HN := Lib.hid (parse_val HP.out hB.out HM.out)
            go_wp2_with fail
            rw [show (m : Int) = sgn false m from rfl]
            refine (spec_fmt _ _ (by show _ ≤ (m : Int); omega) (by show (m : Int) ≤ _; omega)).mono ?_
            rintro e u ⟨rfl, rfl⟩
            go_wp2_with fail
            go_ret2
            exact ⟨by rw [HN.out, hB.out]; rfl, rfl⟩
          · have hB := Lib.hid (show parseB s.data.toList = false by rw [hps.out]; simp [hq])
            have hq2 := ne_test' hq
            have HQ := Lib.hid hq
            clear hq
            go_wp2_with fail
            rw [show (m : Int) = sgn false m from rfl]
            refine (spec_fmt _ _ (by show _ ≤ (m : Int); omega) (by show (m : Int) ≤ _; omega)).mono ?_
            rintro e u ⟨rfl, rfl⟩
            go_wp2_with fail
            go_ret2
            exact ⟨by rw [parse_no hB.out, hB.out]; rfl, rfl⟩

        · have hB := Lib.hid (show parseB s.data.toList = false by rw [parseB_of HP.out]; simp; omega)
          have HK := Lib.hid hkn
          clear hkn htk
          go_wp2_with fail
          go_ret2
          exact ⟨by rw [parse_no hB.out, hB.out]; rfl, rfl⟩


  · skip
    have HP := Lib.hid (prs_minus hp hc)
    obtain ⟨r, hr⟩ : ∃ r, s.extract 1 s.size = r := ⟨_, rfl⟩
    have hrs : r.size + 1 = s.size := by rw [← hr]; simp; omega
    have hri : ∀ (d : Nat) (h : d < r.size) (h' : d + 1 < s.size), r[d] = s[d + 1] := by
      intro d h h'
      subst hr
      exact ext_at s d h'
    have HRI := Lib.hid hri
    rw [hr] at HP
    clear hr hri
    go_enter Try.func93, Try.ntmps93
    go_wp2_with fail
    go_loop [4, 5, 6] (fun n d i => ∃ k d' : Nat, k ≤ s.size ∧ d' ≤ 10 ∧ (k = 0 ∧ d' = 0 ∨ k = d' + 1) ∧ i = .int .i64 k ∧ d = .int .i64 d' ∧ n = .int .i64 (dval (r.data.toList.take d') : Nat) ∧ Hid ((r.data.toList.take d').all isDg = true)) (fun _ _ i => s.size - (intOf i).toNat)
    case atStart => exact ⟨0, 0, Nat.zero_le _, Nat.zero_le _, .inl ⟨rfl, rfl⟩, rfl, rfl, rfl, (by simp : _ = _)⟩
    case round =>
      obtain ⟨k, d, hk, hk2, hkd, rfl, rfl, rfl, hall⟩ := hrel
      rcases hkd with ⟨rfl, rfl⟩ | rfl
      · have z1 : (0 : Int) < s.size := by omega
        go_wp2_with fail
        go_round
        case rel => exact ⟨1, 0, by omega, by omega, .inr rfl, by go_num, by go_num, rfl, hall⟩
        case measure => simp [intOf]; omega
      have hb9 := dval_bd (k := 10) hall.out (by simp; omega)
      have hk1 : (((d : Nat) : Int) + 1 == 0) = false := by simp; omega
      by_cases hlt : d + 1 < s.size
      · by_cases hl2 : d < 10
        · have hltr : d < r.size := by omega
          have hcc := HRI.out d hltr hlt
          cases hd : isDg s[d + 1]
          · have hB := Lib.hid (show parseB s.data.toList = false by rw [parseB_of HP.out, not_all hltr (by rw [hcc]; exact hd)]; simp)
            clear hcc
            have h0 := isDg_false hd
            clear hd
            rcases h0 with q1 | ⟨q1, q2⟩
            all_goals
              go_wp2_with fail
              go_ret2
              exact ⟨by rw [parse_no hB.out, hB.out]; rfl, rfl⟩

          · obtain ⟨q1, q2⟩ := isDg_true hd
            obtain ⟨hA, hV⟩ := take_all_snoc hltr hall.out (by rw [hcc]; exact hd)
            rw [hcc] at hV
            have HA := Lib.hid hA
            have HV := Lib.hid hV
            clear hd hA hV hcc
            go_wp2_with fail
            go_round
            case rel => exact ⟨d + 1 + 1, d + 1, by omega, by omega, .inr rfl, by go_num, by go_num, by rw [HV.out]; exact congrArg (Value.int .i64) (by omega), HA⟩
            case measure => simp [intOf]; omega
        · have hB := Lib.hid (show parseB s.data.toList = false by rw [parseB_of HP.out]; simp; omega)
          go_wp2_with fail
          go_ret2
          exact ⟨by rw [parse_no hB.out, hB.out]; rfl, rfl⟩

      · have hkn : d = r.size := by omega
        have htk : r.data.toList.take d = r.data.toList := List.take_of_length_le (by simp; omega)
        rw [htk] at hall hb9
        rw [htk]
        by_cases hd0 : d = 0
        · have hB := Lib.hid (show parseB s.data.toList = false by rw [parseB_of HP.out]; simp; omega)
          have HK := Lib.hid hkn
          clear hkn htk
          subst hd0
          go_wp2_with fail
          go_ret2
          exact ⟨by rw [parse_no hB.out, hB.out]; rfl, rfl⟩

        · have hk3 : 1 ≤ d := by omega
          by_cases hl2 : d < 10
          · have hsz : r.size ≤ 9 := by omega
            have hsz2 : 0 < r.size := by omega
            have HK := Lib.hid hkn
            clear hkn htk
            replace hb9 := dval_bd (k := 9) hall.out (by simp; omega)
            obtain ⟨m, hm⟩ : ∃ m, dval r.data.toList = m := ⟨_, rfl⟩
            rw [hm] at hb9
            rw [hm]
            have HM := Lib.hid hm
            clear hm
            have hps := Lib.hid (parseB_of HP.out)
            rw [hall.out] at hps
            rw [HM.out] at hps
            by_cases hq : bstr (fmtI (sgn true m)) = s
            · have hB := Lib.hid (show parseB s.data.toList = true by rw [hps.out]; simp [hq]; omega)
              have hq2 := ne_test hq
              have HQ := Lib.hid hq
              clear hq
              have HN := Lib.hid (parse_val HP.out hB.out HM.out)
              go_wp2_with fail
              rw [show -(m : Int) = sgn true m from rfl]
              refine (spec_fmt _ _ (by show _ ≤ (-(m : Int)); omega) (by show (-(m : Int)) ≤ _; omega)).mono ?_
              rintro e u ⟨rfl, rfl⟩
              go_wp2_with fail
              go_ret2
              exact ⟨by rw [HN.out, hB.out]; rfl, rfl⟩
            · have hB := Lib.hid (show parseB s.data.toList = false by rw [hps.out]; simp [hq])
              have hq2 := ne_test' hq
              have HQ := Lib.hid hq
              clear hq
              go_wp2_with fail
              rw [show -(m : Int) = sgn true m from rfl]
              refine (spec_fmt _ _ (by show _ ≤ (-(m : Int)); omega) (by show (-(m : Int)) ≤ _; omega)).mono ?_
              rintro e u ⟨rfl, rfl⟩
              go_wp2_with fail
              go_ret2
              exact ⟨by rw [parse_no hB.out, hB.out]; rfl, rfl⟩

          · have hB := Lib.hid (show parseB s.data.toList = false by rw [parseB_of HP.out]; simp; omega)
            have HK := Lib.hid hkn
            clear hkn htk
            go_wp2_with fail
            go_ret2
            exact ⟨by rw [parse_no hB.out, hB.out]; rfl, rfl⟩

