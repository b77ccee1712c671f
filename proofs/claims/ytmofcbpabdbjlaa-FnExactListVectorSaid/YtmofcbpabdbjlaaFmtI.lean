/-
  What is proved: FormatInt of the program returns the decimal text of every int, as the reference does; the statement on it.
  Condition: the argument is an int of 64 bits.
-/
import Derived.Test.YtmofcbpabdbjlaaFmt
import Derived.Test.YtmofcbpabdbjlaaBytes
import Derived.WalkSmall
namespace Go.Proofs.Ytmofcbpabdbjlaa
set_option maxRecDepth 8000
open Go.RowKit
set_option linter.unusedVariables false
set_option linter.unusedSimpArgs false

theorem dch_nat {d : Nat} (h : d < 10) : ((dch d).toNat : Int) = 48 + (d : Int) := by
  unfold dch
  rw [UInt8.toNat_ofNat_of_lt' (by simp [UInt8.size]; omega)]
  omega

theorem step_digits {n a : Nat} {D : List UInt8} (ha : 0 < a) (h : dig a ++ D.reverse = dig n) : dig (a / 10) ++ (D ++ [dch (a % 10)]).reverse = dig n := by
  rw [← h, dig_pos ha]
  simp

theorem dig_le : ∀ (k n : Nat), n < 10 ^ k → (dig n).length ≤ k
  | 0, n, h => by
    have : n = 0 := by simpa using h
    subst this; rw [dig_zero]; simp
  | k + 1, n, h => by
    by_cases h0 : n = 0
    · subst h0; rw [dig_zero]; simp
    · rw [dig_pos (by omega), List.length_append]
      have := dig_le k (n / 10) (by rw [Nat.pow_succ] at h; omega)
      simp; omega

theorem digits_len {n a : Nat} {D : List UInt8} (hn : n ≤ 9223372036854775808) (ha : 0 < a) (h : dig a ++ D.reverse = dig n) : D.length ≤ 19 := by
  have h1 := dig_le 20 n (by omega)
  have h2 := dig_ne ha
  have h3 : (dig a ++ D.reverse).length = (dig n).length := by rw [h]
  simp only [List.length_append, List.length_reverse] at h3
  omega

set_option maxHeartbeats 1000000 in
theorem impl_fmt_pos (n : Nat) (w : World) (h0 : 0 < n) (h : n ≤ 9223372036854775807) :
    Calls Try.prog 181 #[.int .i64 n] w fun e w' => e = .returned (.string (bstr (dig n))) ∧ Below w.heap.size w w' := by
  have g0 : ((n : Int) == 0) = false := by simp; omega
  have g9 : ¬ (n : Int) < 0 := by omega
  obtain ⟨i0, hi, hz0, hz1, hz2⟩ := info_parts info_byte
  go_enter Try.func181, Try.ntmps181
  go_wp2_with fail
  go_loopw [0, 3] (fun x v wr => ∃ (a : Nat) (D : List UInt8), x = .int .i64 a ∧ a ≤ n ∧ wr.ownsRow w.heap.size 5 1 v D.length (bcs D) ∧ Hid (dig a ++ D.reverse = dig n) ∧ Below w.heap.size w wr) (fun x _ _ => (intOf x).toNat)
  case atStart => exact ⟨n, [], rfl, Nat.le_refl _, World.ownsRow_nil _ _ _ _, by simp [Hid], Below.refl _ _⟩
  case round =>
    obtain ⟨a, D, rfl, han, hown, hd, hbel⟩ := hrel
    by_cases ha : 0 < a
    · have g1 : ((a : Int) != 0) = true := by simp; omega
      have hlen := digits_len (by omega) ha hd.out
      have hst := Lib.hid (step_digits ha hd.out)
      have hdn := Lib.hid (dch_nat (d := a % 10) (by omega))
      have hbs := hbel.size
      have ha10 : 0 ≤ (a : Int) % 10 ∧ (a : Int) % 10 ≤ 9 := by omega
      obtain ⟨hr1, hr2⟩ := ha10
      go_wp2_with (at_builtin; refine wpList_append_own _ rfl (.tmp 20) (.tmp 24) 58 rfl w.heap.size 5 i0 (.int .u8 0) 1 1 Try.underlying58 hi hz0 hz1 hz2 rfl (by decide) _ _ _ rfl (hown.alloc _) ⟨wr.heap.size, 0, none⟩ 1 1 [.int .u8 (48 + (a : Int) % 10)] rfl rfl ?c1 ?c2 ?c3 ?c4 ?c5 ?_)
      case c1 =>
        intro j u hj
        match j, hj with
        | 0, hj => simp at hj; subst hj; simp [Addr.add]
      case c2 => intro u hu; simp at hu; subst hu; rfl
      case c3 => unfold maxLen; omega
      case c4 => omega
      case c5 => simp; omega
      intro v' w1 hown' hgrow _
      have hlt := hown.lt
      have hb1 : Below w.heap.size w w1 := (hbel.alloc hbs _).grown hgrow (by simp; omega) (fun k hk => (hlt k hk).1)
      have hown2 : w1.ownsRow w.heap.size 5 1 v' (D ++ [dch (a % 10)]).length (bcs (D ++ [dch (a % 10)])) := by
        have e := hdn.out
        rw [bcs_app, bcs_one, e, List.length_append]
        have := hown'
        simpa using this
      clear hown' hgrow hown hlt
      go_wp2_with fail
      go_roundw
      case rel => exact ⟨a / 10, D ++ [dch (a % 10)], by go_num, by omega, hown2, hst, hb1⟩
      case measure => simp [intOf]; omega
    · have hz : a = 0 := by omega
      have g1 : ((a : Int) != 0) = false := by simp [hz]
      have hDn : Hid (D.reverse = dig n) := by have := hd.out; rw [hz, dig_zero] at this; exact this
      have hpos : 0 < D.length := by
        have := dig_ne h0
        rw [← hDn.out] at this
        simpa using this
      have hlen : D.length ≤ 20 := by
        have := dig_le 20 n (by omega)
        rw [← hDn.out] at this
        simpa using this
      clear hz hd
      obtain ⟨g, c, hv, hgB, hgl⟩ := own_form hown hpos
      subst hv
      go_wp2_with fail
      go_loopw [6, 7] (fun x y ws => ∃ i j : Nat, x = .int .i64 i ∧ y = .int .i64 j ∧ i + j + 1 = D.length ∧ ws.ownsRow w.heap.size 5 1 (.slice (some ⟨g, 0, none⟩) D.length c) D.length (bcs (rv D i)) ∧ Below w.heap.size w ws) (fun x y _ => D.length - (intOf x).toNat)
      case atStart => exact ⟨0, D.length - 1, rfl, by go_num, by omega, by rw [rv_zero]; exact hown, hbel⟩
      case round =>
        obtain ⟨i, j, rfl, rfl, hij, hown2, hbel2⟩ := hrel
        have HIJ := Lib.hid hij
        by_cases hlt : i < j
        · have hlen2 : i < D.length ∧ j < D.length := by omega
          obtain ⟨q1, q2⟩ := hlen2
          clear hij
          have ci := hown2.cellAt i (by omega)
          have cj := hown2.cellAt j (by omega)
          rw [bcs_at _ _ (by rw [rv_len]; omega)] at ci cj
          have fi := hown2.frozenAt i
          have fj := hown2.frozenAt j
          have hst := (((hown2.stored i (.int .u8 (((rv D i)[j]?.getD 0).toNat : Int))).1).stored j (.int .u8 (((rv D i)[i]?.getD 0).toNat : Int))).1
          rw [bcs_set, bcs_set, rv_step D i j hlt HIJ.out] at hst
          have HST := Lib.hid hst
          have hB1 := (hbel2.setCell (p := ⟨g, i, none⟩) hgB (.int .u8 (((rv D i)[j]?.getD 0).toNat : Int))).setCell (p := ⟨g, j, none⟩) hgB (.int .u8 (((rv D i)[i]?.getD 0).toNat : Int))
          have HB1 := Lib.hid hB1
          clear hst hB1
          go_wp2_with fail
          go_region
          go_wp2_with fail
          go_roundw
          case rel => exact ⟨i + 1, j - 1, by go_num, by go_num, by have := HIJ.out; omega, HST.out, HB1.out.drew⟩
          case measure => simp [intOf]; omega
        · have hcv := conv_own hown2
          rw [rv_end D i j (by omega) hij, hDn.out] at hcv
          go_wp2_with fail
          go_ret
          exact ⟨ret_str rfl, hbel2⟩

set_option maxHeartbeats 1000000 in
theorem impl_fmt_neg (n : Nat) (w : World) (h0 : 0 < n) (h : n ≤ 9223372036854775808) :
    Calls Try.prog 181 #[.int .i64 (-(n : Int))] w fun e w' => e = .returned (.string (bstr (45 :: dig n))) ∧ Below w.heap.size w w' := by
  have g0 : ((-(n : Int)) == 0) = false := by simp; omega
  have g9 : (-(n : Int)) < 0 := by omega
  obtain ⟨i0, hi, hz0, hz1, hz2⟩ := info_parts info_byte
  go_enter Try.func181, Try.ntmps181
  go_wp2_with fail
  go_loopw [0, 3] (fun x v wr => ∃ (a : Nat) (D : List UInt8), x = .int .i64 (-(a : Int)) ∧ a ≤ n ∧ wr.ownsRow w.heap.size 5 1 v D.length (bcs D) ∧ Hid (dig a ++ D.reverse = dig n) ∧ Below w.heap.size w wr) (fun x _ _ => (- intOf x).toNat)
  case atStart => exact ⟨n, [], rfl, Nat.le_refl _, World.ownsRow_nil _ _ _ _, by simp [Hid], Below.refl _ _⟩
  case round =>
    obtain ⟨a, D, rfl, han, hown, hd, hbel⟩ := hrel
    by_cases ha : 0 < a
    · have g1 : ((-(a : Int)) != 0) = true := by simp; omega
      have hlen := digits_len (by omega) ha hd.out
      have hst := Lib.hid (step_digits ha hd.out)
      have hdn := Lib.hid (dch_nat (d := a % 10) (by omega))
      have hbs := hbel.size
      have ha10 : 0 ≤ (a : Int) % 10 ∧ (a : Int) % 10 ≤ 9 := by omega
      obtain ⟨hr1, hr2⟩ := ha10
      by_cases hq : (a : Int) % 10 = 0
      · have HQ := Lib.hid hq
        clear hr1 hr2
        go_wp2_with (at_builtin; refine wpList_append_own _ rfl (.tmp 20) (.tmp 24) 58 rfl w.heap.size 5 i0 (.int .u8 0) 1 1 Try.underlying58 hi hz0 hz1 hz2 rfl (by decide) _ _ _ rfl (hown.alloc _) ⟨wr.heap.size, 0, none⟩ 1 1 [.int .u8 48] rfl rfl ?d1 ?d2 ?d3 ?d4 ?d5 ?_)
        case d1 =>
          intro j u hj
          match j, hj with
          | 0, hj => simp at hj; subst hj; simp [Addr.add]
        case d2 => intro u hu; simp at hu; subst hu; rfl
        case d3 => unfold maxLen; omega
        case d4 => omega
        case d5 => simp; omega
        intro v' w1 hown' hgrow _
        have hlt := hown.lt
        have hb1 : Below w.heap.size w w1 := (hbel.alloc hbs _).grown hgrow (by simp; omega) (fun k hk => (hlt k hk).1)
        have hown2 : w1.ownsRow w.heap.size 5 1 v' (D ++ [dch (a % 10)]).length (bcs (D ++ [dch (a % 10)])) := by
          have e : ((dch (a % 10)).toNat : Int) = 48 := by rw [hdn.out]; have := HQ.out; omega
          rw [bcs_app, bcs_one, e, List.length_append]
          have := hown'
          simpa using this
        clear hown' hgrow hown hlt
        go_wp2_with fail
        go_roundw
        case rel => exact ⟨a / 10, D ++ [dch (a % 10)], by go_num, by omega, hown2, hst, hb1⟩
        case measure => simp [intOf]; omega
      · have hq2 : 0 < (a : Int) % 10 := by omega
        clear hq
        go_wp2_with (at_builtin; refine wpList_append_own _ rfl (.tmp 20) (.tmp 24) 58 rfl w.heap.size 5 i0 (.int .u8 0) 1 1 Try.underlying58 hi hz0 hz1 hz2 rfl (by decide) _ _ _ rfl (hown.alloc _) ⟨wr.heap.size, 0, none⟩ 1 1 [.int .u8 (48 + (a : Int) % 10)] rfl rfl ?c1 ?c2 ?c3 ?c4 ?c5 ?_)
        case c1 =>
          intro j u hj
          match j, hj with
          | 0, hj => simp at hj; subst hj; simp [Addr.add]
        case c2 => intro u hu; simp at hu; subst hu; rfl
        case c3 => unfold maxLen; omega
        case c4 => omega
        case c5 => simp; omega
        intro v' w1 hown' hgrow _
        have hlt := hown.lt
        have hb1 : Below w.heap.size w w1 := (hbel.alloc hbs _).grown hgrow (by simp; omega) (fun k hk => (hlt k hk).1)
        have hown2 : w1.ownsRow w.heap.size 5 1 v' (D ++ [dch (a % 10)]).length (bcs (D ++ [dch (a % 10)])) := by
          have e := hdn.out
          rw [bcs_app, bcs_one, e, List.length_append]
          have := hown'
          simpa using this
        clear hown' hgrow hown hlt
        go_wp2_with fail
        go_roundw
        case rel => exact ⟨a / 10, D ++ [dch (a % 10)], by go_num, by omega, hown2, hst, hb1⟩
        case measure => simp [intOf]; omega
    · have hz : a = 0 := by omega
      have g1 : ((-(a : Int)) != 0) = false := by simp [hz]
      have hDn : Hid (D.reverse = dig n) := by have := hd.out; rw [hz, dig_zero] at this; exact this
      have hpos : 0 < D.length := by
        have := dig_ne h0
        rw [← hDn.out] at this
        simpa using this
      have hlen : D.length ≤ 20 := by
        have := dig_le 20 n (by omega)
        rw [← hDn.out] at this
        simpa using this
      clear hz hd
      have hbs := hbel.size
      go_wp2_with (at_builtin; refine wpList_append_own _ rfl (.tmp 29) (.tmp 30) 58 rfl w.heap.size 5 i0 (.int .u8 0) 1 1 Try.underlying58 hi hz0 hz1 hz2 rfl (by decide) _ _ _ rfl (hown.alloc _) ⟨wr.heap.size, 0, none⟩ 1 1 [.int .u8 45] rfl rfl ?e1 ?e2 ?e3 ?e4 ?e5 ?_)
      case e1 =>
        intro j u hj
        match j, hj with
        | 0, hj => simp at hj; subst hj; simp [Addr.add]
      case e2 => intro u hu; simp at hu; subst hu; rfl
      case e3 => unfold maxLen; omega
      case e4 => omega
      case e5 => simp; omega
      intro v' w1 hown' hgrow _
      have hlt := hown.lt
      have hb1 : Below w.heap.size w w1 := (hbel.alloc hbs _).grown hgrow (by simp; omega) (fun k hk => (hlt k hk).1)
      have hown3 : w1.ownsRow w.heap.size 5 1 v' (D ++ [45]).length (bcs (D ++ [45])) := by
        rw [bcs_app, bcs_one, List.length_append]
        exact hown'
      have hlen3 : (D ++ [45]).length = D.length + 1 := by simp
      have HL3 := Lib.hid hlen3
      have hl1 : 0 < (D ++ [45]).length := by omega
      have hl2 : (D ++ [45]).length ≤ 21 := by omega
      clear hlen3 hown' hgrow hown hlt hbel
      obtain ⟨L, hL⟩ : ∃ L, L = D ++ [45] := ⟨_, rfl⟩
      rw [← hL] at hown3 hl1 hl2
      have hLr : Hid (L.reverse = 45 :: dig n) := by rw [hL, List.reverse_append, hDn.out]; rfl
      clear hL HL3
      obtain ⟨g, c, hv, hgB, hgl⟩ := own_form hown3 hl1
      subst hv
      go_wp2_with fail
      go_loopw [6, 7] (fun x y ws => ∃ i j : Nat, x = .int .i64 i ∧ y = .int .i64 j ∧ i + j + 1 = L.length ∧ ws.ownsRow w.heap.size 5 1 (.slice (some ⟨g, 0, none⟩) L.length c) L.length (bcs (rv L i)) ∧ Below w.heap.size w ws) (fun x y _ => L.length - (intOf x).toNat)
      case atStart => exact ⟨0, L.length - 1, rfl, by go_num, by omega, by rw [rv_zero]; exact hown3, hb1⟩
      case round =>
        obtain ⟨i, j, rfl, rfl, hij, hown2, hbel2⟩ := hrel
        have HIJ := Lib.hid hij
        by_cases hlt : i < j
        · have hlen2 : i < L.length ∧ j < L.length := by omega
          obtain ⟨q1, q2⟩ := hlen2
          clear hij
          have ci := hown2.cellAt i (by omega)
          have cj := hown2.cellAt j (by omega)
          rw [bcs_at _ _ (by rw [rv_len]; omega)] at ci cj
          have fi := hown2.frozenAt i
          have fj := hown2.frozenAt j
          have hst := (((hown2.stored i (.int .u8 (((rv L i)[j]?.getD 0).toNat : Int))).1).stored j (.int .u8 (((rv L i)[i]?.getD 0).toNat : Int))).1
          rw [bcs_set, bcs_set, rv_step L i j hlt HIJ.out] at hst
          have HST := Lib.hid hst
          have hB1 := (hbel2.setCell (p := ⟨g, i, none⟩) hgB (.int .u8 (((rv L i)[j]?.getD 0).toNat : Int))).setCell (p := ⟨g, j, none⟩) hgB (.int .u8 (((rv L i)[i]?.getD 0).toNat : Int))
          have HB1 := Lib.hid hB1
          clear hst hB1
          go_wp2_with fail
          go_region
          go_wp2_with fail
          go_roundw
          case rel => exact ⟨i + 1, j - 1, by go_num, by go_num, by have := HIJ.out; omega, HST.out, HB1.out.drew⟩
          case measure => simp [intOf]; omega
        · have hcv := conv_own hown2
          rw [rv_end L i j (by omega) hij, hLr.out] at hcv
          go_wp2_with fail
          go_ret
          exact ⟨ret_str rfl, hbel2⟩

theorem fmt_zero : fmtI 0 = [48] := rfl
theorem fmt_pos {n : Nat} (h : 0 < n) : fmtI (n : Int) = dig n := by
  unfold fmtI
  rw [if_neg (by omega), if_neg (by omega)]
  rfl
theorem fmt_neg {n : Nat} (h : 0 < n) : fmtI (-(n : Int)) = 45 :: dig n := by
  unfold fmtI
  rw [if_neg (by omega), if_pos (by omega)]
  simp

theorem int_cases (n : Int) (h1 : -9223372036854775808 ≤ n) (h2 : n ≤ 9223372036854775807) :
    n = 0 ∨ (∃ m : Nat, n = (m : Int) ∧ 0 < m ∧ m ≤ 9223372036854775807) ∨ (∃ m : Nat, n = -(m : Int) ∧ 0 < m ∧ m ≤ 9223372036854775808) := by
  rcases Int.lt_trichotomy n 0 with h | h | h
  · exact .inr (.inr ⟨n.natAbs, by omega, by omega, by omega⟩)
  · exact .inl h
  · exact .inr (.inl ⟨n.natAbs, by omega, by omega, by omega⟩)

theorem impl_fmt (n : Int) (w : World) (h1 : -9223372036854775808 ≤ n) (h2 : n ≤ 9223372036854775807) :
    Calls Try.prog 181 #[.int .i64 n] w fun e w' => e = .returned (.string (bstr (fmtI n))) ∧ Below w.heap.size w w' := by
  rcases int_cases n h1 h2 with rfl | ⟨m, rfl, hm, hm2⟩ | ⟨m, rfl, hm, hm2⟩
  · go_enter Try.func181, Try.ntmps181
    go_wp2_with fail
    go_ret
    exact ⟨rfl, Below.refl _ _⟩
  · rw [fmt_pos hm]; exact impl_fmt_pos m w hm hm2
  · rw [fmt_neg hm]; exact impl_fmt_neg m w hm hm2

theorem spec_fmt (n : Int) (w : World) (h1 : -9223372036854775808 ≤ n) (h2 : n ≤ 9223372036854775807) :
    Calls Try.prog 179 #[.int .i64 n] w fun e w' => e = .returned (.string (bstr (fmtI n))) ∧ w = w' := by
  rcases int_cases n h1 h2 with rfl | ⟨m, rfl, hm, hm2⟩ | ⟨m, rfl, hm, hm2⟩
  · go_enter Try.func179, Try.ntmps179
    go_wp2_with fail
    refine wp_loop_rounds 1 ?_
    rw [rounds_succ]
    go_wp2_with fail
    go_ret
    exact ⟨rfl, rfl⟩
  · rw [fmt_pos hm]; exact spec_fmt_pos m w hm hm2
  · rw [fmt_neg hm]; exact spec_fmt_neg m w hm hm2

end Go.Proofs.Ytmofcbpabdbjlaa
