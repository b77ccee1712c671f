/-
  What is proved: what UnquoteString (of the program and of the reference) returns, and the statement on it.
  Condition: strings of not more than 1048576 bytes.
-/
import Derived.Test.YtncmekbfmgcbnaaUnqS
import Derived.Test.YtncmekbfmgcbnaaQuoteI
import Derived.Test.YtncmekbfmgcbnaaInst
import Derived.Test.YtncmekbfmgcbnaaW3
import Derived.Test.YtncmekbfmgcbnaaJ
import Derived.Deep.DrawnRows
import Derived.Test.YtncmekbfmgcbnaaParse
namespace Go.Proofs.Ytncmekbfmgcbnaa
open Go.RowKit
set_option linter.unusedVariables false
set_option linter.unusedSimpArgs false

/-- the text q from place k on -/
def dr (q : ByteArray) (k : Nat) : List UInt8 := q.data.toList.drop k
theorem dr_cons {q : ByteArray} {k : Nat} (h : k < q.size) : dr q k = q[k] :: dr q (k + 1) := by
  unfold dr
  rw [List.drop_eq_getElem_cons (by simpa using h)]
  rfl
theorem dr_nil {q : ByteArray} {k : Nat} (h : q.size ≤ k) : dr q k = [] := List.drop_eq_nil_of_le (by simpa using h)
theorem dr_len (q : ByteArray) (k : Nat) : (dr q k).length = q.size - k := by unfold dr; simp
theorem body_rst (s : ByteArray) (h : 2 ≤ s.size) : dr (s.extract 1 (s.size - 1)) 0 = rst s.data.toList 1 := by
  unfold dr rst
  rw [Lib.extract_data, List.drop_zero, List.drop_take]
  simp
theorem hexI_yes {c : UInt8} {d : Nat} (h : hexd c = some d) : hexI c = d ∧ nb c = d ∧ d < 16 := ⟨by simp [hexI, h], by simp [nb, h], hexd_lt h⟩
theorem impl_hex_yes (c : UInt8) (d : Nat) (h : hexd c = some d) (w : World) : Calls Try.prog 99 #[.int .u8 (c.toNat : Int)] w fun e w' => e = .returned (.int .i64 (d : Int)) ∧ Below w.heap.size w w' := by
  have := impl_hexv c w
  rwa [(hexI_yes h).1] at this
theorem impl_hex_no (c : UInt8) (h : hexd c = none) (w : World) : Calls Try.prog 99 #[.int .u8 (c.toNat : Int)] w fun e w' => e = .returned (.int .i64 (-1)) ∧ Below w.heap.size w w' := by
  have := impl_hexv c w
  rwa [show hexI c = -1 by simp [hexI, h]] at this
theorem ch_eq {c : UInt8} {n : Nat} (hn : n < 256) (h : c = UInt8.ofNat n) : ((c.toNat : Int) == (n : Int)) = true := by subst h; simp; omega
theorem ch_ne {c : UInt8} {n : Nat} (hn : n < 256) (h : ¬ c = UInt8.ofNat n) : ((c.toNat : Int) == (n : Int)) = false := by
  rw [beq_eq_false_iff_ne]
  intro e
  exact h (UInt8.toNat_inj.1 (by simp; omega))

theorem ch_eq' {c : UInt8} {n : Nat} (hn : n < 256) (h : c = UInt8.ofNat n) : ((c.toNat : Int) != (n : Int)) = false := by rw [bne, ch_eq hn h]; rfl
theorem ch_ne' {c : UInt8} {n : Nat} (hn : n < 256) (h : ¬ c = UInt8.ofNat n) : ((c.toNat : Int) != (n : Int)) = true := by rw [bne, ch_ne hn h]; rfl

/-- 'string(b)' of a slice of bytes that the call owns, nil or not -/
theorem conv_row {w : World} {base n c : Nat} {A : Option Addr} {l : List UInt8} (h : w.ownsRow base 5 1 (.slice A n c) n (bcs l)) :
    (convert 32 9 (.slice A n c)).run Try.prog w = .ok (.string (bstr l)) w := by
  by_cases hn : 0 < n
  · obtain ⟨g, c', hv, _, _⟩ := own_form h hn
    rw [hv] at h ⊢
    exact conv_own h
  · have hl : l.length = n := by have := h.1; simpa [bcs] using this
    have hl0 : l = [] := List.length_eq_zero_iff.1 (by omega)
    subst hl0
    rcases h.2 with ⟨hv, rfl⟩ | ⟨g, cap, cur, hv, _, _, _, _, _, _⟩
    · rw [hv]
      exact (fun _ => by kernel_rfl : ∀ w : World, (convert 32 9 (.slice none 0 0)).run Try.prog w = .ok (.string ⟨#[]⟩) w) w
    · rw [hv] at h ⊢
      exact conv_own h

set_option maxRecDepth 20000 in
set_option maxHeartbeats 2000000 in
theorem impl_unq (s : ByteArray) (w : World) (hs : s.size ≤ 1048576) : Calls Try.prog 63 #[.string s] w fun e w' => e = .returned (.tuple #[.string (bstr (unqT s.data.toList)), .bool (unqB s.data.toList)]) ∧ Below w.heap.size w w' := by
  by_cases h2 : s.size < 2
  · have hB : unqB s.data.toList = false := by
      cases hb : unqB s.data.toList with
      | false => rfl
      | true => have := (unqB_body hb).2.1; simp at this; omega
    have HE := Lib.hid (unqT_no hB)
    go_enter Try.func63, Try.ntmps63
    have hO := Own.nil w
    go_wp2_with fail
    go_ret2
    exact ⟨by first | (rw [HE.out, hB]; rfl) | (rw [HE.out]; rfl), hO.below⟩
  · have h2' : 2 ≤ s.size := by omega
    clear h2
    have g1 : ¬ (s.size : Int) < 2 := by omega
    have g2 : (0 : Int) < (s.size : Int) := by omega
    have g2' : 0 < s.size := by omega
    have g4 : (1 : Int) ≤ (s.size : Int) := by omega
    have g5 : (s.size : Int) - 1 < (s.size : Int) := by omega
    have g6 : (1 : Int) ≤ (s.size : Int) - 1 := by omega
    have g7 : (s.size : Int) - 1 ≤ (s.size : Int) := by omega
    by_cases hf : s[0] = 34
    · have tf : ((s[0].toNat : Int) != 34) = false := ch_eq' (n := 34) (by omega) hf
      have g3 : (0 : Int) ≤ (s.size : Int) - 1 := by omega
      by_cases he : s[s.size - 1] = 34
      · have te : ((s[s.size - 1].toNat : Int) != 34) = false := ch_eq' (n := 34) (by omega) he
        have hq0 := body_rst s h2'
        obtain ⟨q, hq⟩ : ∃ q, s.extract 1 (s.size - 1) = q := ⟨_, rfl⟩
        have hqs : q.size + 2 = s.size := by rw [← hq]; simp; omega
        rw [hq] at hq0
        have HQ := Lib.hid hq0
        clear hq0
        go_enter Try.func63, Try.ntmps63
        have hO := Own.nil w
        go_wp2_with fail
        clear hq
        replace hO := hO.addNil 5 1
        simp only [List.nil_append] at hO
        go_loopw [5, 6] (fun o i u => ∃ (k : Nat) (A' : Option Addr) (m c' : Nat) (T : List UInt8), k ≤ q.size ∧ m ≤ k ∧ i = .int .i64 k ∧ o = .slice A' m c' ∧ Hid (T ++ unq (dr q k) = unq (dr q 0)) ∧ Hid (isQ (dr q 0) → isQ (dr q k)) ∧ Own w [row 5 1 (.slice A' m c') m (bcs T)] u) (fun _ i _ => q.size - (intOf i).toNat)
        case atStart => exact ⟨0, none, 0, 0, [], Nat.zero_le _, Nat.zero_le _, rfl, rfl, rfl, fun h => h, hO⟩
        case round =>
          clear hO
          obtain ⟨k, A', m, c', T, hk, hm, rfl, rfl, hU, hQ, hO⟩ := hrel
          by_cases hlt : k < q.size
          · have HR := Lib.hid (dr_cons hlt)
            have i1 : (0 : Int) ≤ (k : Int) := by omega
            have i2 : (k : Int) < (q.size : Int) := by omega
            obtain ⟨c, hc⟩ : ∃ c, q[k] = c := ⟨_, rfl⟩
            have HS : ∀ (T' : List UInt8) (n : Nat), unq (c :: dr q (k + 1)) = T' ++ unq (dr q n) → Hid ((T ++ T') ++ unq (dr q n) = unq (dr q 0)) := fun T' n h => by
              refine Eq.trans ?_ hU.out
              rw [HR.out, hc, h, List.append_assoc]
            have HN : ¬ isQ (c :: dr q (k + 1)) → unqB s.data.toList = false ∧ Hid (unqT s.data.toList = []) := fun h => by
              have hB : unqB s.data.toList = false := unqB_no fun h' => h (by rw [← hc, ← HR.out]; exact hQ.out (by rw [HQ.out]; exact h'))
              exact ⟨hB, unqT_no hB⟩
            have HQ2 : ∀ n, (isQ (c :: dr q (k + 1)) → isQ (dr q n)) → Hid (isQ (dr q 0) → isQ (dr q n)) := fun n h h' => h (by rw [← hc, ← HR.out]; exact hQ.out h')
            clear hU hQ HR
            by_cases h92 : c = 92
            · subst h92
              by_cases hl1 : k + 1 < q.size
              · have HR1 := Lib.hid (dr_cons hl1)
                have i3 : (k : Int) + 1 < (q.size : Int) := by omega
                have i4 : (0 : Int) ≤ (k : Int) + 1 := by omega
                obtain ⟨d, hd⟩ : ∃ d, q[k + 1] = d := ⟨_, rfl⟩
                rw [HR1.out, hd] at HS HN HQ2
                clear HR1
                by_cases h110 : d = 110
                · subst h110
                  go_wp2_with ((with_reducible refine wpl_call ?_); first | (refine wpList_append_str hO rfl (by rfl) rfl rfl _ (by first | exact at0) (by omega) rfl (fun A' c' => by simp only [Act.put, List.setIfInBounds_toArray, List.set_cons_succ, List.set_cons_zero]; rfl) ?_; clear hO; intro A' c' u hO; simp only [List.set_cons_zero, List.set_cons_succ] at hO) | (refine wpList_append_lit hO rfl (by rfl) rfl rfl _ (by first | exact at0) (by rfl) (by simp [Value.oneCell']) (by omega) (by omega) rfl (fun A' c' => by simp only [Act.put, List.setIfInBounds_toArray, List.set_cons_succ, List.set_cons_zero]; rfl) ?_; clear hO; intro A' c' u hO; simp only [List.set_cons_zero, List.set_cons_succ] at hO))
                  go_roundw
                  case rel => exact ⟨k + 2, _, _, _, T ++ [10], by omega, by omega, by go_num, rfl, HS [10] (k + 2) unq_n, HQ2 (k + 2) (isQ_o (by decide)), by simpa [bcs] using hO⟩
                  case measure => simp [intOf]; omega
                · have td : ((d.toNat : Int) == 110) = false := ch_ne (n := 110) (by omega) h110
                  by_cases h120 : d = 120
                  · subst h120
                    by_cases hl3 : k + 3 < q.size
                    · have hk2 : k + 2 < q.size := by omega
                      have HR2 := Lib.hid (dr_cons hk2)
                      have HR3 := Lib.hid (dr_cons hl3)
                      have i5 : (0 : Int) ≤ (k : Int) + 2 := by omega
                      have i6 : (k : Int) + 2 < (q.size : Int) := by omega
                      have i7 : (0 : Int) ≤ (k : Int) + 3 := by omega
                      have i8 : (k : Int) + 3 < (q.size : Int) := by omega
                      obtain ⟨x, hx⟩ : ∃ x, q[k + 2] = x := ⟨_, rfl⟩
                      obtain ⟨y, hy⟩ : ∃ y, q[k + 3] = y := ⟨_, rfl⟩
                      rw [show k + 1 + 1 = k + 2 by omega, HR2.out, hx, show k + 2 + 1 = k + 3 by omega, HR3.out, hy] at HS HN HQ2
                      clear HR2 HR3
                      cases ex : hexd x with
                      | none =>
                        obtain ⟨hB, HE⟩ := HN (fun h => by
                          obtain ⟨a, b, r, ha, hb, e, _⟩ := isQ_x h
                          rw [List.cons.injEq] at e
                          rw [e.1, hexd_hexc ha] at ex
                          cases ex)
                        go_wp2_with fail
                        refine (impl_hex_no x ex _).mono ?_
                        rintro e u ⟨rfl, hb⟩
                        first | (replace hO := hO.step hb; clear hb) | subst hb
                        go_wp2_with fail
                        go_ret2
                        exact ⟨by first | (rw [HE.out, hB]; rfl) | (rw [HE.out]; rfl), hO.below⟩
                      | some a =>
                        obtain ⟨_, na, la⟩ := hexI_yes ex
                        cases ey : hexd y with
                        | none =>
                          obtain ⟨hB, HE⟩ := HN (fun h => by
                            obtain ⟨a, b, r, ha, hb, e, _⟩ := isQ_x h
                            rw [List.cons.injEq, List.cons.injEq] at e
                            rw [e.2.1, hexd_hexc hb] at ey
                            cases ey)
                          go_wp2_with fail
                          refine (impl_hex_yes x a ex _).mono ?_
                          rintro e u ⟨rfl, hb⟩
                          first | (replace hO := hO.step hb; clear hb) | subst hb
                          go_wp2_with fail
                          refine (impl_hex_no y ey _).mono ?_
                          rintro e u ⟨rfl, hb⟩
                          first | (replace hO := hO.step hb; clear hb) | subst hb
                          go_wp2_with fail
                          go_ret2
                          exact ⟨by first | (rw [HE.out, hB]; rfl) | (rw [HE.out]; rfl), hO.below⟩
                        | some b =>
                          obtain ⟨_, nb', lb⟩ := hexI_yes ey
                          obtain ⟨z, hz⟩ : ∃ z : UInt8, UInt8.ofNat (16 * a + b) = z := ⟨_, rfl⟩
                          have zn : (z.toNat : Int) = 16 * (a : Int) + (b : Int) := by rw [← hz]; simp; omega
                          have HZ := Lib.hid hz
                          have HZ2 := Lib.hid zn
                          have HA := Lib.hid na
                          have HB := Lib.hid nb'
                          clear hz na nb' zn
                          go_wp2_with fail
                          refine (impl_hex_yes x a ex _).mono ?_
                          rintro e u ⟨rfl, hb⟩
                          first | (replace hO := hO.step hb; clear hb) | subst hb
                          go_wp2_with fail
                          refine (impl_hex_yes y b ey _).mono ?_
                          rintro e u ⟨rfl, hb⟩
                          first | (replace hO := hO.step hb; clear hb) | subst hb
                          go_wp2_with fail
                          refine J.wp_region_c (n := 117) [0, 1, 2, 3, 4, 5, 6, 7, 8, 9, 10, 11, 12, 13] [14] (deps := fun i => [[], [], [], [2], [1, 2, 3], [1, 2, 3, 4], [1, 2, 3, 4, 5], [], [], [8], [7, 8, 9], [7, 8, 9, 10], [1, 2, 3, 4, 5, 6, 7, 8, 9, 10, 11], [1, 2, 3, 4, 5, 6, 7, 8, 9, 10, 11, 12], [1, 2, 3, 4, 5, 6, 7, 8, 9, 10, 11, 12, 13], [], []].getD i []) (fun _ _ => (J.freshS 5 [.int .u8 (16 * (a : Int) + (b : Int))])) (r := 2) (lst := #[true, true, true, true, true, true, true, true, true, true, true, true, true, true, true, false, false]) (by kernel_rfl) (by kernel_rfl) (by kernel_rfl) rfl (by decide) (by kernel_rfl) hO ?_
                          refine J.Chain.cons (by rfl) (by rfl) (fun M u hO K hK => by (simp only [wp_at_zero, wp_at_succ]; go_step; exact hK _ hO)) (by simp only [J.putL, List.getElem_toArray, List.getElem_cons_succ, List.getElem_cons_zero, J.dstOf, List.getElem?_toArray, List.getElem?_cons_succ, List.getElem?_cons_zero, Option.bind_some, List.getD_cons_succ, List.getD_cons_zero, Act.put, List.setIfInBounds_toArray, List.set_cons_succ, List.set_cons_zero]; rfl) ?_
                          refine J.Chain.cons (by rfl) (by rfl) (fun M u hO K hK => by (simp only [wp_at_zero, wp_at_succ]; go_step; exact hK _ hO)) (by simp only [J.putL, List.getElem_toArray, List.getElem_cons_succ, List.getElem_cons_zero, J.dstOf, List.getElem?_toArray, List.getElem?_cons_succ, List.getElem?_cons_zero, Option.bind_some, List.getD_cons_succ, List.getD_cons_zero, Act.put, List.setIfInBounds_toArray, List.set_cons_succ, List.set_cons_zero]; rfl) ?_
                          refine J.Chain.cons (by rfl) (by rfl) (fun M u hO K hK => by (simp only [wp_at_zero, wp_at_succ]; go_step; exact hK _ hO)) (by simp only [J.putL, List.getElem_toArray, List.getElem_cons_succ, List.getElem_cons_zero, J.dstOf, List.getElem?_toArray, List.getElem?_cons_succ, List.getElem?_cons_zero, Option.bind_some, List.getD_cons_succ, List.getD_cons_zero, Act.put, List.setIfInBounds_toArray, List.set_cons_succ, List.set_cons_zero]; rfl) ?_
                          refine J.Chain.cons (by rfl) (by rfl) (fun M u hO K hK => by (simp only [wp_at_zero, wp_at_succ]; go_step; exact hK _ hO)) (by simp only [J.putL, List.getElem_toArray, List.getElem_cons_succ, List.getElem_cons_zero, J.dstOf, List.getElem?_toArray, List.getElem?_cons_succ, List.getElem?_cons_zero, Option.bind_some, List.getD_cons_succ, List.getD_cons_zero, Act.put, List.setIfInBounds_toArray, List.set_cons_succ, List.set_cons_zero]; rfl) ?_
                          refine J.Chain.cons (by rfl) (by rfl) (fun M u hO K hK => by (simp only [wp_at_zero, wp_at_succ]; go_step; exact hK _ hO)) (by simp only [J.putL, List.getElem_toArray, List.getElem_cons_succ, List.getElem_cons_zero, J.dstOf, List.getElem?_toArray, List.getElem?_cons_succ, List.getElem?_cons_zero, Option.bind_some, List.getD_cons_succ, List.getD_cons_zero, Act.put, List.setIfInBounds_toArray, List.set_cons_succ, List.set_cons_zero]; rfl) ?_
                          refine J.Chain.cons (by rfl) (by rfl) (fun M u hO K hK => by (simp only [wp_at_zero, wp_at_succ]; go_step; refine (impl_hex_yes x a ex _).mono ?_; rintro e u ⟨rfl, hb⟩; first | exact hK _ (hO.step hb) | (subst hb; exact hK _ hO))) (by simp only [J.putL, List.getElem_toArray, List.getElem_cons_succ, List.getElem_cons_zero, J.dstOf, List.getElem?_toArray, List.getElem?_cons_succ, List.getElem?_cons_zero, Option.bind_some, List.getD_cons_succ, List.getD_cons_zero, Act.put, List.setIfInBounds_toArray, List.set_cons_succ, List.set_cons_zero]; rfl) ?_
                          refine J.Chain.cons (by rfl) (by rfl) (fun M u hO K hK => by (simp only [wp_at_zero, wp_at_succ]; go_step; exact hK _ hO)) (by simp only [J.putL, List.getElem_toArray, List.getElem_cons_succ, List.getElem_cons_zero, J.dstOf, List.getElem?_toArray, List.getElem?_cons_succ, List.getElem?_cons_zero, Option.bind_some, List.getD_cons_succ, List.getD_cons_zero, Act.put, List.setIfInBounds_toArray, List.set_cons_succ, List.set_cons_zero]; rfl) ?_
                          refine J.Chain.cons (by rfl) (by rfl) (fun M u hO K hK => by (simp only [wp_at_zero, wp_at_succ]; go_step; exact hK _ hO)) (by simp only [J.putL, List.getElem_toArray, List.getElem_cons_succ, List.getElem_cons_zero, J.dstOf, List.getElem?_toArray, List.getElem?_cons_succ, List.getElem?_cons_zero, Option.bind_some, List.getD_cons_succ, List.getD_cons_zero, Act.put, List.setIfInBounds_toArray, List.set_cons_succ, List.set_cons_zero]; rfl) ?_
                          refine J.Chain.cons (by rfl) (by rfl) (fun M u hO K hK => by (simp only [wp_at_zero, wp_at_succ]; go_step; exact hK _ hO)) (by simp only [J.putL, List.getElem_toArray, List.getElem_cons_succ, List.getElem_cons_zero, J.dstOf, List.getElem?_toArray, List.getElem?_cons_succ, List.getElem?_cons_zero, Option.bind_some, List.getD_cons_succ, List.getD_cons_zero, Act.put, List.setIfInBounds_toArray, List.set_cons_succ, List.set_cons_zero]; rfl) ?_
                          refine J.Chain.cons (by rfl) (by rfl) (fun M u hO K hK => by (simp only [wp_at_zero, wp_at_succ]; go_step; exact hK _ hO)) (by simp only [J.putL, List.getElem_toArray, List.getElem_cons_succ, List.getElem_cons_zero, J.dstOf, List.getElem?_toArray, List.getElem?_cons_succ, List.getElem?_cons_zero, Option.bind_some, List.getD_cons_succ, List.getD_cons_zero, Act.put, List.setIfInBounds_toArray, List.set_cons_succ, List.set_cons_zero]; rfl) ?_
                          refine J.Chain.cons (by rfl) (by rfl) (fun M u hO K hK => by (simp only [wp_at_zero, wp_at_succ]; go_step; exact hK _ hO)) (by simp only [J.putL, List.getElem_toArray, List.getElem_cons_succ, List.getElem_cons_zero, J.dstOf, List.getElem?_toArray, List.getElem?_cons_succ, List.getElem?_cons_zero, Option.bind_some, List.getD_cons_succ, List.getD_cons_zero, Act.put, List.setIfInBounds_toArray, List.set_cons_succ, List.set_cons_zero]; rfl) ?_
                          refine J.Chain.cons (by rfl) (by rfl) (fun M u hO K hK => by (simp only [wp_at_zero, wp_at_succ]; go_step; refine (impl_hex_yes y b ey _).mono ?_; rintro e u ⟨rfl, hb⟩; first | exact hK _ (hO.step hb) | (subst hb; exact hK _ hO))) (by simp only [J.putL, List.getElem_toArray, List.getElem_cons_succ, List.getElem_cons_zero, J.dstOf, List.getElem?_toArray, List.getElem?_cons_succ, List.getElem?_cons_zero, Option.bind_some, List.getD_cons_succ, List.getD_cons_zero, Act.put, List.setIfInBounds_toArray, List.set_cons_succ, List.set_cons_zero]; rfl) ?_
                          refine J.Chain.cons (by rfl) (by rfl) (fun M u hO K hK => by (simp only [wp_at_zero, wp_at_succ]; go_step; exact hK _ hO)) (by simp only [J.putL, List.getElem_toArray, List.getElem_cons_succ, List.getElem_cons_zero, J.dstOf, List.getElem?_toArray, List.getElem?_cons_succ, List.getElem?_cons_zero, Option.bind_some, List.getD_cons_succ, List.getD_cons_zero, Act.put, List.setIfInBounds_toArray, List.set_cons_succ, List.set_cons_zero]; rfl) ?_
                          refine J.Chain.cons (by rfl) (by rfl) (fun M u hO K hK => by (simp only [wp_at_zero, wp_at_succ]; go_step; exact hK _ hO)) (by simp only [J.putL, List.getElem_toArray, List.getElem_cons_succ, List.getElem_cons_zero, J.dstOf, List.getElem?_toArray, List.getElem?_cons_succ, List.getElem?_cons_zero, Option.bind_some, List.getD_cons_succ, List.getD_cons_zero, Act.put, List.setIfInBounds_toArray, List.set_cons_succ, List.set_cons_zero]; rfl) ?_
                          refine J.Chain.nil ⟨?_, ?_⟩
                          · refine J.Each.cons (by rfl) ⟨rfl, fun vs M u hO _ K hK => wp_build_one (cs := [.int .u8 (16 * (a : Int) + (b : Int))]) hO rfl (by simp only [Act.eval, Array.getD_eq_getD_getElem?, Option.getD_some, J.putL, List.getElem_toArray, List.getElem_cons_succ, List.getElem_cons_zero, J.dstOf, List.getElem?_toArray, List.getElem?_cons_succ, List.getElem?_cons_zero, Option.bind_some, List.getD_cons_succ, List.getD_cons_zero, Act.put, List.setIfInBounds_toArray, List.set_cons_succ, List.set_cons_zero]; rfl) rfl rfl (Nat.le_of_ble_eq_true rfl) rfl fun b u hO => hK _ _ _ ⟨b, rfl⟩ hO⟩ ?_; exact J.Each.nil
                          intro vs u hO hF
                          obtain ⟨b0, h14⟩ : J.freshS _ _ (vs 14) := hF 14 (by decide)
                          clear hF
                          simp only [List.flatMap_cons, List.flatMap_nil, h14, List.append_nil, List.nil_append, List.cons_append] at hO
                          simp only [h14, J.putL, List.getElem_toArray, List.getElem_cons_succ, List.getElem_cons_zero, J.dstOf, List.getElem?_toArray, List.getElem?_cons_succ, List.getElem?_cons_zero, Option.bind_some, List.getD_cons_succ, List.getD_cons_zero, Act.put, List.setIfInBounds_toArray, List.set_cons_succ, List.set_cons_zero]
                          clear h14 vs
                          refine J.wpAny_one (i := 15) (by kernel_rfl) (by rfl) rfl fun K hK => ?_
                          refine wp_append_box hO rfl rfl rfl _ (by first | exact at0 | exact at1) _ (by first | exact at0 | exact at1) (by rfl) (by simp [Value.oneCell']) (by omega) (by omega) rfl ?_
                          clear hO
                          intro A' c' u hO
                          simp only [List.set_cons_zero, List.set_cons_succ] at hO
                          simp only [Act.put, List.setIfInBounds_toArray, List.set_cons_succ, List.set_cons_zero]
                          refine hK _ _ ?_
                          clear hK K
                          refine J.wpAny_one (i := 16) (by kernel_rfl) (by rfl) rfl fun K hK => ?_
                          simp only [wp_at_zero, wp_at_succ]
                          go_step
                          refine hK _ _ ?_
                          clear hK K
                          refine wpAny_done (by kernel_rfl) ?_ _
                          go_wp2_with (first
                            | ((with_reducible refine wpl_alloc ?_); refine wpList_alloc_own rfl (by rfl) hO rfl (fun b => by simp only [Act.put, List.setIfInBounds_toArray, List.set_cons_succ, List.set_cons_zero]; rfl) ?_; (first | (refine nm 0 rfl ?_; clear hO; intro b0 u hO)); simp only [List.nil_append, List.cons_append] at hO)
                            | ((with_reducible refine wpl_box ?_); refine wpList_box_own rfl (by rfl) hO rfl rfl (fun b => by simp only [Act.put, List.setIfInBounds_toArray, List.set_cons_succ, List.set_cons_zero]; rfl) ?_; (first | (refine nm 0 rfl ?_; clear hO; intro b0 u hO)); simp only [List.nil_append, List.cons_append] at hO)
                            | ((with_reducible refine wpl_load ?_); first | (refine wpList_load_box rfl (by first | rfl | (simp only [Region.wanted, yielded, *]; go_simp; done) | (simp [Region.wanted, yielded, *]; done) | fail) hO rfl _ (by first | exact at0) (by rfl) (by simp only [Act.put, List.setIfInBounds_toArray, List.set_cons_succ, List.set_cons_zero]; rfl) ?_) | (refine wpList_load_field rfl (by first | rfl | (simp only [Region.wanted, yielded, *]; go_simp; done) | (simp [Region.wanted, yielded, *]; done) | fail) hO rfl _ (by first | exact at0) (by rfl) (by simp only [Act.put, List.setIfInBounds_toArray, List.set_cons_succ, List.set_cons_zero]; rfl) ?_))
                            | ((with_reducible refine wpl_store ?_); first | (refine wpList_store_box rfl (by rfl) hO rfl _ (by first | exact at0) rfl (by rfl) (by rfl) (by rfl) (by rfl) (by rfl) ?_; clear hO; intro u hO; simp only [List.set_cons_zero, List.set_cons_succ] at hO) | (refine wpList_store_field rfl (by rfl) hO rfl _ (by first | exact at0) (Nat.le_of_ble_eq_true rfl) (by simp only [Act.eval, Array.getD_eq_getD_getElem?, List.getElem?_toArray, List.getElem?_cons_succ, List.getElem?_cons_zero, Option.getD_some]; rfl) (by rfl) (by rfl) (by rfl) ?_; clear hO; intro u hO; simp only [List.set_cons_zero, List.set_cons_succ] at hO))
                            | ((with_reducible refine wpl_call ?_); first | (refine wpList_append_str hO rfl (by rfl) rfl rfl _ (by first | exact at0) (by omega) rfl (fun A' c' => by simp only [Act.put, List.setIfInBounds_toArray, List.set_cons_succ, List.set_cons_zero]; rfl) ?_; clear hO; intro A' c' u hO; simp only [List.set_cons_zero, List.set_cons_succ] at hO) | (refine wpList_append_lit hO rfl (by rfl) rfl rfl _ (by first | exact at0) (by rfl) (by simp [Value.oneCell']) (by omega) (by omega) rfl (fun A' c' => by simp only [Act.put, List.setIfInBounds_toArray, List.set_cons_succ, List.set_cons_zero]; rfl) ?_; clear hO; intro A' c' u hO; simp only [List.set_cons_zero, List.set_cons_succ] at hO))
                            | fail)
                          go_roundw
                          case rel => exact ⟨k + 4, _, _, _, T ++ [z], by omega, by omega, by go_num, rfl, HS [z] (k + 4) (by rw [unq_x, HA.out, HB.out, HZ.out]; rfl), HQ2 (k + 4) (fun h => by
                            obtain ⟨a, b, r, ha, hb, e, hr⟩ := isQ_x h
                            rw [List.cons.injEq, List.cons.injEq] at e
                            rw [e.2.2]; exact hr), by simpa [bcs, HZ2.out] using hO.sub (L' := [_]) (.cons_cons _ (List.nil_sublist _))⟩
                          case measure => simp [intOf]; omega
                    · have i5 : (q.size : Int) ≤ (k : Int) + 3 := by omega
                      obtain ⟨hB, HE⟩ := HN (fun h => by
                        obtain ⟨a, b, r, ha, hb, e, _⟩ := isQ_x h
                        have := congrArg List.length e
                        rw [dr_len] at this
                        simp at this
                        omega)
                      go_wp2_with fail
                      go_ret2
                      exact ⟨by first | (rw [HE.out, hB]; rfl) | (rw [HE.out]; rfl), hO.below⟩
                  · have td2 : ((d.toNat : Int) == 120) = false := ch_ne (n := 120) (by omega) h120
                    go_wp2_with ((with_reducible refine wpl_call ?_); first | (refine wpList_append_str hO rfl (by rfl) rfl rfl _ (by first | exact at0) (by omega) rfl (fun A' c' => by simp only [Act.put, List.setIfInBounds_toArray, List.set_cons_succ, List.set_cons_zero]; rfl) ?_; clear hO; intro A' c' u hO; simp only [List.set_cons_zero, List.set_cons_succ] at hO) | (refine wpList_append_lit hO rfl (by rfl) rfl rfl _ (by first | exact at0) (by rfl) (by simp [Value.oneCell']) (by omega) (by omega) rfl (fun A' c' => by simp only [Act.put, List.setIfInBounds_toArray, List.set_cons_succ, List.set_cons_zero]; rfl) ?_; clear hO; intro A' c' u hO; simp only [List.set_cons_zero, List.set_cons_succ] at hO))
                    go_roundw
                    case rel => exact ⟨k + 2, _, _, _, T ++ [d], by omega, by omega, by go_num, rfl, HS [d] (k + 2) (unq_o h110 h120), HQ2 (k + 2) (isQ_o h120), by simpa [bcs] using hO⟩
                    case measure => simp [intOf]; omega
              · have i3 : (q.size : Int) ≤ (k : Int) + 1 := by omega
                rw [dr_nil (k := k + 1) (by omega)] at HN
                obtain ⟨hB, HE⟩ := HN isQ_end
                go_wp2_with ((with_reducible refine wpl_call ?_); first | (refine wpList_append_str hO rfl (by rfl) rfl rfl _ (by first | exact at0) (by omega) rfl (fun A' c' => by simp only [Act.put, List.setIfInBounds_toArray, List.set_cons_succ, List.set_cons_zero]; rfl) ?_; clear hO; intro A' c' u hO; simp only [List.set_cons_zero, List.set_cons_succ] at hO) | (refine wpList_append_lit hO rfl (by rfl) rfl rfl _ (by first | exact at0) (by rfl) (by simp [Value.oneCell']) (by omega) (by omega) rfl (fun A' c' => by simp only [Act.put, List.setIfInBounds_toArray, List.set_cons_succ, List.set_cons_zero]; rfl) ?_; clear hO; intro A' c' u hO; simp only [List.set_cons_zero, List.set_cons_succ] at hO))
                go_ret2
                exact ⟨by first | (rw [HE.out, hB]; rfl) | (rw [HE.out]; rfl), hO.below⟩
            · have tc : ((c.toNat : Int) != 92) = true := ch_ne' (n := 92) (by omega) h92
              go_wp2_with ((with_reducible refine wpl_call ?_); first | (refine wpList_append_str hO rfl (by rfl) rfl rfl _ (by first | exact at0) (by omega) rfl (fun A' c' => by simp only [Act.put, List.setIfInBounds_toArray, List.set_cons_succ, List.set_cons_zero]; rfl) ?_; clear hO; intro A' c' u hO; simp only [List.set_cons_zero, List.set_cons_succ] at hO) | (refine wpList_append_lit hO rfl (by rfl) rfl rfl _ (by first | exact at0) (by rfl) (by simp [Value.oneCell']) (by omega) (by omega) rfl (fun A' c' => by simp only [Act.put, List.setIfInBounds_toArray, List.set_cons_succ, List.set_cons_zero]; rfl) ?_; clear hO; intro A' c' u hO; simp only [List.set_cons_zero, List.set_cons_succ] at hO))
              go_roundw
              case rel => exact ⟨k + 1, _, _, _, T ++ [c], by omega, by omega, by go_num, rfl, HS [c] (k + 1) (unq_plain h92), HQ2 (k + 1) (isQ_plain h92), by simpa [bcs] using hO⟩
              case measure => simp [intOf]; omega
          · have hT2 : T = unq (rst s.data.toList 1) := by
              rw [← HQ.out, ← hU.out, dr_nil (by omega)]
              simp [unq]
            have HT := Lib.hid hT2
            clear hT2
            have hcv := conv_row (hO.row_own 0 rfl)
            have hTs : (bstr T).size = m := by
              have := (hO.row_own 0 rfl).1
              rw [bstr_size]
              simpa [bcs] using this
            by_cases hB : unqB s.data.toList = true
            · have hne := ne_test (a := bstr (quoL (bstr T).data.toList)) (b := s) (by rw [bstr_toList, HT.out, of_decide_eq_true hB]; rfl)
              have HE : Hid (unqT s.data.toList = T) := by rw [unqT_yes hB, HT.out]; rfl
              go_wp2_with fail
              refine (impl_quote _ _ (by omega)).mono ?_
              rintro e u ⟨rfl, hb⟩
              first | (replace hO := hO.step hb; clear hb) | subst hb
              have hcv2 := conv_row (hO.row_own 0 rfl)
              go_wp2_with fail
              go_ret2
              exact ⟨by first | (rw [HE.out, hB]; rfl) | (rw [HE.out]; rfl), hO.below⟩
            · have hB2 : unqB s.data.toList = false := by simpa using hB
              have hne := ne_test' (a := bstr (quoL (bstr T).data.toList)) (b := s) (fun h => hB (decide_eq_true (by rw [← HT.out, ← h]; rfl)))
              have HE := Lib.hid (unqT_no hB2)
              clear hB
              go_wp2_with fail
              refine (impl_quote _ _ (by omega)).mono ?_
              rintro e u ⟨rfl, hb⟩
              first | (replace hO := hO.step hb; clear hb) | subst hb
              go_wp2_with fail
              go_ret2
              exact ⟨by first | (rw [HE.out, hB2]; rfl) | (rw [HE.out]; rfl), hO.below⟩
      · have te : ((s[s.size - 1].toNat : Int) != 34) = true := ch_ne' (n := 34) (by omega) he
        have hB : unqB s.data.toList = false := by
          cases hb : unqB s.data.toList with
          | false => rfl
          | true =>
            have := (unqB_body hb).2.2.2
            rw [List.getLast?_eq_getElem?] at this
            have hl : s.data.toList.length = s.size := by simp
            rw [hl, List.getElem?_eq_getElem (by rw [hl]; omega)] at this
            injection this with this
            exact absurd this he
        have HE := Lib.hid (unqT_no hB)
        go_enter Try.func63, Try.ntmps63
        have hO := Own.nil w
        go_wp2_with fail
        go_ret2
        exact ⟨by first | (rw [HE.out, hB]; rfl) | (rw [HE.out]; rfl), hO.below⟩
    · have tf : ((s[0].toNat : Int) != 34) = true := ch_ne' (n := 34) (by omega) hf
      have hB : unqB s.data.toList = false := by
        cases hb : unqB s.data.toList with
        | false => rfl
        | true => 
          have := (unqB_body hb).2.2.1
          rw [head_at (by omega)] at this
          injection this with this
          exact absurd this hf
      have HE := Lib.hid (unqT_no hB)
      go_enter Try.func63, Try.ntmps63
      have hO := Own.nil w
      go_wp2_with fail
      go_ret2
      exact ⟨by first | (rw [HE.out, hB]; rfl) | (rw [HE.out]; rfl), hO.below⟩