/-
  What is proved: what the reference's tests on lists of texts return; what both tests of a vector's node return.
  Condition: lengths that a machine holds.
-/
import Derived.Test.YtmofcbpabdbjlaaIa
namespace Go.Proofs.Ytmofcbpabdbjlaa
set_option maxRecDepth 8000
open Go.RowKit Go.ChangeShapes Go.WideShapes
set_option linter.unusedVariables false
set_option linter.unusedSimpArgs false

theorem find_take {l : List ByteArray} {k : Nat} (hk : k < l.length) {x : ByteArray} (hx : l[k] = x) : decide (findS l x < (k : Int)) = (l.take k).any fun y => y.toList == x.toList := by
  rw [Bool.eq_iff_iff, decide_eq_true_eq, List.any_eq_true]
  unfold findS
  cases hf : l.findIdx? (fun y => y.toList == x.toList) with
  | none =>
    rw [List.findIdx?_eq_none_iff] at hf
    have := hf _ (List.getElem_mem hk)
    simp [hx] at this
  | some j =>
    rw [List.findIdx?_eq_some_iff_getElem] at hf
    obtain ⟨hj, h1, h2⟩ := hf
    constructor
    · intro h
      have h : j < k := by simpa using h
      exact ⟨l[j], by rw [List.mem_take_iff_getElem]; exact ⟨j, by omega, rfl⟩, h1⟩
    · rintro ⟨y, hy, he⟩
      rw [List.mem_take_iff_getElem] at hy
      obtain ⟨i, hi, rfl⟩ := hy
      show (j : Int) < k
      by_cases h : j ≤ i
      · omega
      · have := h2 i (by omega)
        simp [he] at this

theorem spec_labels (most : Nat) (hm : most ≤ 100) (A : Option Addr) (c : Nat) (l : List ByteArray) (w : World) (h : Sl w 1 A l.length (stc l)) (hn : l.length ≤ 9223372036854775807) :
    Calls Try.prog 185 #[.slice A l.length c, .int .i64 (most : Int)] w fun e w' => e = .returned (.bool (labB most l)) ∧ w = w' := by
  go_enter Try.func185, Try.ntmps185
  go_wp2_with fail
  go_loop [5] (fun i => ∃ k : Nat, k ≤ l.length ∧ k ≤ most + 1 ∧ i = .int .i64 k ∧ Hid (goodN l k = true)) (fun i => l.length - (intOf i).toNat)
  case atStart => exact ⟨0, Nat.zero_le _, Nat.zero_le _, rfl, rfl⟩
  case round =>
    obtain ⟨k, hk, hkm, rfl, hall⟩ := hrel
    by_cases hlt : k < l.length
    · by_cases hlm : k ≤ most
      · obtain ⟨b, off, rfl, hb, hc⟩ := h.tx (Below.refl _ _) hlt rfl
        have HT := Lib.hid (goodN_succ l k)
        have HF := Lib.hid (fun he => goodN_false (l := l) hlt he)
        have HO := Lib.hid (okAt_eq hlt)
        have HI := Lib.hid (fun x => find_take (x := x) hlt)
        obtain ⟨x, hx⟩ : ∃ x, l[k] = x := ⟨_, rfl⟩
        have hi := HI.out x hx
        rw [hx] at hc HO
        clear hx HI
        have HL : Hid (goodN l l.length = false → labB most l = false) := Lib.hid (fun h => by unfold labB; rw [h]; simp)
        by_cases e1 : x.toList = []
        · have t1 : (!x.toList.isEmpty) = false := by simp [e1]
          have t2 : x.toList.isEmpty = true := by simp [e1]
          have HR := Lib.hid (HL.out (HF.out (by rw [HO.out, emptyB_iff.2 e1]; rfl)))
          clear hi
          go_wp2_with fail
          go_ret
          exact ⟨ret_bool HR.out.symm, rfl⟩
        · have t1 : (!x.toList.isEmpty) = true := by simp [e1]
          have t2 : x.toList.isEmpty = false := by simp [e1]
          have HE : Hid (emptyB x = false) := Lib.hid (by unfold emptyB; exact t2)
          by_cases e2 : 60 < x.size
          · have HR := Lib.hid (HL.out (HF.out (by rw [HO.out, decide_eq_false (show ¬ x.size ≤ 60 by omega)]; simp)))
            clear hi
            go_wp2_with fail
            go_ret
            exact ⟨ret_bool HR.out.symm, rfl⟩
          · have HD := Lib.hid (decide_eq_true (show x.size ≤ 60 by omega))
            rw [← hi] at HO
            clear hi
            obtain ⟨f, hf⟩ : ∃ f, findS l x = f := ⟨_, rfl⟩
            have HC := fun u hu => spec_find (some ⟨b, off, none⟩) l.length c l x u hu hn
            rw [hf] at HO HC
            clear hf
            by_cases hfk : f < (k : Int)
            · have HR := Lib.hid (HL.out (HF.out (by rw [HO.out, decide_eq_true hfk]; simp)))
              go_wp2_with fail
              refine (HC _ h).mono ?_
              rintro e w' ⟨rfl, rfl⟩
              go_wp2_with fail
              go_ret
              exact ⟨ret_bool HR.out.symm, rfl⟩
            · have HG : Hid (goodN l (k + 1) = true) := Lib.hid (by rw [HT.out, hall.out, HO.out, HE.out, HD.out, decide_eq_false hfk]; rfl)
              have hfk' : (k : Int) ≤ f := by omega
              clear hfk
              go_wp2_with fail
              refine (HC _ h).mono ?_
              rintro e w' ⟨rfl, rfl⟩
              go_wp2_with fail
              go_round
              case rel => exact ⟨k + 1, by omega, by omega, by go_num, HG⟩
              case measure => simp [intOf]; omega
      · have HL : Hid (labB most l = false) := Lib.hid (by unfold labB; rw [decide_eq_false (by omega)]; rfl)
        have hd1 : decide (k ≤ most) = false := decide_eq_false hlm
        have hd2 : decide (l.length ≤ most) = false := decide_eq_false (by omega)
        clear hlm
        go_wp2_with fail
        go_ret
        exact ⟨ret_bool HL.out.symm, rfl⟩
    · have hkn : k = l.length := by omega
      subst hkn
      have HL : Hid (labB most l = decide (l.length ≤ most)) := Lib.hid (by unfold labB; rw [hall.out, Bool.and_true])
      go_wp2_with fail
      go_ret
      exact ⟨ret_bool (by rw [HL.out]), rfl⟩

theorem shortB_take {l : List ByteArray} {k : Nat} (h : k < l.length) : shortB (l.take (k + 1)) = (shortB (l.take k) && decide (l[k].size ≤ 60)) := by rw [take_snoc' h]; unfold shortB; rw [List.all_append]; simp
theorem shortB_false {l : List ByteArray} {k : Nat} (h : k < l.length) (he : 60 < l[k].size) : shortB l = false := by
  unfold shortB
  rw [List.all_eq_false]
  exact ⟨_, List.getElem_mem h, by simp; omega⟩
/-- the reference's test of names -/
def namedB (l : List ByteArray) : Bool := shortB l && (decide (l.length = 0) || !allE l)

theorem spec_named (A : Option Addr) (c : Nat) (l : List ByteArray) (w : World) (h : Sl w 1 A l.length (stc l)) (hn : l.length ≤ 9223372036854775807) :
    Calls Try.prog 184 #[.slice A l.length c] w fun e w' => e = .returned (.bool (namedB l)) ∧ w = w' := by
  by_cases h0 : l.length = 0
  · have hl : l = [] := List.length_eq_zero_iff.1 h0
    subst hl
    clear h0
    go_enter Try.func184, Try.ntmps184
    go_wp2_with fail
    go_loop [3, 4] (fun s i => s = .bool true ∧ i = .int .i64 0) (fun s i => 0)
    case atStart => exact ⟨rfl, rfl⟩
    case round =>
      obtain ⟨rfl, rfl⟩ := hrel
      go_wp2_with fail
      go_ret
      exact ⟨rfl, rfl⟩
  · have hz' : ((l.length : Int) == 0) = false := by rw [beq_eq_false_iff_ne]; omega
    have HN : Hid (namedB l = (shortB l && !allE l)) := Lib.hid (by unfold namedB; rw [decide_eq_false h0, Bool.false_or])
    clear h0
    go_enter Try.func184, Try.ntmps184
    go_wp2_with fail
    go_loop [3, 4] (fun s i => ∃ (k : Nat) (b : Bool), k ≤ l.length ∧ i = .int .i64 k ∧ s = .bool b ∧ Hid (b = !allE (l.take k)) ∧ Hid (shortB (l.take k) = true)) (fun _ i => l.length - (intOf i).toNat)
    case atStart => exact ⟨0, false, Nat.zero_le _, rfl, rfl, rfl, rfl⟩
    case round =>
      obtain ⟨k, b, hk, rfl, rfl, hb, hsh⟩ := hrel
      by_cases hlt : k < l.length
      · obtain ⟨g, off, rfl, hg, hc⟩ := h.tx (Below.refl _ _) hlt rfl
        have HT := Lib.hid (allE_take hlt)
        have HS := Lib.hid (shortB_take hlt)
        have HF := Lib.hid (fun he => shortB_false (l := l) hlt he)
        obtain ⟨x, hx⟩ : ∃ x, l[k] = x := ⟨_, rfl⟩
        rw [hx] at hc HT HS HF
        clear hx
        by_cases e2 : 60 < x.size
        · have HR := Lib.hid (show namedB l = false by rw [HN.out, HF.out e2]; rfl)
          go_wp2_with fail
          go_ret
          exact ⟨ret_bool HR.out.symm, rfl⟩
        · have HD := Lib.hid (decide_eq_true (show x.size ≤ 60 by omega))
          cases b with
          | true =>
            go_wp2_with fail
            go_round
            case rel => exact ⟨k + 1, true, by omega, by go_num, rfl, by show _ = _; rw [HT.out, Bool.not_and, ← hb.out]; rfl, by show _ = _; rw [HS.out, hsh.out, HD.out]; rfl⟩
            case measure => simp [intOf]; omega
          | false =>
            by_cases e1 : x.toList = []
            · have t1 : (!x.toList.isEmpty) = false := by simp [e1]
              have HE : Hid (emptyB x = true) := Lib.hid (emptyB_iff.2 e1)
              go_wp2_with fail
              go_round
              case rel => exact ⟨k + 1, false, by omega, by go_num, rfl, by show _ = _; rw [HT.out, Bool.not_and, ← hb.out, HE.out]; rfl, by show _ = _; rw [HS.out, hsh.out, HD.out]; rfl⟩
              case measure => simp [intOf]; omega
            · have t1 : (!x.toList.isEmpty) = true := by simp [e1]
              have HE : Hid (emptyB x = false) := Lib.hid (by unfold emptyB; simp [e1])
              go_wp2_with fail
              go_round
              case rel => exact ⟨k + 1, true, by omega, by go_num, rfl, by show _ = _; rw [HT.out, Bool.not_and, ← hb.out, HE.out]; rfl, by show _ = _; rw [HS.out, hsh.out, HD.out]; rfl⟩
              case measure => simp [intOf]; omega
      · have hkn : k = l.length := by omega
        subst hkn
        rw [List.take_length] at hb hsh
        go_wp2_with fail
        go_ret
        exact ⟨ret_bool (by rw [HN.out, hsh.out, hb.out]; rfl), rfl⟩
end Go.Proofs.Ytmofcbpabdbjlaa
