/-
  What is proved: the laws' test of a code's size; codes that are too long are passed by; 'fresh' of the laws hands back a code of its own.
  Condition: codes of at most 1048576 bytes.
-/
import Derived.Test.YtmofcbpabdbjlaaVz7
import Derived.Test.YtmofcbpabdbjlaaVz9
namespace Go.Proofs.Ytmofcbpabdbjlaa

set_option maxRecDepth 8000

open Go.RowKit Go.ChangeShapes Go.WideShapes Go.Deep

set_option linter.unusedVariables false

set_option linter.unusedSimpArgs false

theorem laws_big (A : Option Addr) (n c : Nat) (w : World) (hn : n ≤ 9223372036854775807) : Calls Try.prog 51 #[.slice A n c] w fun e w' => e = .returned (.bool (decide (1048576 < n))) ∧ w = w' := by
  by_cases h : 1048576 < n
  · have q1 : (1048576 : Int) < n := by omega
    go_enter Try.func51, Try.ntmps51
    go_wp2
    go_ret
    exact ⟨zaj (by simp [h]), rfl⟩
  · have q1 : ¬ (1048576 : Int) < n := by omega
    go_enter Try.func51, Try.ntmps51
    go_wp2
    go_ret
    exact ⟨zaj (by simp [h]), rfl⟩

/-- the test of size: codes that are too long are passed by -/
theorem big_cases {w : World} {v : Value} (h : ArgBytes w v) : ∃ A n c, v = .slice A n c ∧ ((∀ u, Calls Try.prog 51 #[.slice A n c] u fun e w' => e = .returned (.bool true) ∧ u = w') ∨ ((∀ u, Calls Try.prog 51 #[.slice A n c] u fun e w' => e = .returned (.bool false) ∧ u = w') ∧ ∃ l, Cod w A n l)) := by
  obtain ⟨A, n, c, l, rfl, hn, hs, hb⟩ := h
  refine ⟨A, n, c, rfl, ?_⟩
  by_cases h : 1048576 < n
  · left
    intro u
    have := laws_big A n c u hn
    rw [decide_eq_true h] at this
    exact this
  · right
    refine ⟨fun u => ?_, l, hs, by omega, by have := hs.len; simpa [bys] using this, hb⟩
    have := laws_big A n c u hn
    rw [decide_eq_false h] at this
    exact this

end Go.Proofs.Ytmofcbpabdbjlaa

namespace Go.Proofs.Ytmofcbpabdbjlaa

set_option maxRecDepth 8000

open Go.RowKit Go.ChangeShapes Go.WideShapes Go.Deep

set_option linter.unusedVariables false

set_option linter.unusedSimpArgs false

theorem bys_app (a b : List Int) : bys (a ++ b) = bys a ++ bys b := by simp [bys]

theorem u8_bd (x : Int) : 0 ≤ IntKind.u8.wrap x ∧ IntKind.u8.wrap x ≤ 255 := by rw [IntKind.wrap_u8]; omega

set_option maxRecDepth 20000 in
set_option maxHeartbeats 1000000 in
theorem laws_fresh11 (A : Option Addr) (n c : Nat) (l : List Int) (w : World) (h : Cod w A n l) :
    Calls Try.prog 54 #[.slice A n c, .int .i64 11] w fun e w' => ∃ A' m c' zs, e = .returned (.slice A' m c') ∧ Own w [row 5 1 (.slice A' m c') m (bys zs)] w' ∧ List.length zs = m ∧ m ≤ 601 ∧ ∀ z ∈ zs, 0 ≤ z ∧ z ≤ 255 := by
  obtain ⟨h, hn, hl0, hb⟩ := h
  have HL := Lib.hid hl0
  have HB := Lib.hid hb
  clear hl0 hb
  go_enter Try.func54, Try.ntmps54
  have hO := Own.nil w
  go_wp2_with (first | ((with_reducible refine zag ?_); refine zak (cs := [.int .u8 11]) hO rfl (by rfl) (by simp only [Act.eval, zJ, zF, zD, zE, zP]; rfl) rfl rfl (zM rfl) rfl (fun b => by simp only [Act.put, zA, zB, zC]; rfl) ?_; clear hO; intro bb u hO; simp only [zL, zK] at hO) | fail)
  replace hO := hO.box_rowB 1 1 rfl (by decide)
  go_loopw [5, 6] (fun s i u => ∃ (k : Nat) (A' : Option Addr) (c' : Nat) (zs : List Int), k ≤ n ∧ k ≤ 600 ∧ i = .int .i64 k ∧ s = .slice A' (k + 1) c' ∧ zs.length = k + 1 ∧ Hid (∀ z ∈ zs, 0 ≤ z ∧ z ≤ 255) ∧ Own w [row 5 1 (.slice A' (k + 1) c') (k + 1) (bys zs)] u) (fun _ i _ => 600 - (intOf i).toNat)
  case atStart => exact ⟨0, _, _, [11], by omega, by omega, rfl, rfl, rfl, Lib.hid (by decide), hO⟩
  case round =>
    clear hO
    obtain ⟨k, A', c', zs, hk, hk2, rfl, rfl, hzl, hzb, hO⟩ := hrel
    have HZ := Lib.hid hzl
    clear hzl
    by_cases hlt : k < n
    · by_cases h6 : k < 600
      · have hkl : k < l.length := by rw [HL.out]; exact hlt
        have hy := HB.out _ (List.getElem_mem hkl)
        obtain ⟨ab, off, rfl, hab, d0⟩ := h.by hO.below hlt hkl
        obtain ⟨y, hyy⟩ : ∃ y, l[k] = y := ⟨_, rfl⟩
        rw [hyy] at hy d0
        clear hyy hkl
        obtain ⟨hy1, hy2⟩ := hy
        have hv := Lib.hid (u8_bd (y * 3 + 11 * ((k : Int) % 7 + 1)))
        obtain ⟨v, hvv⟩ : ∃ v, IntKind.u8.wrap (y * 3 + 11 * ((k : Int) % 7 + 1)) = v := ⟨_, rfl⟩
        rw [hvv] at hv
        have i1 : (0 : Int) ≤ (k : Int) := by omega
        have i2 : (k : Int) < (n : Int) := by omega
        have hr : ((k : Int)).tmod 7 = (k : Int) % 7 := Int.tmod_eq_emod_of_nonneg i1
        go_wp2_with (first | ((with_reducible refine zag ?_); refine zak (cs := [.int .u8 v]) hO rfl (by rfl) (by simp only [Act.eval, zJ, zF, zD, zE, zP]; rfl) rfl rfl (zM rfl) rfl (fun b => by simp only [Act.put, zA, zB, zC]; rfl) ?_; clear hO; intro bb u hO; simp only [zL, zK] at hO) | ((with_reducible refine zaq ?_); refine zam hO rfl (by rfl) rfl rfl _ (by exact at0) _ (by exact at1) (by rfl) (by simp [Value.oneCell']) (by omega) (by omega) rfl (fun A' c' => by simp only [Act.put, zA, zB, zC]; rfl) ?_; clear hO; intro A' c' u hO; simp only [zC, zB] at hO) | fail)
        replace hO := hO.pickB [0] (by decide)
        simp only [zN, zO, zE, zD] at hO
        go_roundw
        case rel => exact ⟨k + 1, _, _, zs ++ [v], by omega, by omega, by go_num, rfl, by simp [HZ.out], Lib.hid (fun z hz => by
            rcases List.mem_append.1 hz with hz | hz
            · exact hzb.out z hz
            · rw [List.mem_singleton.1 hz]; exact hv.out), by rw [bys_app]; exact hO⟩
        case measure => simp [intOf]; omega
      · go_wp2_with fail
        go_ret
        exact ⟨_, _, _, zs, rfl, hO, HZ.out, by omega, hzb.out⟩
    · go_wp2_with fail
      go_ret
      exact ⟨_, _, _, zs, rfl, hO, HZ.out, by omega, hzb.out⟩

set_option maxRecDepth 20000 in
set_option maxHeartbeats 1000000 in
theorem laws_fresh13 (A : Option Addr) (n c : Nat) (l : List Int) (w : World) (h : Cod w A n l) :
    Calls Try.prog 54 #[.slice A n c, .int .i64 13] w fun e w' => ∃ A' m c' zs, e = .returned (.slice A' m c') ∧ Own w [row 5 1 (.slice A' m c') m (bys zs)] w' ∧ List.length zs = m ∧ m ≤ 601 ∧ ∀ z ∈ zs, 0 ≤ z ∧ z ≤ 255 := by
  obtain ⟨h, hn, hl0, hb⟩ := h
  have HL := Lib.hid hl0
  have HB := Lib.hid hb
  clear hl0 hb
  go_enter Try.func54, Try.ntmps54
  have hO := Own.nil w
  go_wp2_with (first | ((with_reducible refine zag ?_); refine zak (cs := [.int .u8 13]) hO rfl (by rfl) (by simp only [Act.eval, zJ, zF, zD, zE, zP]; rfl) rfl rfl (zM rfl) rfl (fun b => by simp only [Act.put, zA, zB, zC]; rfl) ?_; clear hO; intro bb u hO; simp only [zL, zK] at hO) | fail)
  replace hO := hO.box_rowB 1 1 rfl (by decide)
  go_loopw [5, 6] (fun s i u => ∃ (k : Nat) (A' : Option Addr) (c' : Nat) (zs : List Int), k ≤ n ∧ k ≤ 600 ∧ i = .int .i64 k ∧ s = .slice A' (k + 1) c' ∧ zs.length = k + 1 ∧ Hid (∀ z ∈ zs, 0 ≤ z ∧ z ≤ 255) ∧ Own w [row 5 1 (.slice A' (k + 1) c') (k + 1) (bys zs)] u) (fun _ i _ => 600 - (intOf i).toNat)
  case atStart => exact ⟨0, _, _, [13], by omega, by omega, rfl, rfl, rfl, Lib.hid (by decide), hO⟩
  case round =>
    clear hO
    obtain ⟨k, A', c', zs, hk, hk2, rfl, rfl, hzl, hzb, hO⟩ := hrel
    have HZ := Lib.hid hzl
    clear hzl
    by_cases hlt : k < n
    · by_cases h6 : k < 600
      · have hkl : k < l.length := by rw [HL.out]; exact hlt
        have hy := HB.out _ (List.getElem_mem hkl)
        obtain ⟨ab, off, rfl, hab, d0⟩ := h.by hO.below hlt hkl
        obtain ⟨y, hyy⟩ : ∃ y, l[k] = y := ⟨_, rfl⟩
        rw [hyy] at hy d0
        clear hyy hkl
        obtain ⟨hy1, hy2⟩ := hy
        have hv := Lib.hid (u8_bd (y * 3 + 13 * ((k : Int) % 7 + 1)))
        obtain ⟨v, hvv⟩ : ∃ v, IntKind.u8.wrap (y * 3 + 13 * ((k : Int) % 7 + 1)) = v := ⟨_, rfl⟩
        rw [hvv] at hv
        have i1 : (0 : Int) ≤ (k : Int) := by omega
        have i2 : (k : Int) < (n : Int) := by omega
        have hr : ((k : Int)).tmod 7 = (k : Int) % 7 := Int.tmod_eq_emod_of_nonneg i1
        go_wp2_with (first | ((with_reducible refine zag ?_); refine zak (cs := [.int .u8 v]) hO rfl (by rfl) (by simp only [Act.eval, zJ, zF, zD, zE, zP]; rfl) rfl rfl (zM rfl) rfl (fun b => by simp only [Act.put, zA, zB, zC]; rfl) ?_; clear hO; intro bb u hO; simp only [zL, zK] at hO) | ((with_reducible refine zaq ?_); refine zam hO rfl (by rfl) rfl rfl _ (by exact at0) _ (by exact at1) (by rfl) (by simp [Value.oneCell']) (by omega) (by omega) rfl (fun A' c' => by simp only [Act.put, zA, zB, zC]; rfl) ?_; clear hO; intro A' c' u hO; simp only [zC, zB] at hO) | fail)
        replace hO := hO.pickB [0] (by decide)
        simp only [zN, zO, zE, zD] at hO
        go_roundw
        case rel => exact ⟨k + 1, _, _, zs ++ [v], by omega, by omega, by go_num, rfl, by simp [HZ.out], Lib.hid (fun z hz => by
            rcases List.mem_append.1 hz with hz | hz
            · exact hzb.out z hz
            · rw [List.mem_singleton.1 hz]; exact hv.out), by rw [bys_app]; exact hO⟩
        case measure => simp [intOf]; omega
      · go_wp2_with fail
        go_ret
        exact ⟨_, _, _, zs, rfl, hO, HZ.out, by omega, hzb.out⟩
    · go_wp2_with fail
      go_ret
      exact ⟨_, _, _, zs, rfl, hO, HZ.out, by omega, hzb.out⟩

end Go.Proofs.Ytmofcbpabdbjlaa
