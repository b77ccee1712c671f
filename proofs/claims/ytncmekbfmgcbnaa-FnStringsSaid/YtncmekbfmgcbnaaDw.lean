/-
  What is proved: what the reference's readers of words, of lists of words and of integers return.
  Condition: codes of at most 1048576 bytes.
-/
import Derived.Test.YtncmekbfmgcbnaaDr
import Derived.Test.YtncmekbfmgcbnaaStrs
import Derived.Test.YtncmekbfmgcbnaaOwnC
namespace Go.Proofs.Ytncmekbfmgcbnaa
open Go.RowKit Go.ChangeShapes Go.WideShapes Go.Deep
set_option linter.unusedVariables false
set_option linter.unusedSimpArgs false



def wordsL : List ByteArray := [⟨#[97]⟩, ⟨#[98]⟩, ⟨#[120]⟩, ⟨#[121]⟩, ⟨#[97, 108, 112, 104, 97]⟩, ⟨#[97, 108]⟩, ⟨#[]⟩, ⟨#[110, 32, 49]⟩, ⟨#[34]⟩, ⟨#[92]⟩, ⟨#[10]⟩, ⟨#[128]⟩, ⟨#[102, 60, 45]⟩, ⟨#[105, 102]⟩, ⟨#[46, 46, 46]⟩, ⟨#[46, 49]⟩, ⟨#[95, 97]⟩, ⟨#[97, 46, 98]⟩, ⟨#[97, 114, 101, 97, 46, 115, 113, 117, 97, 114, 101]⟩, ⟨#[116, 119, 101, 110, 116, 121, 46, 98, 121, 116, 101, 115, 46, 105, 110, 46, 104, 101, 114, 101]⟩, ⟨#[116, 119, 101, 110, 116, 121, 49, 46, 98, 121, 116, 101, 115, 46, 105, 110, 46, 104, 101, 114, 101]⟩]
theorem words_bd : ∀ y ∈ wordsL, y.size ≤ 24 := by decide
def dfiL : List Int := [0, 7, -1, 120, -999999999, 1000000000, -9223372036854775808, 9223372036854775807]
theorem dfi_bd : ∀ y ∈ dfiL, -9223372036854775808 ≤ y ∧ y ≤ 9223372036854775807 := by decide

set_option maxRecDepth 20000 in
set_option maxHeartbeats 1000000 in
theorem draw_word {w0 w : World} {A : Option Addr} {n c b : Nat} {l : List Int} {L : List Res} (h : Cod w0 A n l) (hR : Rd w0 b A n c L w) :
    Calls Try.prog 98 #[.pointer (some ⟨b, 0, none⟩)] w fun e w' => ∃ y : ByteArray, e = .returned (.string y) ∧ y.size ≤ 24 ∧ Rd w0 b A n c L w' := by
  obtain ⟨i, z, hi, hO⟩ := hR
  skip
  go_enter Try.func98, Try.ntmps98
  go_wp2_with (first
    | ((with_reducible refine wpl_alloc ?_); refine wpList_alloc_own rfl (by rfl) hO rfl (fun b => by simp only [Act.put, List.setIfInBounds_toArray, List.set_cons_succ, List.set_cons_zero]; rfl) ?_; (first | (refine nm 0 rfl ?_; clear hO; intro b0 u hO) | (refine nm 1 rfl ?_; clear hO; intro b1 u hO)); simp only [List.nil_append, List.cons_append] at hO)
    | ((with_reducible refine wpl_box ?_); refine wpList_box_own rfl (by rfl) hO rfl rfl (fun b => by simp only [Act.put, List.setIfInBounds_toArray, List.set_cons_succ, List.set_cons_zero]; rfl) ?_; (first | (refine nm 0 rfl ?_; clear hO; intro b0 u hO) | (refine nm 1 rfl ?_; clear hO; intro b1 u hO)); simp only [List.nil_append, List.cons_append] at hO)
    | ((with_reducible refine wpl_load ?_); first | (refine wpList_load_box rfl (by first | rfl | (simp only [Region.wanted, yielded, *]; go_simp; done) | (simp [Region.wanted, yielded, *]; done) | fail) hO rfl _ (by first | exact at0 | exact at1) (by rfl) (by simp only [Act.put, List.setIfInBounds_toArray, List.set_cons_succ, List.set_cons_zero]; rfl) ?_) | (refine wpList_load_field rfl (by first | rfl | (simp only [Region.wanted, yielded, *]; go_simp; done) | (simp [Region.wanted, yielded, *]; done) | fail) hO rfl _ (by first | exact at0 | exact at1) (by rfl) (by simp only [Act.put, List.setIfInBounds_toArray, List.set_cons_succ, List.set_cons_zero]; rfl) ?_))
    | ((with_reducible refine wpl_store ?_); first | (refine wpList_store_box rfl (by rfl) hO rfl _ (by first | exact at0 | exact at1) rfl (by rfl) (by rfl) (by rfl) (by rfl) (by rfl) ?_; clear hO; intro u hO; simp only [List.set_cons_zero, List.set_cons_succ] at hO) | (refine wpList_store_field rfl (by rfl) hO rfl _ (by first | exact at0 | exact at1) (Nat.le_of_ble_eq_true rfl) (by simp only [Act.eval, Array.getD_eq_getD_getElem?, List.getElem?_toArray, List.getElem?_cons_succ, List.getElem?_cons_zero, Option.getD_some]; rfl) (by rfl) (by rfl) (by rfl) ?_; clear hO; intro u hO; simp only [List.set_cons_zero, List.set_cons_succ] at hO))
    | ((with_reducible refine wpl_build ?_); refine wpList_build_list (cs := [.string ⟨#[97]⟩, .string ⟨#[98]⟩, .string ⟨#[120]⟩, .string ⟨#[121]⟩, .string ⟨#[97, 108, 112, 104, 97]⟩, .string ⟨#[97, 108]⟩, .string ⟨#[]⟩, .string ⟨#[110, 32, 49]⟩, .string ⟨#[34]⟩, .string ⟨#[92]⟩, .string ⟨#[10]⟩, .string ⟨#[128]⟩, .string ⟨#[102, 60, 45]⟩, .string ⟨#[105, 102]⟩, .string ⟨#[46, 46, 46]⟩, .string ⟨#[46, 49]⟩, .string ⟨#[95, 97]⟩, .string ⟨#[97, 46, 98]⟩, .string ⟨#[97, 114, 101, 97, 46, 115, 113, 117, 97, 114, 101]⟩, .string ⟨#[116, 119, 101, 110, 116, 121, 46, 98, 121, 116, 101, 115, 46, 105, 110, 46, 104, 101, 114, 101]⟩, .string ⟨#[116, 119, 101, 110, 116, 121, 49, 46, 98, 121, 116, 101, 115, 46, 105, 110, 46, 104, 101, 114, 101]⟩]) hO rfl (by rfl) [.string ⟨#[97]⟩, .string ⟨#[98]⟩, .string ⟨#[120]⟩, .string ⟨#[121]⟩, .string ⟨#[97, 108, 112, 104, 97]⟩, .string ⟨#[97, 108]⟩, .string ⟨#[]⟩, .string ⟨#[110, 32, 49]⟩, .string ⟨#[34]⟩, .string ⟨#[92]⟩, .string ⟨#[10]⟩, .string ⟨#[128]⟩, .string ⟨#[102, 60, 45]⟩, .string ⟨#[105, 102]⟩, .string ⟨#[46, 46, 46]⟩, .string ⟨#[46, 49]⟩, .string ⟨#[95, 97]⟩, .string ⟨#[97, 46, 98]⟩, .string ⟨#[97, 114, 101, 97, 46, 115, 113, 117, 97, 114, 101]⟩, .string ⟨#[116, 119, 101, 110, 116, 121, 46, 98, 121, 116, 101, 115, 46, 105, 110, 46, 104, 101, 114, 101]⟩, .string ⟨#[116, 119, 101, 110, 116, 121, 49, 46, 98, 121, 116, 101, 115, 46, 105, 110, 46, 104, 101, 114, 101]⟩] (by rfl) (by rfl) rfl (Nat.le_of_ble_eq_true rfl) (by rfl) rfl (fun b => by simp only [Act.put, List.setIfInBounds_toArray, List.set_cons_succ, List.set_cons_zero]; rfl) ?_; clear hO; intro bb u hO; simp only [List.nil_append, List.cons_append] at hO)
    | ((with_reducible refine wpl_append ?_); refine wpList_append_box hO rfl (by rfl) rfl rfl _ (by first | exact at0 | exact at1 | exact at2) _ (by first | exact at0 | exact at1 | exact at2) (by rfl) (by simp [Value.oneCell']) (by omega) (by omega) rfl (fun A' c' => by simp only [Act.put, List.setIfInBounds_toArray, List.set_cons_succ, List.set_cons_zero]; rfl) ?_; clear hO; intro A' c' u hO; simp only [List.set_cons_zero, List.set_cons_succ] at hO)
    | fail)
  refine (draw_pick wordsL 21 rfl (by decide) (by decide) L.length (last_at L _) h ⟨i, z, hi, hO⟩).mono ?_
  rintro e u ⟨y, hy, rfl, hR⟩
  have hs := words_bd y hy
  clear hy hO
  go_wp2_with fail
  go_ret
  exact ⟨y, rfl, hs, hR.drop⟩

theorem draw_quote (A : Option Addr) (n c : Nat) (l : List Int) (w : World) (h : Cod w A n l) :
    Calls Try.prog 61 #[.slice A n c] w fun e w' => ∃ y : ByteArray, e = .returned (.string y) ∧ y.size ≤ 48 ∧ Below w.heap.size w w' := by
  go_enter Try.func61, Try.ntmps61
  go_wp2_with fail
  refine (draw_new A n c l _ h).mono ?_
  rintro e u ⟨b, rfl, hR⟩
  go_wp2_with fail
  refine (draw_word h hR).mono ?_
  rintro e u ⟨x, rfl, hx, hR⟩
  go_wp2_with fail
  refine (draw_word h hR).mono ?_
  rintro e u ⟨y, rfl, hy, hR⟩
  go_wp2_with fail
  go_ret
  exact ⟨x ++ y, rfl, by simp; omega, hR.below⟩

set_option maxRecDepth 20000 in
theorem draw_fmtInt (A : Option Addr) (n c : Nat) (l : List Int) (w : World) (h : Cod w A n l) :
    Calls Try.prog 66 #[.slice A n c] w fun e w' => ∃ y : Int, e = .returned (.int .i64 y) ∧ (-9223372036854775808 ≤ y ∧ y ≤ 9223372036854775807) ∧ Below w.heap.size w w' := by
  skip
  go_enter Try.func66, Try.ntmps66
  go_wp2_with fail
  refine (draw_new A n c l _ h).mono ?_
  rintro e u ⟨b, rfl, i, z, hi, hO⟩
  go_wp2_with (first
    | ((with_reducible refine wpl_alloc ?_); refine wpList_alloc_own rfl (by rfl) hO rfl (fun b => by simp only [Act.put, List.setIfInBounds_toArray, List.set_cons_succ, List.set_cons_zero]; rfl) ?_; (first | (refine nm 0 rfl ?_; clear hO; intro b0 u hO) | (refine nm 1 rfl ?_; clear hO; intro b1 u hO)); simp only [List.nil_append, List.cons_append] at hO)
    | ((with_reducible refine wpl_box ?_); refine wpList_box_own rfl (by rfl) hO rfl rfl (fun b => by simp only [Act.put, List.setIfInBounds_toArray, List.set_cons_succ, List.set_cons_zero]; rfl) ?_; (first | (refine nm 0 rfl ?_; clear hO; intro b0 u hO) | (refine nm 1 rfl ?_; clear hO; intro b1 u hO)); simp only [List.nil_append, List.cons_append] at hO)
    | ((with_reducible refine wpl_load ?_); first | (refine wpList_load_box rfl (by first | rfl | (simp only [Region.wanted, yielded, *]; go_simp; done) | (simp [Region.wanted, yielded, *]; done) | fail) hO rfl _ (by first | exact at0 | exact at1) (by rfl) (by simp only [Act.put, List.setIfInBounds_toArray, List.set_cons_succ, List.set_cons_zero]; rfl) ?_) | (refine wpList_load_field rfl (by first | rfl | (simp only [Region.wanted, yielded, *]; go_simp; done) | (simp [Region.wanted, yielded, *]; done) | fail) hO rfl _ (by first | exact at0 | exact at1) (by rfl) (by simp only [Act.put, List.setIfInBounds_toArray, List.set_cons_succ, List.set_cons_zero]; rfl) ?_))
    | ((with_reducible refine wpl_store ?_); first | (refine wpList_store_box rfl (by rfl) hO rfl _ (by first | exact at0 | exact at1) rfl (by rfl) (by rfl) (by rfl) (by rfl) (by rfl) ?_; clear hO; intro u hO; simp only [List.set_cons_zero, List.set_cons_succ] at hO) | (refine wpList_store_field rfl (by rfl) hO rfl _ (by first | exact at0 | exact at1) (Nat.le_of_ble_eq_true rfl) (by simp only [Act.eval, Array.getD_eq_getD_getElem?, List.getElem?_toArray, List.getElem?_cons_succ, List.getElem?_cons_zero, Option.getD_some]; rfl) (by rfl) (by rfl) (by rfl) ?_; clear hO; intro u hO; simp only [List.set_cons_zero, List.set_cons_succ] at hO))
    | ((with_reducible refine wpl_build ?_); refine wpList_build_list (cs := [.int .i64 (0), .int .i64 (7), .int .i64 (-1), .int .i64 (120), .int .i64 (-999999999), .int .i64 (1000000000), .int .i64 (-9223372036854775808), .int .i64 (9223372036854775807)]) hO rfl (by rfl) [.int .i64 (0), .int .i64 (7), .int .i64 (-1), .int .i64 (120), .int .i64 (-999999999), .int .i64 (1000000000), .int .i64 (-9223372036854775808), .int .i64 (9223372036854775807)] (by rfl) (by rfl) rfl (Nat.le_of_ble_eq_true rfl) (by rfl) rfl (fun b => by simp only [Act.put, List.setIfInBounds_toArray, List.set_cons_succ, List.set_cons_zero]; rfl) ?_; clear hO; intro bb u hO; simp only [List.nil_append, List.cons_append] at hO)
    | ((with_reducible refine wpl_append ?_); refine wpList_append_box hO rfl (by rfl) rfl rfl _ (by first | exact at0 | exact at1 | exact at2) _ (by first | exact at0 | exact at1 | exact at2) (by rfl) (by simp [Value.oneCell']) (by omega) (by omega) rfl (fun A' c' => by simp only [Act.put, List.setIfInBounds_toArray, List.set_cons_succ, List.set_cons_zero]; rfl) ?_; clear hO; intro A' c' u hO; simp only [List.set_cons_zero, List.set_cons_succ] at hO)
    | fail)
  refine (draw_pickInt dfiL 8 rfl (by decide) (by decide) 0 at0 h ⟨i, z, hi, hO⟩).mono ?_
  rintro e u ⟨y, hy, rfl, hR⟩
  have hs := dfi_bd y hy
  clear hy hO
  go_wp2_with fail
  go_ret
  exact ⟨y, rfl, hs, hR.below⟩

theorem stc_appB (a : List ByteArray) (x : ByteArray) : stc (a ++ [x]) = stc a ++ [.string x] := by simp [stc]

set_option maxRecDepth 20000 in
set_option maxHeartbeats 1000000 in
theorem draw_words5 {w0 w : World} {A : Option Addr} {n c b : Nat} {l : List Int} (h : Cod w0 A n l) (hR : Rd w0 b A n c [] w) :
    Calls Try.prog 100 #[.pointer (some ⟨b, 0, none⟩), .int .i64 5] w fun e w' => ∃ A' m c' zs, e = .returned (.slice A' m c') ∧ List.length zs = m ∧ m ≤ 5 ∧ (∀ y ∈ zs, ByteArray.size y ≤ 24) ∧ Own w0 [row 9 1 (.slice A' m c') m (stc zs)] w' := by
  skip
  obtain ⟨i, z, hi, hO⟩ := hR
  go_enter Try.func100, Try.ntmps100
  go_wp2_with (first
    | ((with_reducible refine wpl_alloc ?_); refine wpList_alloc_own rfl (by rfl) hO rfl (fun b => by simp only [Act.put, List.setIfInBounds_toArray, List.set_cons_succ, List.set_cons_zero]; rfl) ?_; (first | (refine nm 0 rfl ?_; clear hO; intro b0 u hO) | (refine nm 1 rfl ?_; clear hO; intro b1 u hO) | (refine nm 2 rfl ?_; clear hO; intro b2 u hO)); simp only [List.nil_append, List.cons_append] at hO)
    | ((with_reducible refine wpl_box ?_); refine wpList_box_own rfl (by rfl) hO rfl rfl (fun b => by simp only [Act.put, List.setIfInBounds_toArray, List.set_cons_succ, List.set_cons_zero]; rfl) ?_; (first | (refine nm 0 rfl ?_; clear hO; intro b0 u hO) | (refine nm 1 rfl ?_; clear hO; intro b1 u hO) | (refine nm 2 rfl ?_; clear hO; intro b2 u hO)); simp only [List.nil_append, List.cons_append] at hO)
    | ((with_reducible refine wpl_load ?_); first | (refine wpList_load_box rfl (by first | rfl | (simp only [Region.wanted, yielded, *]; go_simp; done) | (simp [Region.wanted, yielded, *]; done) | fail) hO rfl _ (by first | exact at0 | exact at1 | exact at2) (by rfl) (by simp only [Act.put, List.setIfInBounds_toArray, List.set_cons_succ, List.set_cons_zero]; rfl) ?_) | (refine wpList_load_field rfl (by first | rfl | (simp only [Region.wanted, yielded, *]; go_simp; done) | (simp [Region.wanted, yielded, *]; done) | fail) hO rfl _ (by first | exact at0 | exact at1 | exact at2) (by rfl) (by simp only [Act.put, List.setIfInBounds_toArray, List.set_cons_succ, List.set_cons_zero]; rfl) ?_))
    | ((with_reducible refine wpl_store ?_); first | (refine wpList_store_box rfl (by rfl) hO rfl _ (by first | exact at0 | exact at1 | exact at2) rfl (by rfl) (by rfl) (by rfl) (by rfl) (by rfl) ?_; clear hO; intro u hO; simp only [List.set_cons_zero, List.set_cons_succ] at hO) | (refine wpList_store_field rfl (by rfl) hO rfl _ (by first | exact at0 | exact at1 | exact at2) (Nat.le_of_ble_eq_true rfl) (by simp only [Act.eval, Array.getD_eq_getD_getElem?, List.getElem?_toArray, List.getElem?_cons_succ, List.getElem?_cons_zero, Option.getD_some]; rfl) (by rfl) (by rfl) (by rfl) ?_; clear hO; intro u hO; simp only [List.set_cons_zero, List.set_cons_succ] at hO))
    | ((with_reducible refine wpl_build ?_); refine wpList_build_list (cs := []) hO rfl (by rfl) [] (by rfl) (by rfl) rfl (Nat.le_of_ble_eq_true rfl) (by rfl) rfl (fun b => by simp only [Act.put, List.setIfInBounds_toArray, List.set_cons_succ, List.set_cons_zero]; rfl) ?_; clear hO; intro bb u hO; simp only [List.nil_append, List.cons_append] at hO)
    | ((with_reducible refine wpl_append ?_); refine wpList_append_box hO rfl (by rfl) rfl rfl _ (by first | exact at0 | exact at1 | exact at2 | exact at3) _ (by first | exact at0 | exact at1 | exact at2 | exact at3) (by rfl) (by simp [Value.oneCell']) (by omega) (by omega) rfl (fun A' c' => by simp only [Act.put, List.setIfInBounds_toArray, List.set_cons_succ, List.set_cons_zero]; rfl) ?_; clear hO; intro A' c' u hO; simp only [List.set_cons_zero, List.set_cons_succ] at hO)
    | fail)
  refine (draw_below 6 (by decide) (by decide) h ⟨i, z, hi, hO⟩).mono ?_
  clear hO hi i z
  rintro e u ⟨x, rfl, hx, i, z, hi, hO⟩
  replace hO := hO.frontB 1 rfl
  simp only [List.eraseIdx_cons_zero, List.eraseIdx_cons_succ] at hO
  replace hO := hO.box_rowB 1 0 rfl (by decide)
  replace hO := hO.frontB 1 rfl
  simp only [List.eraseIdx_cons_zero, List.eraseIdx_cons_succ] at hO
  go_wp2_with fail
  go_loopw [5, 6] (fun s k u => ∃ (m q : Nat) (A' : Option Addr) (c' i : Nat) (z : Int) (zs : List ByteArray), q ≤ 5 ∧ m + q ≤ 5 ∧ k = .int .i64 q ∧ s = .slice A' m c' ∧ i ≤ n ∧ zs.length = m ∧ Hid (∀ y ∈ zs, y.size ≤ 24) ∧ Own w0 [box b 82 [.slice A n c, .int .i64 i, .int .i64 z], row 9 1 (.slice A' m c') m (stc zs)] u) (fun _ k _ => (intOf k).toNat)
  case atStart => exact ⟨0, x, _, _, i, z, [], by omega, by omega, rfl, rfl, hi, rfl, Lib.hid (by simp), hO⟩
  case round =>
    clear hO hi hx i z
    obtain ⟨m, q, A', c', i, z, zs, hq, hmq, rfl, rfl, hi, hzl, HB, hO⟩ := hrel
    by_cases h0 : q = 0
    · subst h0
      go_wp2_with fail
      go_ret
      exact ⟨_, _, _, zs, rfl, hzl, by omega, HB.out, (hO.pickB [1] (by decide))⟩
    · have g0 : (0 : Int) < (q : Int) := by omega
      have HZ := Lib.hid hzl
      clear hzl h0
      go_wp2_with fail
      refine (draw_word h ⟨i, z, hi, hO⟩).mono ?_
      clear hO hi i z
      rintro e u ⟨y, rfl, hy, i, z, hi, hO⟩
      have HY := Lib.hid hy
      clear hy
      go_wp2_with (first
        | ((with_reducible refine wpl_alloc ?_); refine wpList_alloc_own rfl (by rfl) hO rfl (fun b => by simp only [Act.put, List.setIfInBounds_toArray, List.set_cons_succ, List.set_cons_zero]; rfl) ?_; (first | (refine nm 0 rfl ?_; clear hO; intro b0 u hO) | (refine nm 1 rfl ?_; clear hO; intro b1 u hO) | (refine nm 2 rfl ?_; clear hO; intro b2 u hO)); simp only [List.nil_append, List.cons_append] at hO)
        | ((with_reducible refine wpl_box ?_); refine wpList_box_own rfl (by rfl) hO rfl rfl (fun b => by simp only [Act.put, List.setIfInBounds_toArray, List.set_cons_succ, List.set_cons_zero]; rfl) ?_; (first | (refine nm 0 rfl ?_; clear hO; intro b0 u hO) | (refine nm 1 rfl ?_; clear hO; intro b1 u hO) | (refine nm 2 rfl ?_; clear hO; intro b2 u hO)); simp only [List.nil_append, List.cons_append] at hO)
        | ((with_reducible refine wpl_load ?_); first | (refine wpList_load_box rfl (by first | rfl | (simp only [Region.wanted, yielded, *]; go_simp; done) | (simp [Region.wanted, yielded, *]; done) | fail) hO rfl _ (by first | exact at0 | exact at1 | exact at2) (by rfl) (by simp only [Act.put, List.setIfInBounds_toArray, List.set_cons_succ, List.set_cons_zero]; rfl) ?_) | (refine wpList_load_field rfl (by first | rfl | (simp only [Region.wanted, yielded, *]; go_simp; done) | (simp [Region.wanted, yielded, *]; done) | fail) hO rfl _ (by first | exact at0 | exact at1 | exact at2) (by rfl) (by simp only [Act.put, List.setIfInBounds_toArray, List.set_cons_succ, List.set_cons_zero]; rfl) ?_))
        | ((with_reducible refine wpl_store ?_); first | (refine wpList_store_box rfl (by rfl) hO rfl _ (by first | exact at0 | exact at1 | exact at2) rfl (by rfl) (by rfl) (by rfl) (by rfl) (by rfl) ?_; clear hO; intro u hO; simp only [List.set_cons_zero, List.set_cons_succ] at hO) | (refine wpList_store_field rfl (by rfl) hO rfl _ (by first | exact at0 | exact at1 | exact at2) (Nat.le_of_ble_eq_true rfl) (by simp only [Act.eval, Array.getD_eq_getD_getElem?, List.getElem?_toArray, List.getElem?_cons_succ, List.getElem?_cons_zero, Option.getD_some]; rfl) (by rfl) (by rfl) (by rfl) ?_; clear hO; intro u hO; simp only [List.set_cons_zero, List.set_cons_succ] at hO))
        | ((with_reducible refine wpl_build ?_); refine wpList_build_list (cs := []) hO rfl (by rfl) [] (by rfl) (by rfl) rfl (Nat.le_of_ble_eq_true rfl) (by rfl) rfl (fun b => by simp only [Act.put, List.setIfInBounds_toArray, List.set_cons_succ, List.set_cons_zero]; rfl) ?_; clear hO; intro bb u hO; simp only [List.nil_append, List.cons_append] at hO)
        | ((with_reducible refine wpl_build ?_); refine wpList_build_one (cs := [.string y]) hO rfl (by rfl) (by simp only [Act.eval, Array.getD_eq_getD_getElem?, List.getElem?_toArray, List.getElem?_cons_succ, List.getElem?_cons_zero, Option.getD_some]; rfl) rfl rfl (Nat.le_of_ble_eq_true rfl) rfl (fun b => by simp only [Act.put, List.setIfInBounds_toArray, List.set_cons_succ, List.set_cons_zero]; rfl) ?_; clear hO; intro bb u hO; simp only [List.nil_append, List.cons_append] at hO)
        | ((with_reducible refine wpl_append ?_); refine wpList_append_box hO rfl (by rfl) rfl rfl _ (by first | exact at0 | exact at1 | exact at2 | exact at3) _ (by first | exact at0 | exact at1 | exact at2 | exact at3) (by rfl) (by simp [Value.oneCell']) (by omega) (by omega) rfl (fun A' c' => by simp only [Act.put, List.setIfInBounds_toArray, List.set_cons_succ, List.set_cons_zero]; rfl) ?_; clear hO; intro A' c' u hO; simp only [List.set_cons_zero, List.set_cons_succ] at hO)
        | fail)
      replace hO := hO.pickB [0, 1] (by decide)
      simp only [List.filterMap_cons, List.filterMap_nil, List.getElem?_cons_zero, List.getElem?_cons_succ] at hO
      go_roundw
      case rel => exact ⟨m + 1, q - 1, _, _, i, z, zs ++ [y], by omega, by omega, congrArg (Value.int .i64) (by omega), rfl, hi, by simp [HZ.out], Lib.hid (fun x hx => by
          rcases List.mem_append.1 hx with hx | hx
          · exact HB.out x hx
          · rw [List.mem_singleton.1 hx]; exact HY.out), by rw [stc_appB]; exact hO⟩
      case measure => simp [intOf]; omega

theorem draw_joinF (A : Option Addr) (n c : Nat) (l : List Int) (w : World) (h : Cod w A n l) :
    Calls Try.prog 64 #[.slice A n c] w fun e w' => ∃ A' m c' zs, e = .returned (.slice A' m c') ∧ List.length zs = m ∧ m ≤ 5 ∧ (∀ y ∈ zs, ByteArray.size y ≤ 24) ∧ Own w [row 9 1 (.slice A' m c') m (stc zs)] w' := by
  go_enter Try.func64, Try.ntmps64
  go_wp2_with fail
  refine (draw_new A n c l _ h).mono ?_
  rintro e u ⟨b, rfl, hR⟩
  go_wp2_with fail
  refine (draw_words5 h hR).mono ?_
  rintro e u ⟨A', m, c', zs, rfl, h1, h2, h3, h4⟩
  go_wp2_with fail
  go_ret
  exact ⟨A', m, c', zs, rfl, h1, h2, h3, h4⟩

end Go.Proofs.Ytncmekbfmgcbnaa
