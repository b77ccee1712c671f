/-
  What is proved: the statement on the laws of three-valued logic (FnLogic).
  Condition: none.
-/
import Derived.Test.YtncmekbfmgcbnaaDr
import Derived.Test.YtncmekbfmgcbnaaLogic
import Derived.Test.YtncmekbfmgcbnaaOwnC
namespace Go.Proofs.Ytncmekbfmgcbnaa
open Go.RowKit Go.ChangeShapes Go.WideShapes Go.Deep
set_option linter.unusedVariables false
set_option linter.unusedSimpArgs false

theorem laws_big (A : Option Addr) (n c : Nat) (w : World) (hn : n ≤ 9223372036854775807) : Calls Try.prog 22 #[.slice A n c] w fun e w' => e = .returned (.bool (decide (1048576 < n))) ∧ w = w' := by
  by_cases h : 1048576 < n
  · have q1 : (1048576 : Int) < n := by omega
    go_enter Try.func22, Try.ntmps22
    go_wp2
    go_ret
    exact ⟨ret_bool (by simp [h]), rfl⟩
  · have q1 : ¬ (1048576 : Int) < n := by omega
    go_enter Try.func22, Try.ntmps22
    go_wp2
    go_ret
    exact ⟨ret_bool (by simp [h]), rfl⟩

/-- the test of size: codes that are too long are passed by -/
theorem big_cases {w : World} {v : Value} (h : ArgBytes w v) : ∃ A n c, v = .slice A n c ∧ ((∀ u, Calls Try.prog 22 #[.slice A n c] u fun e w' => e = .returned (.bool true) ∧ u = w') ∨ ((∀ u, Calls Try.prog 22 #[.slice A n c] u fun e w' => e = .returned (.bool false) ∧ u = w') ∧ ∃ l, Cod w A n l)) := by
  obtain ⟨A, n, c, l, rfl, hn, hs, hb⟩ := h
  refine ⟨A, n, c, rfl, ?_⟩
  by_cases h : 1048576 < n
  · left
    intro u
    have := laws_big A n c u hn
    rw [decide_eq_true h] at this
    exact this
  · right
    refine ⟨fun u => ?_, l, hs, by omega, by have := hs.len; simpa [bys] using this, hb⟩
    have := laws_big A n c u hn
    rw [decide_eq_false h] at this
    exact this

theorem notL_two (x : Int) : notL x = 0 ∨ notL x = 1 ∨ notL x = 2 := by unfold notL; split; · simp
                                                                        split <;> simp
theorem logic_and (x y : Int) : (andL x y == notL (orL (notL x) (notL y))) = true := by
  by_cases x0 : x = 0 <;> by_cases x1 : x = 1 <;> by_cases y0 : y = 0 <;> by_cases y1 : y = 1 <;> simp_all [andL, notL, orL]
theorem logic_or (x y : Int) : (orL x y == orL y x) = true := by
  by_cases x0 : x = 0 <;> by_cases x1 : x = 1 <;> by_cases y0 : y = 0 <;> by_cases y1 : y = 1 <;> simp_all [orL]
theorem logic_xor (x y : Int) : (xorL x y == orL (andL x (notL y)) (andL (notL x) y)) = true := by
  have hx : (x < 0 ∨ x > 1) ∨ x = 0 ∨ x = 1 := by omega
  have hy : (y < 0 ∨ y > 1) ∨ y = 0 ∨ y = 1 := by omega
  rcases hx with hx | rfl | rfl <;> rcases hy with hy | rfl | rfl
  · have a0 : ¬ x = 0 := by omega
    have a1 : ¬ x = 1 := by omega
    have b0 : ¬ y = 0 := by omega
    have b1 : ¬ y = 1 := by omega
    have c : x < 0 ∨ x > 1 ∨ y < 0 ∨ y > 1 := by omega
    simp [xorL, orL, andL, notL, a0, a1, b0, b1, c]
  · have a0 : ¬ x = 0 := by omega
    have a1 : ¬ x = 1 := by omega
    have c : x < 0 ∨ x > 1 := by omega
    simp [xorL, orL, andL, notL, a0, a1, c]
  · have a0 : ¬ x = 0 := by omega
    have a1 : ¬ x = 1 := by omega
    have c : x < 0 ∨ x > 1 := by omega
    simp [xorL, orL, andL, notL, a0, a1, c]
  · have b0 : ¬ y = 0 := by omega
    have b1 : ¬ y = 1 := by omega
    have c : y < 0 ∨ y > 1 := by omega
    simp [xorL, orL, andL, notL, b0, b1, c]
  · decide
  · decide
  · have b0 : ¬ y = 0 := by omega
    have b1 : ¬ y = 1 := by omega
    have c : y < 0 ∨ y > 1 := by omega
    simp [xorL, orL, andL, notL, b0, b1, c]
  · decide
  · decide

theorem norm_cases (x : Int) : (x = 0 ∨ x = 1 ∨ x = 2) → notL (notL x) = x := by rintro (rfl | rfl | rfl) <;> decide
theorem or_neg (a x : Int) : orL (notL a) (notL x) = notL (andL a x) := by
  by_cases x0 : a = 0 <;> by_cases x1 : a = 1 <;> by_cases y0 : x = 0 <;> by_cases y1 : x = 1 <;> simp_all [andL, notL, orL]
theorem fold_neg (zs : List Int) : ∀ (a : Int), (zs.map notL).foldl orL (notL a) = notL (zs.foldl andL a) := by
  induction zs with
  | nil => intro a; rfl
  | cons x zs ih =>
    intro a
    simp only [List.map_cons, List.foldl_cons]
    rw [or_neg, ih]
theorem logic_fold (zs : List Int) (n : Nat) (h : zs.length = n) : (anyF (zs.map notL) n == notL (allF zs n)) = true := by
  subst h
  unfold anyF allF
  rw [List.take_of_length_le (by simp), List.take_length]
  have := fold_neg zs 1
  rw [show notL 1 = 0 from rfl] at this
  rw [this]
  simp

theorem ints_notB {zs : List Int} {k : Nat} (h : k < zs.length) : ints ((zs.take (k + 1)).map notL) = ints ((zs.take k).map notL) ++ [.int .i64 (notL zs[k])] := by
  rw [List.take_succ_eq_append_getElem h, List.map_append, ints_appB]
  rfl
theorem Sl.ntB {w : World} {A : Option Addr} {l : List Int} {n : Nat} (h : Sl w 1 A n (ints l)) {i : Nat} (hi : i < n) (hl : i < l.length) : ∃ b off, A = some ⟨b, off, none⟩ ∧ b < w.heap.size ∧ w.cell? ⟨b, off + i, none⟩ = some (.int .i64 (l[i]'hl)) := by
  obtain ⟨b, off, e, hlt, hc⟩ := h.cell1 hi
  refine ⟨b, off, e, hlt, ?_⟩
  rw [hc]
  simp [ints, List.getD_eq_getElem?_getD, hl]



set_option maxRecDepth 20000 in
set_option maxHeartbeats 4000000 in
theorem fnLogic_walk (v0 : Value) (w : World) (h0 : ArgBytes w v0) : Calls Try.prog 5 #[v0] w fun e w' => e = .returned (.bool true) ∧ Below w.heap.size w w' := by
  obtain ⟨A, n, c, rfl, CB | ⟨CB, l, hC⟩⟩ := big_cases h0
  · go_enter Try.func5, Try.ntmps5
    go_wp2_with fail
    refine (CB _).mono ?_
    rintro e u ⟨rfl, rfl⟩
    go_wp2_with fail
    go_ret
    exact ⟨rfl, Below.refl _ _⟩
  · go_enter Try.func5, Try.ntmps5
    have hO := Own.nil w
    go_wp2_with fail
    refine (CB _).mono ?_
    rintro e u ⟨rfl, rfl⟩
    go_wp2_with fail
    refine (draw_and A n c l _ hC).mono ?_
    rintro e u ⟨x, y, rfl, hB⟩
    replace hO := hO.step hB
    go_wp2_with fail
    refine (draw_all A n c l _ (hC.below hB)).mono ?_
    clear hB
    rintro e u ⟨A', m, c', zs, rfl, hzl, hm, hb⟩
    replace hO := hO.call hb
    clear hb CB
    simp only [List.cons_append, List.nil_append] at hO
    have HZ := Lib.hid hzl
    have q1 := logic_and x y
    have q2 := logic_or x y
    have q3 := logic_xor x y
    have q6 := Lib.hid (logic_fold zs m hzl)
    clear hzl hC
    go_wp2_with (first
      | ((with_reducible refine wpl_alloc ?_); refine wpList_alloc_own rfl (by rfl) hO rfl (fun b => by simp only [Act.put, List.setIfInBounds_toArray, List.set_cons_succ, List.set_cons_zero]; rfl) ?_; (first | (refine nm 0 rfl ?_; clear hO; intro b0 u hO) | (refine nm 1 rfl ?_; clear hO; intro b1 u hO) | (refine nm 2 rfl ?_; clear hO; intro b2 u hO)); simp only [List.nil_append, List.cons_append] at hO)
      | ((with_reducible refine wpl_box ?_); refine wpList_box_own rfl (by rfl) hO rfl rfl (fun b => by simp only [Act.put, List.setIfInBounds_toArray, List.set_cons_succ, List.set_cons_zero]; rfl) ?_; (first | (refine nm 0 rfl ?_; clear hO; intro b0 u hO) | (refine nm 1 rfl ?_; clear hO; intro b1 u hO) | (refine nm 2 rfl ?_; clear hO; intro b2 u hO)); simp only [List.nil_append, List.cons_append] at hO)
      | ((with_reducible refine wpl_load ?_); first | (refine wpList_load_box rfl (by first | rfl | (simp only [Region.wanted, yielded, *]; go_simp; done) | (simp [Region.wanted, yielded, *]; done) | fail) hO rfl _ (by first | exact at0 | exact at1 | exact at2) (by rfl) (by simp only [Act.put, List.setIfInBounds_toArray, List.set_cons_succ, List.set_cons_zero]; rfl) ?_) | (refine wpList_load_field rfl (by first | rfl | (simp only [Region.wanted, yielded, *]; go_simp; done) | (simp [Region.wanted, yielded, *]; done) | fail) hO rfl _ (by first | exact at0 | exact at1 | exact at2) (by rfl) (by simp only [Act.put, List.setIfInBounds_toArray, List.set_cons_succ, List.set_cons_zero]; rfl) ?_))
      | ((with_reducible refine wpl_store ?_); first | (refine wpList_store_box rfl (by rfl) hO rfl _ (by first | exact at0 | exact at1 | exact at2) rfl (by rfl) (by rfl) (by rfl) (by rfl) (by rfl) ?_; clear hO; intro u hO; simp only [List.set_cons_zero, List.set_cons_succ] at hO) | (refine wpList_store_field rfl (by rfl) hO rfl _ (by first | exact at0 | exact at1 | exact at2) (Nat.le_of_ble_eq_true rfl) (by simp only [Act.eval, Array.getD_eq_getD_getElem?, List.getElem?_toArray, List.getElem?_cons_succ, List.getElem?_cons_zero, Option.getD_some]; rfl) (by rfl) (by rfl) (by rfl) ?_; clear hO; intro u hO; simp only [List.set_cons_zero, List.set_cons_succ] at hO))
      | ((with_reducible refine wpl_call ?_); first | (refine wpList_append_str hO rfl (by rfl) rfl rfl _ (by first | exact at0 | exact at1 | exact at2) (by omega) rfl (fun A' c' => by simp only [Act.put, List.setIfInBounds_toArray, List.set_cons_succ, List.set_cons_zero]; rfl) ?_; clear hO; intro A' c' u hO; simp only [List.set_cons_zero, List.set_cons_succ] at hO) | (refine wpList_append_lit hO rfl (by rfl) rfl rfl _ (by first | exact at0 | exact at1 | exact at2) (by rfl) (by simp [Value.oneCell']) (by omega) (by omega) rfl (fun A' c' => by simp only [Act.put, List.setIfInBounds_toArray, List.set_cons_succ, List.set_cons_zero]; rfl) ?_; clear hO; intro A' c' u hO; simp only [List.set_cons_zero, List.set_cons_succ] at hO))
      | ((with_reducible refine wpl_build ?_); refine wpList_build_list (cs := []) hO rfl (by rfl) [] (by rfl) (by rfl) rfl (Nat.le_of_ble_eq_true rfl) (by rfl) rfl (fun b => by simp only [Act.put, List.setIfInBounds_toArray, List.set_cons_succ, List.set_cons_zero]; rfl) ?_; clear hO; intro bb u hO; simp only [List.nil_append, List.cons_append] at hO)
      | ((with_reducible refine wpl_append ?_); refine wpList_append_box hO rfl (by rfl) rfl rfl _ (by first | exact at0 | exact at1 | exact at2 | exact at3) _ (by first | exact at0 | exact at1 | exact at2 | exact at3) (by rfl) (by simp [Value.oneCell']) (by omega) (by omega) rfl (fun A' c' => by simp only [Act.put, List.setIfInBounds_toArray, List.set_cons_succ, List.set_cons_zero]; rfl) ?_; clear hO; intro A' c' u hO; simp only [List.set_cons_zero, List.set_cons_succ] at hO)
      | fail)
    replace hO := hO.frontB 1 rfl
    simp only [List.eraseIdx_cons_zero, List.eraseIdx_cons_succ] at hO
    replace hO := hO.box_rowB 1 0 rfl (by decide)
    replace hO := hO.frontB 1 rfl
    simp only [List.eraseIdx_cons_zero, List.eraseIdx_cons_succ] at hO
    go_loopw [6, 7, 8, 9] (fun ng al so i u => ∃ (k : Nat) (B' : Option Addr) (d' : Nat), k ≤ m ∧ i = .int .i64 k ∧ al = .int .i64 (allF zs k) ∧ so = .int .i64 (anyF zs k) ∧ ng = .slice B' k d' ∧ Own w [row 3 1 (.slice A' m c') m (ints zs), row 3 1 (.slice B' k d') k (ints ((zs.take k).map notL))] u) (fun _ _ _ i _ => m - (intOf i).toNat)
    case atStart => exact ⟨0, _, _, Nat.zero_le _, rfl, rfl, rfl, rfl, hO⟩
    case round =>
      clear hO
      obtain ⟨k, B', d', hk, rfl, rfl, rfl, rfl, hO⟩ := hrel
      by_cases hlt : k < m
      · have hkl : k < zs.length := by rw [HZ.out]; exact hlt
        have HS := Lib.hid (ints_notB hkl)
        have H1 := Lib.hid (allF_succ hkl)
        have H2 := Lib.hid (anyF_succ hkl)
        have HG := Lib.hid (show zs[k]?.getD 0 = zs[k] by simp [hkl])
        obtain ⟨b, off, rfl, hb, d0⟩ := (hO.row_sl 0 rfl).ntB hlt hkl
        rw [HG.out] at H1 H2
        obtain ⟨z, hz⟩ : ∃ z, zs[k] = z := ⟨_, rfl⟩
        have HZZ := Lib.hid hz
        rw [hz] at d0 HS H1 H2
        clear hz HG
        obtain ⟨p, hp⟩ : ∃ p, allF zs k = p := ⟨_, rfl⟩
        obtain ⟨q, hq⟩ : ∃ q, anyF zs k = q := ⟨_, rfl⟩
        rw [hp] at H1
        rw [hq] at H2
        rw [hp, hq]
        clear hp hq
        have i1 : (0 : Int) ≤ (k : Int) := by omega
        have i2 : (k : Int) < (m : Int) := by omega
        go_upto_region 12 with (first
          | ((with_reducible refine (impl_not _ _).mono ?_); rintro e u ⟨rfl, hb⟩; first | (replace hO := hO.step hb; clear hb) | subst hb)
          | ((with_reducible refine wpl_alloc ?_); refine wpList_alloc_own rfl (by rfl) hO rfl (fun b => by simp only [Act.put, List.setIfInBounds_toArray, List.set_cons_succ, List.set_cons_zero]; rfl) ?_; (first | (refine nm 0 rfl ?_; clear hO; intro b0 u hO) | (refine nm 1 rfl ?_; clear hO; intro b1 u hO) | (refine nm 2 rfl ?_; clear hO; intro b2 u hO)); simp only [List.nil_append, List.cons_append] at hO)
          | ((with_reducible refine wpl_box ?_); refine wpList_box_own rfl (by rfl) hO rfl rfl (fun b => by simp only [Act.put, List.setIfInBounds_toArray, List.set_cons_succ, List.set_cons_zero]; rfl) ?_; (first | (refine nm 0 rfl ?_; clear hO; intro b0 u hO) | (refine nm 1 rfl ?_; clear hO; intro b1 u hO) | (refine nm 2 rfl ?_; clear hO; intro b2 u hO)); simp only [List.nil_append, List.cons_append] at hO)
          | ((with_reducible refine wpl_load ?_); first | (refine wpList_load_box rfl (by first | rfl | (simp only [Region.wanted, yielded, *]; go_simp; done) | (simp [Region.wanted, yielded, *]; done) | fail) hO rfl _ (by first | exact at0 | exact at1 | exact at2) (by rfl) (by simp only [Act.put, List.setIfInBounds_toArray, List.set_cons_succ, List.set_cons_zero]; rfl) ?_) | (refine wpList_load_field rfl (by first | rfl | (simp only [Region.wanted, yielded, *]; go_simp; done) | (simp [Region.wanted, yielded, *]; done) | fail) hO rfl _ (by first | exact at0 | exact at1 | exact at2) (by rfl) (by simp only [Act.put, List.setIfInBounds_toArray, List.set_cons_succ, List.set_cons_zero]; rfl) ?_))
          | ((with_reducible refine wpl_store ?_); first | (refine wpList_store_box rfl (by rfl) hO rfl _ (by first | exact at0 | exact at1 | exact at2) rfl (by rfl) (by rfl) (by rfl) (by rfl) (by rfl) ?_; clear hO; intro u hO; simp only [List.set_cons_zero, List.set_cons_succ] at hO) | (refine wpList_store_field rfl (by rfl) hO rfl _ (by first | exact at0 | exact at1 | exact at2) (Nat.le_of_ble_eq_true rfl) (by simp only [Act.eval, Array.getD_eq_getD_getElem?, List.getElem?_toArray, List.getElem?_cons_succ, List.getElem?_cons_zero, Option.getD_some]; rfl) (by rfl) (by rfl) (by rfl) ?_; clear hO; intro u hO; simp only [List.set_cons_zero, List.set_cons_succ] at hO))
          | ((with_reducible refine wpl_call ?_); first | (refine wpList_append_str hO rfl (by rfl) rfl rfl _ (by first | exact at0 | exact at1 | exact at2) (by omega) rfl (fun A' c' => by simp only [Act.put, List.setIfInBounds_toArray, List.set_cons_succ, List.set_cons_zero]; rfl) ?_; clear hO; intro A' c' u hO; simp only [List.set_cons_zero, List.set_cons_succ] at hO) | (refine wpList_append_lit hO rfl (by rfl) rfl rfl _ (by first | exact at0 | exact at1 | exact at2) (by rfl) (by simp [Value.oneCell']) (by omega) (by omega) rfl (fun A' c' => by simp only [Act.put, List.setIfInBounds_toArray, List.set_cons_succ, List.set_cons_zero]; rfl) ?_; clear hO; intro A' c' u hO; simp only [List.set_cons_zero, List.set_cons_succ] at hO))
          | ((with_reducible refine wpl_build ?_); refine wpList_build_list (cs := []) hO rfl (by rfl) [] (by rfl) (by rfl) rfl (Nat.le_of_ble_eq_true rfl) (by rfl) rfl (fun b => by simp only [Act.put, List.setIfInBounds_toArray, List.set_cons_succ, List.set_cons_zero]; rfl) ?_; clear hO; intro bb u hO; simp only [List.nil_append, List.cons_append] at hO)
          | ((with_reducible refine wpl_build ?_); refine wpList_build_one (cs := [.int .i64 (notL z)]) hO rfl (by rfl) (by simp only [Act.eval, Array.getD_eq_getD_getElem?, List.getElem?_toArray, List.getElem?_cons_succ, List.getElem?_cons_zero, Option.getD_some]; rfl) rfl rfl (Nat.le_of_ble_eq_true rfl) rfl (fun b => by simp only [Act.put, List.setIfInBounds_toArray, List.set_cons_succ, List.set_cons_zero]; rfl) ?_; clear hO; intro bb u hO; simp only [List.nil_append, List.cons_append] at hO)
          | ((with_reducible refine wpl_append ?_); refine wpList_append_box hO rfl (by rfl) rfl rfl _ (by first | exact at0 | exact at1 | exact at2 | exact at3) _ (by first | exact at0 | exact at1 | exact at2 | exact at3) (by rfl) (by simp [Value.oneCell']) (by omega) (by omega) rfl (fun A' c' => by simp only [Act.put, List.setIfInBounds_toArray, List.set_cons_succ, List.set_cons_zero]; rfl) ?_; clear hO; intro A' c' u hO; simp only [List.set_cons_zero, List.set_cons_succ] at hO)
          | fail)
        clear d0
        replace hO := hO.pickB [0, 1] (by decide)
        simp only [List.filterMap_cons, List.filterMap_nil, List.getElem?_cons_zero, List.getElem?_cons_succ] at hO
        rw [← HS.out] at hO
        obtain ⟨b', off', he, hb', d0⟩ := (hO.row_sl 0 rfl).ntB hlt hkl
        rw [HZZ.out] at d0
        simp only [Option.some.injEq, Addr.mk.injEq, and_true] at he
        obtain ⟨rfl, rfl⟩ := he
        go_wp2_with (first
          | ((with_reducible refine (impl_and _ _ _).mono ?_); rintro e u ⟨rfl, hb⟩; first | (replace hO := hO.step hb; clear hb) | subst hb)
          | ((with_reducible refine (impl_or _ _ _).mono ?_); rintro e u ⟨rfl, hb⟩; first | (replace hO := hO.step hb; clear hb) | subst hb)
          | ((with_reducible refine wpl_alloc ?_); refine wpList_alloc_own rfl (by rfl) hO rfl (fun b => by simp only [Act.put, List.setIfInBounds_toArray, List.set_cons_succ, List.set_cons_zero]; rfl) ?_; (first | (refine nm 0 rfl ?_; clear hO; intro b0 u hO) | (refine nm 1 rfl ?_; clear hO; intro b1 u hO) | (refine nm 2 rfl ?_; clear hO; intro b2 u hO)); simp only [List.nil_append, List.cons_append] at hO)
          | ((with_reducible refine wpl_box ?_); refine wpList_box_own rfl (by rfl) hO rfl rfl (fun b => by simp only [Act.put, List.setIfInBounds_toArray, List.set_cons_succ, List.set_cons_zero]; rfl) ?_; (first | (refine nm 0 rfl ?_; clear hO; intro b0 u hO) | (refine nm 1 rfl ?_; clear hO; intro b1 u hO) | (refine nm 2 rfl ?_; clear hO; intro b2 u hO)); simp only [List.nil_append, List.cons_append] at hO)
          | ((with_reducible refine wpl_load ?_); first | (refine wpList_load_box rfl (by first | rfl | (simp only [Region.wanted, yielded, *]; go_simp; done) | (simp [Region.wanted, yielded, *]; done) | fail) hO rfl _ (by first | exact at0 | exact at1 | exact at2) (by rfl) (by simp only [Act.put, List.setIfInBounds_toArray, List.set_cons_succ, List.set_cons_zero]; rfl) ?_) | (refine wpList_load_field rfl (by first | rfl | (simp only [Region.wanted, yielded, *]; go_simp; done) | (simp [Region.wanted, yielded, *]; done) | fail) hO rfl _ (by first | exact at0 | exact at1 | exact at2) (by rfl) (by simp only [Act.put, List.setIfInBounds_toArray, List.set_cons_succ, List.set_cons_zero]; rfl) ?_))
          | ((with_reducible refine wpl_store ?_); first | (refine wpList_store_box rfl (by rfl) hO rfl _ (by first | exact at0 | exact at1 | exact at2) rfl (by rfl) (by rfl) (by rfl) (by rfl) (by rfl) ?_; clear hO; intro u hO; simp only [List.set_cons_zero, List.set_cons_succ] at hO) | (refine wpList_store_field rfl (by rfl) hO rfl _ (by first | exact at0 | exact at1 | exact at2) (Nat.le_of_ble_eq_true rfl) (by simp only [Act.eval, Array.getD_eq_getD_getElem?, List.getElem?_toArray, List.getElem?_cons_succ, List.getElem?_cons_zero, Option.getD_some]; rfl) (by rfl) (by rfl) (by rfl) ?_; clear hO; intro u hO; simp only [List.set_cons_zero, List.set_cons_succ] at hO))
          | ((with_reducible refine wpl_call ?_); first | (refine wpList_append_str hO rfl (by rfl) rfl rfl _ (by first | exact at0 | exact at1 | exact at2) (by omega) rfl (fun A' c' => by simp only [Act.put, List.setIfInBounds_toArray, List.set_cons_succ, List.set_cons_zero]; rfl) ?_; clear hO; intro A' c' u hO; simp only [List.set_cons_zero, List.set_cons_succ] at hO) | (refine wpList_append_lit hO rfl (by rfl) rfl rfl _ (by first | exact at0 | exact at1 | exact at2) (by rfl) (by simp [Value.oneCell']) (by omega) (by omega) rfl (fun A' c' => by simp only [Act.put, List.setIfInBounds_toArray, List.set_cons_succ, List.set_cons_zero]; rfl) ?_; clear hO; intro A' c' u hO; simp only [List.set_cons_zero, List.set_cons_succ] at hO))
          | ((with_reducible refine wpl_build ?_); refine wpList_build_list (cs := []) hO rfl (by rfl) [] (by rfl) (by rfl) rfl (Nat.le_of_ble_eq_true rfl) (by rfl) rfl (fun b => by simp only [Act.put, List.setIfInBounds_toArray, List.set_cons_succ, List.set_cons_zero]; rfl) ?_; clear hO; intro bb u hO; simp only [List.nil_append, List.cons_append] at hO)
          | ((with_reducible refine wpl_build ?_); refine wpList_build_one (cs := [.int .i64 (notL z)]) hO rfl (by rfl) (by simp only [Act.eval, Array.getD_eq_getD_getElem?, List.getElem?_toArray, List.getElem?_cons_succ, List.getElem?_cons_zero, Option.getD_some]; rfl) rfl rfl (Nat.le_of_ble_eq_true rfl) rfl (fun b => by simp only [Act.put, List.setIfInBounds_toArray, List.set_cons_succ, List.set_cons_zero]; rfl) ?_; clear hO; intro bb u hO; simp only [List.nil_append, List.cons_append] at hO)
          | ((with_reducible refine wpl_append ?_); refine wpList_append_box hO rfl (by rfl) rfl rfl _ (by first | exact at0 | exact at1 | exact at2 | exact at3) _ (by first | exact at0 | exact at1 | exact at2 | exact at3) (by rfl) (by simp [Value.oneCell']) (by omega) (by omega) rfl (fun A' c' => by simp only [Act.put, List.setIfInBounds_toArray, List.set_cons_succ, List.set_cons_zero]; rfl) ?_; clear hO; intro A' c' u hO; simp only [List.set_cons_zero, List.set_cons_succ] at hO)
          | fail)
        go_roundw
        case rel => exact ⟨k + 1, _, _, by omega, by go_num, by rw [H1.out], by rw [H2.out], rfl, hO⟩
        case measure => simp [intOf]; omega
      · have hkn : k = m := by omega
        subst hkn
        have HT : Hid (zs.take k = zs) := Lib.hid (List.take_of_length_le (by rw [HZ.out]; omega))
        rw [HT.out] at hO
        have CA := impl_all A' k c' zs _ (hO.row_sl 0 rfl) (by omega)
        have CY := impl_any A' k c' zs _ (hO.row_sl 0 rfl) (by omega)
        have CN := impl_any B' k d' (zs.map notL) _ (hO.row_sl 1 rfl) (by omega)
        have q4 := q6.out
        obtain ⟨p, hp⟩ : ∃ p, allF zs k = p := ⟨_, rfl⟩
        obtain ⟨q, hq⟩ : ∃ q, anyF zs k = q := ⟨_, rfl⟩
        obtain ⟨r, hr⟩ : ∃ r, anyF (zs.map notL) k = r := ⟨_, rfl⟩
        rw [hp] at CA q4
        rw [hq] at CY
        rw [hr] at CN q4
        rw [hp, hq]
        clear hp hq hr
        go_wp2_with (first
          | ((with_reducible refine (impl_and _ _ _).mono ?_); rintro e u ⟨rfl, hb⟩; first | (replace hO := hO.step hb; clear hb) | subst hb)
          | ((with_reducible refine (impl_or _ _ _).mono ?_); rintro e u ⟨rfl, hb⟩; first | (replace hO := hO.step hb; clear hb) | subst hb)
          | ((with_reducible refine (impl_xor _ _ _).mono ?_); rintro e u ⟨rfl, hb⟩; first | (replace hO := hO.step hb; clear hb) | subst hb)
          | ((with_reducible refine (spec_not _ _).mono ?_); rintro e u ⟨rfl, hb⟩; first | (replace hO := hO.step hb; clear hb) | subst hb)
          | ((with_reducible refine (spec_and _ _ _).mono ?_); rintro e u ⟨rfl, hb⟩; first | (replace hO := hO.step hb; clear hb) | subst hb)
          | ((with_reducible refine (spec_or _ _ _).mono ?_); rintro e u ⟨rfl, hb⟩; first | (replace hO := hO.step hb; clear hb) | subst hb)
          | ((with_reducible refine (CA).mono ?_); rintro e u ⟨rfl, hb⟩; first | (replace hO := hO.step hb; clear hb) | subst hb)
          | ((with_reducible refine (CY).mono ?_); rintro e u ⟨rfl, hb⟩; first | (replace hO := hO.step hb; clear hb) | subst hb)
          | ((with_reducible refine (CN).mono ?_); rintro e u ⟨rfl, hb⟩; first | (replace hO := hO.step hb; clear hb) | subst hb)
          | ((with_reducible refine wpl_alloc ?_); refine wpList_alloc_own rfl (by rfl) hO rfl (fun b => by simp only [Act.put, List.setIfInBounds_toArray, List.set_cons_succ, List.set_cons_zero]; rfl) ?_; (first | (refine nm 0 rfl ?_; clear hO; intro b0 u hO) | (refine nm 1 rfl ?_; clear hO; intro b1 u hO) | (refine nm 2 rfl ?_; clear hO; intro b2 u hO)); simp only [List.nil_append, List.cons_append] at hO)
          | ((with_reducible refine wpl_box ?_); refine wpList_box_own rfl (by rfl) hO rfl rfl (fun b => by simp only [Act.put, List.setIfInBounds_toArray, List.set_cons_succ, List.set_cons_zero]; rfl) ?_; (first | (refine nm 0 rfl ?_; clear hO; intro b0 u hO) | (refine nm 1 rfl ?_; clear hO; intro b1 u hO) | (refine nm 2 rfl ?_; clear hO; intro b2 u hO)); simp only [List.nil_append, List.cons_append] at hO)
          | ((with_reducible refine wpl_load ?_); first | (refine wpList_load_box rfl (by first | rfl | (simp only [Region.wanted, yielded, *]; go_simp; done) | (simp [Region.wanted, yielded, *]; done) | fail) hO rfl _ (by first | exact at0 | exact at1 | exact at2) (by rfl) (by simp only [Act.put, List.setIfInBounds_toArray, List.set_cons_succ, List.set_cons_zero]; rfl) ?_) | (refine wpList_load_field rfl (by first | rfl | (simp only [Region.wanted, yielded, *]; go_simp; done) | (simp [Region.wanted, yielded, *]; done) | fail) hO rfl _ (by first | exact at0 | exact at1 | exact at2) (by rfl) (by simp only [Act.put, List.setIfInBounds_toArray, List.set_cons_succ, List.set_cons_zero]; rfl) ?_))
          | ((with_reducible refine wpl_store ?_); first | (refine wpList_store_box rfl (by rfl) hO rfl _ (by first | exact at0 | exact at1 | exact at2) rfl (by rfl) (by rfl) (by rfl) (by rfl) (by rfl) ?_; clear hO; intro u hO; simp only [List.set_cons_zero, List.set_cons_succ] at hO) | (refine wpList_store_field rfl (by rfl) hO rfl _ (by first | exact at0 | exact at1 | exact at2) (Nat.le_of_ble_eq_true rfl) (by simp only [Act.eval, Array.getD_eq_getD_getElem?, List.getElem?_toArray, List.getElem?_cons_succ, List.getElem?_cons_zero, Option.getD_some]; rfl) (by rfl) (by rfl) (by rfl) ?_; clear hO; intro u hO; simp only [List.set_cons_zero, List.set_cons_succ] at hO))
          | ((with_reducible refine wpl_call ?_); first | (refine wpList_append_str hO rfl (by rfl) rfl rfl _ (by first | exact at0 | exact at1 | exact at2) (by omega) rfl (fun A' c' => by simp only [Act.put, List.setIfInBounds_toArray, List.set_cons_succ, List.set_cons_zero]; rfl) ?_; clear hO; intro A' c' u hO; simp only [List.set_cons_zero, List.set_cons_succ] at hO) | (refine wpList_append_lit hO rfl (by rfl) rfl rfl _ (by first | exact at0 | exact at1 | exact at2) (by rfl) (by simp [Value.oneCell']) (by omega) (by omega) rfl (fun A' c' => by simp only [Act.put, List.setIfInBounds_toArray, List.set_cons_succ, List.set_cons_zero]; rfl) ?_; clear hO; intro A' c' u hO; simp only [List.set_cons_zero, List.set_cons_succ] at hO))
          | ((with_reducible refine wpl_build ?_); refine wpList_build_list (cs := []) hO rfl (by rfl) [] (by rfl) (by rfl) rfl (Nat.le_of_ble_eq_true rfl) (by rfl) rfl (fun b => by simp only [Act.put, List.setIfInBounds_toArray, List.set_cons_succ, List.set_cons_zero]; rfl) ?_; clear hO; intro bb u hO; simp only [List.nil_append, List.cons_append] at hO)
          | ((with_reducible refine wpl_build ?_); refine wpList_build_one (cs := [.int .i64 (notL z)]) hO rfl (by rfl) (by simp only [Act.eval, Array.getD_eq_getD_getElem?, List.getElem?_toArray, List.getElem?_cons_succ, List.getElem?_cons_zero, Option.getD_some]; rfl) rfl rfl (Nat.le_of_ble_eq_true rfl) rfl (fun b => by simp only [Act.put, List.setIfInBounds_toArray, List.set_cons_succ, List.set_cons_zero]; rfl) ?_; clear hO; intro bb u hO; simp only [List.nil_append, List.cons_append] at hO)
          | ((with_reducible refine wpl_append ?_); refine wpList_append_box hO rfl (by rfl) rfl rfl _ (by first | exact at0 | exact at1 | exact at2 | exact at3) _ (by first | exact at0 | exact at1 | exact at2 | exact at3) (by rfl) (by simp [Value.oneCell']) (by omega) (by omega) rfl (fun A' c' => by simp only [Act.put, List.setIfInBounds_toArray, List.set_cons_succ, List.set_cons_zero]; rfl) ?_; clear hO; intro A' c' u hO; simp only [List.set_cons_zero, List.set_cons_succ] at hO)
          | fail)
        go_ret
        exact ⟨rfl, hO.below⟩

end Go.Proofs.Ytncmekbfmgcbnaa
