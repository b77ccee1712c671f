/-
  What is proved: the reference's constructors of logical and of number vectors.
  Condition: none beyond those of the theorems.
-/
import Derived.Test.YtmofcbpabdbjlaaMv
import Derived.Deep.Cut
namespace Go.Proofs.Ytmofcbpabdbjlaa
set_option maxRecDepth 8000
open Go.RowKit Go.ChangeShapes Go.WideShapes
set_option linter.unusedVariables false
set_option linter.unusedSimpArgs false

theorem spec_num (z : Int) (w : World) : Calls Try.prog 150 #[.int .i64 z] w fun e w' => e = .returned (.agg #[.int .i64 z, .int .i64 1, .string ⟨#[]⟩]) ∧ Below w.heap.size w w' := by
  go_enter Try.func150, Try.ntmps150
  have hO := Own.nil w
  go_wp2_with (first
    | ((with_reducible refine wpl_alloc ?_); refine wpList_alloc_own rfl (by rfl) hO rfl (fun b => by simp only [Act.put, zA, zB, zC]; rfl) ?_; (refine nm 0 rfl ?_; clear hO; intro b0 u hO); simp only [zL, zK] at hO)
    | ((with_reducible refine wpl_store ?_); refine wpList_store_box rfl (by rfl) hO rfl _ (by exact at0) rfl (by rfl) (by rfl) (by rfl) (by rfl) (by rfl) ?_; clear hO; intro u hO; simp only [zC, zB] at hO)
    | fail)
  exact ret_box rfl hO rfl 0 rfl rfl rfl ⟨rfl, hO.below⟩

set_option maxHeartbeats 2000000 in
theorem spec_logicalVec (A : Option Addr) (n c : Nat) (zs : List Int) (w : World) (h : Sl w 1 A n (ints zs)) (hn : n ≤ 9223372036854775807) : Calls Try.prog 86 #[.slice A n c] w (RetV (lvT zs) w) := by
  have hl : zs.length = n := by have := h.len; simpa [ints] using this
  by_cases g : 40 < n
  · have HE : Hid (lvT zs = vecI 0 []) := Lib.hid (by unfold lvT; rw [if_neg (by omega)])
    clear hl
    go_enter Try.func86, Try.ntmps86
    have hO := Own.nil w
    go_wp2_with (first
      | ((with_reducible refine wpl_alloc ?_); refine wpList_alloc_own rfl (by rfl) hO rfl (fun b => by simp only [Act.put, zA, zB, zC]; rfl) ?_; (first | (refine nm 0 rfl ?_; clear hO; intro b0 u hO) | (refine nm 1 rfl ?_; clear hO; intro b1 u hO) | fail); simp only [zL, zK] at hO)
      | ((with_reducible refine wpl_store ?_); refine wpList_store_box rfl (by rfl) hO rfl _ (by exact at1) rfl (by rfl) (by rfl) (by rfl) (by rfl) (by rfl) ?_; clear hO; intro u hO; simp only [zC, zB] at hO)
      | fail)
    go_loopw [4] (fun i u => i = .int .i64 0 ∧ Own w [box b0 29 [.int .i64 0, .slice none 0 0, .slice none 0 0, .slice none 0 0, .slice none 0 0, .slice none 0 0, .int .i64 0, .int .i64 0], box b1 29 [.int .i64 1, .slice none 0 0, .slice none 0 0, .slice none 0 0, .slice none 0 0, .slice none 0 0, .int .i64 0, .int .i64 0]] u) (fun i _ => 0)
    case atStart => exact ⟨rfl, hO⟩
    case round =>
      clear hO
      obtain ⟨rfl, hO⟩ := hrel
      go_wp2_with (first
        | ((with_reducible refine wpl_store ?_); refine wpList_store_box rfl (by rfl) hO rfl _ (by exact at0) rfl (by rfl) (by rfl) (by rfl) (by rfl) (by rfl) ?_; clear hO; intro u hO; simp only [zC, zB] at hO)
        | fail)
      obtain ⟨F, hvo, hF⟩ := Own.vec0 u 0
      exact ret_box rfl hO rfl 0 at0 rfl rfl ⟨_, _, rfl, by rw [HE.out]; exact hvo, (hO.call hF).pick [0] (by decide)⟩
  · have HE : Hid (lvT zs = vecI 1 (zs.map lgI)) := Lib.hid (by unfold lvT; rw [if_pos (by omega)])
    have g' : n ≤ 40 := by omega
    have HL := Lib.hid hl
    clear g hl
    go_enter Try.func86, Try.ntmps86
    have hO := Own.nil w
    go_wp2_with (first
      | ((with_reducible refine wpl_alloc ?_); refine wpList_alloc_own rfl (by rfl) hO rfl (fun b => by simp only [Act.put, zA, zB, zC]; rfl) ?_; (first | (refine nm 0 rfl ?_; clear hO; intro b0 u hO) | (refine nm 1 rfl ?_; clear hO; intro b1 u hO) | fail); simp only [zL, zK] at hO)
      | ((with_reducible refine wpl_store ?_); refine wpList_store_box rfl (by rfl) hO rfl _ (by exact at1) rfl (by rfl) (by rfl) (by rfl) (by rfl) (by rfl) ?_; clear hO; intro u hO; simp only [zC, zB] at hO)
      | fail)
    replace hO := hO.addNil 83 3
    simp only [List.cons_append, List.nil_append] at hO
    go_loopw [4] (fun i u => ∃ (m : Nat) (A' : Option Addr) (c' : Nat), m ≤ n ∧ i = .int .i64 m ∧ Own w [box b0 29 [.int .i64 0, .slice none 0 0, .slice none 0 0, .slice none 0 0, .slice none 0 0, .slice none 0 0, .int .i64 0, .int .i64 0], box b1 29 [.int .i64 1, .slice A' m c', .slice none 0 0, .slice none 0 0, .slice none 0 0, .slice none 0 0, .int .i64 0, .int .i64 0], row 83 3 (.slice A' m c') m (itc ((zs.take m).map lgI))] u) (fun i _ => n - (intOf i).toNat)
    case atStart => exact ⟨0, none, 0, Nat.zero_le _, rfl, hO⟩
    case round =>
      clear hO
      obtain ⟨m, A', c', hm, rfl, hO⟩ := hrel
      by_cases hlt : m < n
      · have hml : m < zs.length := by rw [HL.out]; exact hlt
        have HS := Lib.hid (itc_map_succ lgI hml)
        obtain ⟨b, off, rfl, hb, d0⟩ := h.nt (Below.refl _ _) hlt hml
        obtain ⟨z, hz⟩ : ∃ z, zs[m] = z := ⟨_, rfl⟩
        rw [hz] at d0 HS
        clear hz hml
        have CI := fun u => spec_in z 0 1 u
        by_cases hzz : z = 0 ∨ z = 1
        · have HI : inI z 0 1 = true := inI_true (by omega)
          have HG : Hid (itc1 (lgI z) = [.int .i64 z, .int .i64 1, .string ⟨#[]⟩]) := Lib.hid (by unfold lgI; rw [if_pos hzz]; rfl)
          rw [HG.out] at HS
          rw [HI] at CI
          clear hzz HI
          go_upto_region 6 with (first
            | ((with_reducible refine wpl_alloc ?_); refine wpList_alloc_own rfl (by rfl) hO rfl (fun b => by simp only [Act.put, zA, zB, zC]; rfl) ?_; (refine nm 3 rfl ?_; clear hO; intro b3 u hO); simp only [zL, zK] at hO)
            | ((with_reducible refine wpl_store ?_); refine wpList_store_box rfl (by rfl) hO rfl _ (by exact at3) rfl (by rfl) (by rfl) (by rfl) (by rfl) (by rfl) ?_; clear hO; intro u hO; simp only [zC, zB] at hO)
            | fail)
          have e0 := (hO.old hb).trans d0
          go_upto_region 8 with (first
            | ((with_reducible refine (CI _).mono ?_); rintro e u ⟨rfl, hb⟩; subst hb)
            | ((with_reducible refine (spec_num _ _).mono ?_); rintro e u ⟨rfl, hb⟩; (replace hO := hO.step hb; clear hb))
            | ((with_reducible refine wpl_store ?_); refine wpList_store_box rfl (by rfl) hO rfl _ (by exact at3) rfl (by rfl) (by rfl) (by rfl) (by rfl) (by rfl) ?_; clear hO; intro u hO; simp only [zC, zB] at hO)
            | fail)
          clear e0
          go_wp2_with (first
            | ((with_reducible refine wpl_load ?_); refine wpList_load_box rfl (by rfl) hO rfl _ (by exact at3) (by rfl) (by simp only [Act.put, zA, zB, zC]; rfl) ?_)
            | ((with_reducible refine wpl_load ?_); refine wpList_load_field rfl (by rfl) hO rfl _ (by exact at1) (by rfl) (by simp only [Act.put, zA, zB, zC]; rfl) ?_)
            | ((with_reducible refine wpl_store ?_); refine wpList_store_field rfl (by rfl) hO rfl _ (by exact at1) (zM rfl) (by simp only [Act.eval, zJ, zF, zD, zE, zP]; rfl) (by rfl) (by rfl) (by rfl) ?_; clear hO; intro u hO; simp only [zC, zB] at hO)
            | ((with_reducible refine wpl_build ?_); refine wpList_build_one (cs := [.int .i64 z, .int .i64 1, .string ⟨#[]⟩]) hO rfl (by rfl) (by simp only [Act.eval, zJ, zF, zD, zE, zP]; rfl) rfl rfl (zM rfl) rfl (fun b => by simp only [Act.put, zA, zB, zC]; rfl) ?_; clear hO; intro bb u hO; simp only [zL, zK] at hO)
            | ((with_reducible refine wpl_append ?_); refine wpList_append_box hO rfl (by rfl) rfl rfl _ (by exact at2) _ (by exact at4) (by rfl) (by simp [Value.oneCell']) (by omega) (by omega) rfl (fun A' c' => by simp only [Act.put, zA, zB, zC]; rfl) ?_; clear hO; intro A' c' u hO; simp only [zC, zB] at hO)
            | fail)
          replace hO := hO.pick [0, 1, 2] (by decide)
          simp only [zN, zO, zE, zD] at hO
          rw [← HS.out] at hO
          go_roundw
          case rel => exact ⟨m + 1, _, _, by omega, by go_num, hO⟩
          case measure => simp [intOf]; omega
        · have HI : inI z 0 1 = false := inI_false (by omega)
          have HG : Hid (itc1 (lgI z) = [.int .i64 0, .int .i64 0, .string ⟨#[]⟩]) := Lib.hid (by unfold lgI; rw [if_neg hzz]; rfl)
          rw [HG.out] at HS
          rw [HI] at CI
          clear hzz HI
          go_upto_region 6 with (first
            | ((with_reducible refine wpl_alloc ?_); refine wpList_alloc_own rfl (by rfl) hO rfl (fun b => by simp only [Act.put, zA, zB, zC]; rfl) ?_; (refine nm 3 rfl ?_; clear hO; intro b3 u hO); simp only [zL, zK] at hO)
            | ((with_reducible refine wpl_store ?_); refine wpList_store_box rfl (by rfl) hO rfl _ (by exact at3) rfl (by rfl) (by rfl) (by rfl) (by rfl) (by rfl) ?_; clear hO; intro u hO; simp only [zC, zB] at hO)
            | fail)
          have e0 := (hO.old hb).trans d0
          go_upto_region 8 with (first
            | ((with_reducible refine (CI _).mono ?_); rintro e u ⟨rfl, hb⟩; subst hb)
            | fail)
          clear e0
          go_wp2_with (first
            | ((with_reducible refine wpl_load ?_); refine wpList_load_box rfl (by rfl) hO rfl _ (by exact at3) (by rfl) (by simp only [Act.put, zA, zB, zC]; rfl) ?_)
            | ((with_reducible refine wpl_load ?_); refine wpList_load_field rfl (by rfl) hO rfl _ (by exact at1) (by rfl) (by simp only [Act.put, zA, zB, zC]; rfl) ?_)
            | ((with_reducible refine wpl_store ?_); refine wpList_store_field rfl (by rfl) hO rfl _ (by exact at1) (zM rfl) (by simp only [Act.eval, zJ, zF, zD, zE, zP]; rfl) (by rfl) (by rfl) (by rfl) ?_; clear hO; intro u hO; simp only [zC, zB] at hO)
            | ((with_reducible refine wpl_build ?_); refine wpList_build_one (cs := [.int .i64 0, .int .i64 0, .string ⟨#[]⟩]) hO rfl (by rfl) (by simp only [Act.eval, zJ, zF, zD, zE, zP]; rfl) rfl rfl (zM rfl) rfl (fun b => by simp only [Act.put, zA, zB, zC]; rfl) ?_; clear hO; intro bb u hO; simp only [zL, zK] at hO)
            | ((with_reducible refine wpl_append ?_); refine wpList_append_box hO rfl (by rfl) rfl rfl _ (by exact at2) _ (by exact at4) (by rfl) (by simp [Value.oneCell']) (by omega) (by omega) rfl (fun A' c' => by simp only [Act.put, zA, zB, zC]; rfl) ?_; clear hO; intro A' c' u hO; simp only [zC, zB] at hO)
            | fail)
          replace hO := hO.pick [0, 1, 2] (by decide)
          simp only [zN, zO, zE, zD] at hO
          rw [← HS.out] at hO
          go_roundw
          case rel => exact ⟨m + 1, _, _, by omega, by go_num, hO⟩
          case measure => simp [intOf]; omega
      · have hmn : m = n := by omega
        have HT : Hid (zs.take m = zs) := Lib.hid (List.take_of_length_le (by rw [HL.out]; omega))
        have HN : Hid (m = (zs.map lgI).length) := Lib.hid (by rw [List.length_map, HL.out]; exact hmn)
        rw [HT.out] at hO
        subst hmn
        go_wp2_with (first
          | ((with_reducible refine wpl_load ?_); refine wpList_load_box rfl (by rfl) hO rfl _ (by exact at1) (by rfl) (by simp only [Act.put, zA, zB, zC]; rfl) ?_)
          | ((with_reducible refine wpl_store ?_); refine wpList_store_box rfl (by rfl) hO rfl _ (by exact at0) rfl (by rfl) (by rfl) (by rfl) (by rfl) (by rfl) ?_; clear hO; intro u hO; simp only [zC, zB] at hO)
          | fail)
        have hR := hO.pick [2] (by decide)
        simp only [List.filterMap_cons, List.filterMap_nil, List.getElem?_cons_zero, List.getElem?_cons_succ] at hR
        have hq := HN.out
        refine ret_box rfl hO rfl 0 at0 rfl rfl ?_
        clear hO
        rw [hq] at hR ⊢
        obtain ⟨F, hvo, hF⟩ := Own.vecI hR 1
        exact ⟨_, _, rfl, by rw [HE.out]; exact hvo, hF⟩

set_option maxHeartbeats 2000000 in
theorem spec_numberVec (A : Option Addr) (n c : Nat) (zs : List Int) (w : World) (h : Sl w 1 A n (ints zs)) (hn : n ≤ 9223372036854775807) (hi : ∀ z ∈ zs, -9223372036854775808 ≤ z ∧ z ≤ 9223372036854775807) : Calls Try.prog 75 #[.slice A n c] w (RetV (nvT zs) w) := by
  have hl : zs.length = n := by have := h.len; simpa [ints] using this
  by_cases g : 40 < n
  · have HE : Hid (nvT zs = vecI 0 []) := Lib.hid (by unfold nvT; rw [if_neg (by omega)])
    clear hl
    go_enter Try.func75, Try.ntmps75
    have hO := Own.nil w
    go_wp2_with (first
      | ((with_reducible refine wpl_alloc ?_); refine wpList_alloc_own rfl (by rfl) hO rfl (fun b => by simp only [Act.put, zA, zB, zC]; rfl) ?_; (first | (refine nm 0 rfl ?_; clear hO; intro b0 u hO) | (refine nm 1 rfl ?_; clear hO; intro b1 u hO) | fail); simp only [zL, zK] at hO)
      | ((with_reducible refine wpl_store ?_); refine wpList_store_box rfl (by rfl) hO rfl _ (by exact at1) rfl (by rfl) (by rfl) (by rfl) (by rfl) (by rfl) ?_; clear hO; intro u hO; simp only [zC, zB] at hO)
      | fail)
    go_loopw [4] (fun i u => i = .int .i64 0 ∧ Own w [box b0 29 [.int .i64 0, .slice none 0 0, .slice none 0 0, .slice none 0 0, .slice none 0 0, .slice none 0 0, .int .i64 0, .int .i64 0], box b1 29 [.int .i64 2, .slice none 0 0, .slice none 0 0, .slice none 0 0, .slice none 0 0, .slice none 0 0, .int .i64 0, .int .i64 0]] u) (fun i _ => 0)
    case atStart => exact ⟨rfl, hO⟩
    case round =>
      clear hO
      obtain ⟨rfl, hO⟩ := hrel
      go_wp2_with (first
        | ((with_reducible refine wpl_store ?_); refine wpList_store_box rfl (by rfl) hO rfl _ (by exact at0) rfl (by rfl) (by rfl) (by rfl) (by rfl) (by rfl) ?_; clear hO; intro u hO; simp only [zC, zB] at hO)
        | fail)
      obtain ⟨F, hvo, hF⟩ := Own.vec0 u 0
      exact ret_box rfl hO rfl 0 at0 rfl rfl ⟨_, _, rfl, by rw [HE.out]; exact hvo, (hO.call hF).pick [0] (by decide)⟩
  · have HE : Hid (nvT zs = vecI 2 (zs.map nmI)) := Lib.hid (by unfold nvT; rw [if_pos (by omega)])
    have g' : n ≤ 40 := by omega
    have HL := Lib.hid hl
    clear g hl
    go_enter Try.func75, Try.ntmps75
    have hO := Own.nil w
    go_wp2_with (first
      | ((with_reducible refine wpl_alloc ?_); refine wpList_alloc_own rfl (by rfl) hO rfl (fun b => by simp only [Act.put, zA, zB, zC]; rfl) ?_; (first | (refine nm 0 rfl ?_; clear hO; intro b0 u hO) | (refine nm 1 rfl ?_; clear hO; intro b1 u hO) | fail); simp only [zL, zK] at hO)
      | ((with_reducible refine wpl_store ?_); refine wpList_store_box rfl (by rfl) hO rfl _ (by exact at1) rfl (by rfl) (by rfl) (by rfl) (by rfl) (by rfl) ?_; clear hO; intro u hO; simp only [zC, zB] at hO)
      | fail)
    replace hO := hO.addNil 83 3
    simp only [List.cons_append, List.nil_append] at hO
    go_loopw [4] (fun i u => ∃ (m : Nat) (A' : Option Addr) (c' : Nat), m ≤ n ∧ i = .int .i64 m ∧ Own w [box b0 29 [.int .i64 0, .slice none 0 0, .slice none 0 0, .slice none 0 0, .slice none 0 0, .slice none 0 0, .int .i64 0, .int .i64 0], box b1 29 [.int .i64 2, .slice A' m c', .slice none 0 0, .slice none 0 0, .slice none 0 0, .slice none 0 0, .int .i64 0, .int .i64 0], row 83 3 (.slice A' m c') m (itc ((zs.take m).map nmI))] u) (fun i _ => n - (intOf i).toNat)
    case atStart => exact ⟨0, none, 0, Nat.zero_le _, rfl, hO⟩
    case round =>
      clear hO
      obtain ⟨m, A', c', hm, rfl, hO⟩ := hrel
      by_cases hlt : m < n
      · have hml : m < zs.length := by rw [HL.out]; exact hlt
        have HS := Lib.hid (itc_map_succ nmI hml)
        have hzb := hi _ (List.getElem_mem hml)
        obtain ⟨b, off, rfl, hb, d0⟩ := h.nt (Below.refl _ _) hlt hml
        obtain ⟨z, hz⟩ : ∃ z, zs[m] = z := ⟨_, rfl⟩
        rw [hz] at d0 HS hzb
        clear hz hml
        rw [nmI_cells] at HS
        have i1 : (0 : Int) ≤ (m : Int) := by omega
        have i2 : (m : Int) < (n : Int) := by omega
        go_wp2_with (first
          | ((with_reducible refine wpl_alloc ?_); refine wpList_alloc_own rfl (by rfl) hO rfl (fun b => by simp only [Act.put, zA, zB, zC]; rfl) ?_; (first | (refine nm 0 rfl ?_; clear hO; intro b0 u hO) | (refine nm 1 rfl ?_; clear hO; intro b1 u hO) | (refine nm 2 rfl ?_; clear hO; intro b2 u hO) | (refine nm 3 rfl ?_; clear hO; intro b3 u hO) | (refine nm 4 rfl ?_; clear hO; intro b4 u hO)); simp only [zL, zK] at hO)
          | ((with_reducible refine wpl_box ?_); refine wpList_box_own rfl (by rfl) hO rfl rfl (fun b => by simp only [Act.put, zA, zB, zC]; rfl) ?_; (first | (refine nm 0 rfl ?_; clear hO; intro b0 u hO) | (refine nm 1 rfl ?_; clear hO; intro b1 u hO) | (refine nm 2 rfl ?_; clear hO; intro b2 u hO) | (refine nm 3 rfl ?_; clear hO; intro b3 u hO) | (refine nm 4 rfl ?_; clear hO; intro b4 u hO)); simp only [zL, zK] at hO)
          | ((with_reducible refine wpl_load ?_); refine wpList_load_box rfl (by (first | rfl | (simp only [Region.wanted, yielded, *]; go_simp; done) | (simp [Region.wanted, yielded, *]; done) | fail)) hO rfl _ (by (first | exact at0 | exact at1 | exact at2 | exact at3 | exact at4)) (by rfl) (by simp only [Act.put, zA, zB, zC]; rfl) ?_)
          | ((with_reducible refine wpl_load ?_); refine wpList_load_field rfl (by (first | rfl | (simp only [Region.wanted, yielded, *]; go_simp; done) | (simp [Region.wanted, yielded, *]; done) | fail)) hO rfl _ (by (first | exact at0 | exact at1 | exact at2 | exact at3 | exact at4)) (by rfl) (by simp only [Act.put, zA, zB, zC]; rfl) ?_)
          | ((with_reducible refine wpl_store ?_); refine wpList_store_box rfl (by rfl) hO rfl _ (by (first | exact at0 | exact at1 | exact at2 | exact at3 | exact at4)) rfl (by rfl) (by rfl) (by rfl) (by rfl) (by rfl) ?_; clear hO; intro u hO; simp only [zC, zB] at hO)
          | ((with_reducible refine wpl_store ?_); refine wpList_store_field rfl (by rfl) hO rfl _ (by (first | exact at0 | exact at1 | exact at2 | exact at3 | exact at4)) (zM rfl) (by simp only [Act.eval, zJ, zF, zD, zE, zP]; rfl) (by rfl) (by rfl) (by rfl) ?_; clear hO; intro u hO; simp only [zC, zB] at hO)
          | fail)
        refine J.wp_region_c (n := 32) [0, 1, 2, 3, 4, 5, 6] [7] (deps := fun i => [[], [0], [], [], [2, 3], [2, 3, 4], [2, 3, 4, 5], [2, 3, 4, 5, 6], [], [], []].getD i []) (fun _ _ => (J.freshS 83 [.int .i64 (nmI z).num, .int .i64 (nmI z).den, .string ⟨#[]⟩])) (r := 3) (lst := #[true, true, true, true, true, true, true, true, false, false, false]) (by kernel_rfl) (by kernel_rfl) (by kernel_rfl) rfl (by decide) (by kernel_rfl) hO ?_
        refine J.Chain.cons (by rfl) (by rfl) (fun M u hO K hK => by (simp only [wp_at_zero, wp_at_succ]; go_step; exact hK _ hO)) (by simp only [J.putL, zI, zG, zH, J.dstOf, zF, zD, zE, zS, zQ, zR, Act.put, zA, zB, zC]; rfl) ?_
        refine J.Chain.cons (by rfl) (by rfl) (fun M u hO K hK => by (exact wp_load_field hO rfl rfl _ (by exact at1) (by rfl) (by rfl) (hK _ hO))) (by simp only [J.putL, zI, zG, zH, J.dstOf, zF, zD, zE, zS, zQ, zR, Act.put, zA, zB, zC]; rfl) ?_
        refine J.Chain.cons (by rfl) (by rfl) (fun M u hO K hK => by (simp only [wp_at_zero, wp_at_succ]; go_step; exact hK _ hO)) (by simp only [J.putL, zI, zG, zH, J.dstOf, zF, zD, zE, zS, zQ, zR, Act.put, zA, zB, zC]; rfl) ?_
        refine J.Chain.cons (by rfl) (by rfl) (fun M u hO K hK => by (simp only [wp_at_zero, wp_at_succ]; go_step; exact hK _ hO)) (by simp only [J.putL, zI, zG, zH, J.dstOf, zF, zD, zE, zS, zQ, zR, Act.put, zA, zB, zC]; rfl) ?_
        refine J.Chain.cons (by rfl) (by rfl) (fun M u hO K hK => by (simp only [wp_at_zero, wp_at_succ]; go_step; exact hK _ hO)) (by simp only [J.putL, zI, zG, zH, J.dstOf, zF, zD, zE, zS, zQ, zR, Act.put, zA, zB, zC]; rfl) ?_
        refine J.Chain.cons (by rfl) (by rfl) (fun M u hO K hK => by ((have e0 := (hO.old hb).trans d0; simp only [wp_at_zero, wp_at_succ]; go_step; exact hK _ hO))) (by simp only [J.putL, zI, zG, zH, J.dstOf, zF, zD, zE, zS, zQ, zR, Act.put, zA, zB, zC]; rfl) ?_
        refine J.Chain.cons (by rfl) (by rfl) (fun M u hO K hK => by (simp only [wp_at_zero, wp_at_succ]; go_step; refine (spec_make _ _ _ hzb (by omega)).mono ?_; rintro e u ⟨rfl, hb⟩; exact hK _ (hO.step hb))) (by simp only [J.putL, zI, zG, zH, J.dstOf, zF, zD, zE, zS, zQ, zR, Act.put, zA, zB, zC]; rfl) ?_
        refine J.Chain.nil ⟨?_, ?_⟩
        · refine J.Each.cons (by rfl) ?_ ?_; exact ⟨rfl, fun vs M u hO _ K hK => by (refine wp_build_one (cs := [.int .i64 (nmI z).num, .int .i64 (nmI z).den, .string ⟨#[]⟩]) hO rfl (by simp only [Act.eval, zJ, zP, J.putL, zI, zG, zH, J.dstOf, zF, zD, zE, zS, zQ, zR, Act.put, zA, zB, zC]; rfl) rfl rfl (zM rfl) rfl fun b u hO => ?_; exact hK _ _ _ (show (J.freshS 83 [.int .i64 (nmI z).num, .int .i64 (nmI z).den, .string ⟨#[]⟩]) _ from ⟨b, rfl⟩) hO)⟩; exact J.Each.nil
        intro vs u hO hF
        obtain ⟨b2, h7⟩ : J.freshS _ _ (vs 7) := hF 7 (by decide)
        clear hF
        simp only [List.flatMap_cons, List.flatMap_nil, h7, List.append_nil, zL, zK] at hO
        simp only [h7, J.putL, zI, zG, zH, J.dstOf, zF, zD, zE, zS, zQ, zR, Act.put, zA, zB, zC]
        clear h7 vs
        refine J.wpAny_one (i := 8) (by kernel_rfl) (by rfl) rfl fun K hK => ?_
        refine wp_append_box hO rfl rfl rfl _ (by exact at2) _ (by exact at3) (by rfl) (by simp [Value.oneCell']) (by omega) (by omega) rfl ?_
        clear hO
        intro A' c' u hO
        simp only [zC, zB] at hO
        simp only [Act.put, zA, zB, zC]
        refine hK _ _ ?_
        clear hK K
        refine J.wpAny_one (i := 9) (by kernel_rfl) (by rfl) rfl fun K hK => ?_
        simp only [wp_at_zero, wp_at_succ]
        go_step
        refine hK _ _ ?_
        clear hK K
        refine J.wpAny_one (i := 10) (by kernel_rfl) (by rfl) rfl fun K hK => ?_
        (refine wp_store_field hO rfl rfl _ (by exact at1) (zM rfl) (by simp only [Act.eval, zJ, zF, zD, zE, zP]; rfl) (by rfl) (by rfl) (by rfl) ?_; clear hO; intro u hO; simp only [zC, zB] at hO; refine hK _ _ ?_; clear hK K)
        refine wpAny_done (by kernel_rfl) ?_ _
        go_wp2_with (first
          | ((with_reducible refine wpl_alloc ?_); refine wpList_alloc_own rfl (by rfl) hO rfl (fun b => by simp only [Act.put, zA, zB, zC]; rfl) ?_; (first | (refine nm 0 rfl ?_; clear hO; intro b0 u hO) | (refine nm 1 rfl ?_; clear hO; intro b1 u hO) | (refine nm 2 rfl ?_; clear hO; intro b2 u hO) | (refine nm 3 rfl ?_; clear hO; intro b3 u hO) | (refine nm 4 rfl ?_; clear hO; intro b4 u hO)); simp only [zL, zK] at hO)
          | ((with_reducible refine wpl_box ?_); refine wpList_box_own rfl (by rfl) hO rfl rfl (fun b => by simp only [Act.put, zA, zB, zC]; rfl) ?_; (first | (refine nm 0 rfl ?_; clear hO; intro b0 u hO) | (refine nm 1 rfl ?_; clear hO; intro b1 u hO) | (refine nm 2 rfl ?_; clear hO; intro b2 u hO) | (refine nm 3 rfl ?_; clear hO; intro b3 u hO) | (refine nm 4 rfl ?_; clear hO; intro b4 u hO)); simp only [zL, zK] at hO)
          | ((with_reducible refine wpl_load ?_); refine wpList_load_box rfl (by (first | rfl | (simp only [Region.wanted, yielded, *]; go_simp; done) | (simp [Region.wanted, yielded, *]; done) | fail)) hO rfl _ (by (first | exact at0 | exact at1 | exact at2 | exact at3 | exact at4)) (by rfl) (by simp only [Act.put, zA, zB, zC]; rfl) ?_)
          | ((with_reducible refine wpl_load ?_); refine wpList_load_field rfl (by (first | rfl | (simp only [Region.wanted, yielded, *]; go_simp; done) | (simp [Region.wanted, yielded, *]; done) | fail)) hO rfl _ (by (first | exact at0 | exact at1 | exact at2 | exact at3 | exact at4)) (by rfl) (by simp only [Act.put, zA, zB, zC]; rfl) ?_)
          | ((with_reducible refine wpl_store ?_); refine wpList_store_box rfl (by rfl) hO rfl _ (by (first | exact at0 | exact at1 | exact at2 | exact at3 | exact at4)) rfl (by rfl) (by rfl) (by rfl) (by rfl) (by rfl) ?_; clear hO; intro u hO; simp only [zC, zB] at hO)
          | ((with_reducible refine wpl_store ?_); refine wpList_store_field rfl (by rfl) hO rfl _ (by (first | exact at0 | exact at1 | exact at2 | exact at3 | exact at4)) (zM rfl) (by simp only [Act.eval, zJ, zF, zD, zE, zP]; rfl) (by rfl) (by rfl) (by rfl) ?_; clear hO; intro u hO; simp only [zC, zB] at hO)
          | fail)
        replace hO := hO.pick [0, 1, 2] (by decide)
        simp only [zN, zO, zE, zD] at hO
        rw [← HS.out] at hO
        go_roundw
        case rel => exact ⟨m + 1, _, _, by omega, by go_num, hO⟩
        case measure => simp [intOf]; omega
      · have hmn : m = n := by omega
        have HT : Hid (zs.take m = zs) := Lib.hid (List.take_of_length_le (by rw [HL.out]; omega))
        have HN : Hid (m = (zs.map nmI).length) := Lib.hid (by rw [List.length_map, HL.out]; exact hmn)
        rw [HT.out] at hO
        subst hmn
        go_wp2_with (first
          | ((with_reducible refine wpl_load ?_); refine wpList_load_box rfl (by rfl) hO rfl _ (by exact at1) (by rfl) (by simp only [Act.put, zA, zB, zC]; rfl) ?_)
          | ((with_reducible refine wpl_store ?_); refine wpList_store_box rfl (by rfl) hO rfl _ (by exact at0) rfl (by rfl) (by rfl) (by rfl) (by rfl) (by rfl) ?_; clear hO; intro u hO; simp only [zC, zB] at hO)
          | fail)
        have hR := hO.pick [2] (by decide)
        simp only [List.filterMap_cons, List.filterMap_nil, List.getElem?_cons_zero, List.getElem?_cons_succ] at hR
        have hq := HN.out
        refine ret_box rfl hO rfl 0 at0 rfl rfl ?_
        clear hO
        rw [hq] at hR ⊢
        obtain ⟨F, hvo, hF⟩ := Own.vecI hR 2
        exact ⟨_, _, rfl, by rw [HE.out]; exact hvo, hF⟩

end Go.Proofs.Ytmofcbpabdbjlaa
