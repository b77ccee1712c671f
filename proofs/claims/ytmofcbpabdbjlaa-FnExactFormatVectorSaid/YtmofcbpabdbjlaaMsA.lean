/-
  What is proved: the reference's constructors of logical and of number vectors.
  Condition: none beyond those of the theorems.
-/
import Derived.Test.YtmofcbpabdbjlaaMv
import Derived.Deep.Cut
namespace Go.Proofs.Ytmofcbpabdbjlaa
set_option maxRecDepth 8000
open Go.RowKit Go.ChangeShapes Go.WideShapes
set_option linter.unusedVariables false
set_option linter.unusedSimpArgs false

theorem spec_num (z : Int) (w : World) : Calls Try.prog 150 #[.int .i64 z] w fun e w' => e = .returned (.agg #[.int .i64 z, .int .i64 1, .string ⟨#[]⟩]) ∧ Below w.heap.size w w' := by
  go_enter Try.func150, Try.ntmps150
  have hO := Own.nil w
  go_wp2_with (first
    | ((with_reducible refine wpl_alloc ?_); refine wpList_alloc_own rfl (by rfl) hO rfl (fun b => by simp only [Act.put, zA, zB, zC]; rfl) ?_; (refine nm 0 rfl ?_; clear hO; intro b0 u hO); simp only [zL, zK] at hO)
    | ((with_reducible refine wpl_store ?_); refine wpList_store_box rfl (by rfl) hO rfl _ (by exact at0) rfl (by rfl) (by rfl) (by rfl) (by rfl) (by rfl) ?_; clear hO; intro u hO; simp only [zC, zB] at hO)
    | fail)
  exact ret_box rfl hO rfl 0 rfl rfl rfl ⟨rfl, hO.below⟩

set_option maxHeartbeats 2000000 in
theorem spec_logicalVec (A : Option Addr) (n c : Nat) (zs : List Int) (w : World) (h : Sl w 1 A n (ints zs)) (hn : n ≤ 9223372036854775807) : Calls Try.prog 86 #[.slice A n c] w (RetV (lvT zs) w) := by
  have hl : zs.length = n := by have := h.len; simpa [ints] using this
  by_cases g : 40 < n
  · have HE : Hid (lvT zs = vecI 0 []) := Lib.hid (by unfold lvT; rw [if_neg (by omega)])
    clear hl
    go_enter Try.func86, Try.ntmps86
    have hO := Own.nil w
    go_wp2_with (first
      | ((with_reducible refine wpl_alloc ?_); refine wpList_alloc_own rfl (by rfl) hO rfl (fun b => by simp only [Act.put, zA, zB, zC]; rfl) ?_; (first | (refine nm 0 rfl ?_; clear hO; intro b0 u hO) | (refine nm 1 rfl ?_; clear hO; intro b1 u hO) | fail); simp only [zL, zK] at hO)
      | ((with_reducible refine wpl_store ?_); refine wpList_store_box rfl (by rfl) hO rfl _ (by exact at1) rfl (by rfl) (by rfl) (by rfl) (by rfl) (by rfl) ?_; clear hO; intro u hO; simp only [zC, zB] at hO)
      | fail)
    go_loopw [4] (fun i u => i = .int .i64 0 ∧ Own w [box b0 29 [.int .i64 0, .slice none 0 0, .slice none 0 0, .slice none 0 0, .slice none 0 0, .slice none 0 0, .int .i64 0, .int .i64 0], box b1 29 [.int .i64 1, .slice none 0 0, .slice none 0 0, .slice none 0 0, .slice none 0 0, .slice none 0 0, .int .i64 0, .int .i64 0]] u) (fun i _ => 0)
    case atStart => exact ⟨rfl, hO⟩
    case round =>
      clear hO
      obtain ⟨rfl, hO⟩ := hrel
      go_wp2_with (first
        | ((with_reducible refine wpl_store ?_); refine wpList_store_box rfl (by rfl) hO rfl _ (by exact at0) rfl (by rfl) (by rfl) (by rfl) (by rfl) (by rfl) ?_; clear hO; intro u hO; simp only [zC, zB] at hO)
        | fail)
      obtain ⟨F, hvo, hF⟩ := Own.vec0 u 0
      exact ret_box rfl hO rfl 0 at0 rfl rfl ⟨_, _, rfl, by rw [HE.out]; exact hvo, (hO.call hF).pick [0] (by decide)⟩
  · have HE : Hid (lvT zs = vecI 1 (zs.map lgI)) := Lib.hid (by unfold lvT; rw [if_pos (by omega)])
    have g' : n ≤ 40 := by omega
    have HL := Lib.hid hl
    clear g hl
    go_enter Try.func86, Try.ntmps86
    have hO := Own.nil w
    go_wp2_with (first
      | ((with_reducible refine wpl_alloc ?_); refine wpList_alloc_own rfl (by rfl) hO rfl (fun b => by simp only [Act.put, zA, zB, zC]; rfl) ?_; (first | (refine nm 0 rfl ?_; clear hO; intro b0 u hO) | (refine nm 1 rfl ?_; clear hO; intro b1 u hO) | fail); simp only [zL, zK] at hO)
      | ((with_reducible refine wpl_store ?_); refine wpList_store_box rfl (by rfl) hO rfl _ (by exact at1) rfl (by rfl) (by rfl) (by rfl) (by rfl) (by rfl) ?_; clear hO; intro u hO; simp only [zC, zB] at hO)
      | fail)
    replace hO := hO.addNil 83 3
    simp only [List.cons_append, List.nil_append] at hO
    go_loopw [4] (fun i u => ∃ (m : Nat) (A' : Option Addr) (c' : Nat), m ≤ n ∧ i = .int .i64 m ∧ Own w [box b0 29 [.int .i64 0, .slice none 0 0, .slice none 0 0, .slice none 0 0, .slice none 0 0, .slice none 0 0, .int .i64 0, .int .i64 0], box b1 29 [.int .i64 1, .slice A' m c', .slice none 0 0, .slice none 0 0, .slice none 0 0, .slice none 0 0, .int .i64 0, .int .i64 0], row 83 3 (.slice A' m c') m (itc ((zs.take m).map lgI))] u) (fun i _ => n - (intOf i).toNat)
    case atStart => exact ⟨0, none, 0, Nat.zero_le _, rfl, hO⟩
    case round =>
      clear hO
      obtain ⟨m, A', c', hm, rfl, hO⟩ := hrel
      by_cases hlt : m < n
      · have hml : m < zs.length := by rw [HL.out]; exact hlt
        have HS := Lib.hid (itc_map_succ lgI hml)
        obtain ⟨b, off, rfl, hb, d0⟩ := h.nt (Below.refl _ _) hlt hml
        obtain ⟨z, hz⟩ : ∃ z, zs[m] = z := ⟨_, rfl⟩
        rw [hz] at d0 HS
        clear hz hml
        have CI := fun u => spec_in z 0 1 u
        by_cases hzz : z = 0 ∨ z = 1
        · have HI : inI z 0 1 = true := inI_true (by omega)
          have HG : Hid (itc1 (lgI z) = [.int .i64 z, .int .i64 1, .string ⟨#[]⟩]) := Lib.hid (by unfold lgI; rw [if_pos hzz]; rfl)
          rw [HG.out] at HS
          rw [HI] at CI
          clear hzz HI
          go_upto_region 6 with (first
            | ((with_reducible refine wpl_alloc ?_); refine wpList_alloc_own rfl (by rfl) hO rfl (fun b => by simp only [Act.put, zA, zB, zC]; rfl) ?_; (refine nm 3 rfl ?_; clear hO; intro b3 u hO); simp only [zL, zK] at hO)
            | ((with_reducible refine wpl_store ?_); refine wpList_store_box rfl (by rfl) hO rfl _ (by exact at3) rfl (by rfl) (by rfl) (by rfl) (by rfl) (by rfl) ?_; clear hO; intro u hO; simp only [zC, zB] at hO)
            | fail)
          have e0 := (hO.old hb).trans d0
          go_upto_region 8 with (first
            | ((with_reducible refine (CI _).mono ?_); rintro e u ⟨rfl, hb⟩; subst hb)
            | ((with_reducible refine (spec_num _ _).mono ?_); rintro e u ⟨rfl, hb⟩; (replace hO := hO.step hb; clear hb))
            | ((with_reducible refine wpl_store ?_); refine wpList_store_box rfl (by rfl) hO rfl _ (by exact at3) rfl (by rfl) (by rfl) (by rfl) (by rfl) (by rfl) ?_; clear hO; intro u hO; simp only [zC, zB] at hO)
            | fail)
          clear e0
          go_wp2_with (first
            | ((with_reducible refine wpl_load ?_); refine wpList_load_box rfl (by rfl) hO rfl _ (by exact at3) (by rfl) (by simp only [Act.put, zA, zB, zC]; rfl) ?_)
            | ((with_reducible refine wpl_load ?_); refine wpList_load_field rfl (by rfl) hO rfl _ (by exact at1) (by rfl) (by simp only [Act.put, zA, zB, zC]; rfl) ?_)
            | ((with_reducible refine wpl_store ?_); refine wpList_store_field rfl (by rfl) hO rfl _ (by exact at1) (zM rfl) (by simp only [Act.eval, zJ, zF, zD, zE, zP]; rfl) (by rfl) (by rfl) (by rfl) ?_; clear hO; intro u hO; simp only [zC, zB] at hO)
            | ((with_reducible refine wpl_build ?_); refine wpList_build_one (cs := [.int .i64 z, .int .i64 1, .string ⟨#[]⟩]) hO rfl (by rfl) (by simp only [Act.eval, zJ, zF, zD, zE, zP]; rfl) rfl rfl (zM rfl) rfl (fun b => by simp only [Act.put, zA, zB, zC]; rfl) ?_; clear hO; intro bb u hO; simp only [zL, zK] at hO)
            | ((with_reducible refine wpl_append ?_); refine wpList_append_box hO rfl (by rfl) rfl rfl _ (by exact at2) _ (by exact at4) (by rfl) (by simp [Value.oneCell']) (by omega) (by omega) rfl (fun A' c' => by simp only [Act.put, zA, zB, zC]; rfl) ?_; clear hO; intro A' c' u hO; simp only [zC, zB] at hO)
            | fail)
          replace hO := hO.pick [0, 1, 2] (by decide)
          simp only [zN, zO, zE, zD] at hO
          rw [← HS.out] at hO
          go_roundw
          case rel => exact ⟨m + 1, _, _, by omega, by go_num, hO⟩
          case measure => simp [intOf]; omega
        · have HI : inI z 0 1 = false := inI_false (by omega)
          have HG : Hid (itc1 (lgI z) = [.int .i64 0, .int .i64 0, .string ⟨#[]⟩]) := Lib.hid (by unfold lgI; rw [if_neg hzz]; rfl)
          rw [HG.out] at HS
          rw [HI] at CI
          clear hzz HI
          go_upto_region 6 with (first
            | ((with_reducible refine wpl_alloc ?_); refine wpList_alloc_own rfl (by rfl) hO rfl (fun b => by simp only [Act.put, zA, zB, zC]; rfl) ?_; (refine nm 3 rfl ?_; clear hO; intro b3 u hO); simp only [zL, zK] at hO)
            | ((with_reducible refine wpl_store ?_); refine wpList_store_box rfl (by rfl) hO rfl _ (by exact at3) rfl (by rfl) (by rfl) (by rfl) (by rfl) (by rfl) ?_; clear hO; intro u hO; simp only [zC, zB] at hO)
            | fail)
          have e0 := (hO.old hb).trans d0
          go_upto_region 8 with (first
            | ((with_reducible refine (CI _).mono ?_); rintro e u ⟨rfl, hb⟩; subst hb)
            | fail)
          clear e0
          go_wp2_with (first
            | ((with_reducible refine wpl_load ?_); refine wpList_load_box rfl (by rfl) hO rfl _ (by exact at3) (by rfl) (by simp only [Act.put, zA, zB, zC]; rfl) ?_)
            | ((with_reducible refine wpl_load ?_); refine wpList_load_field rfl (by rfl) hO rfl _ (by exact at1) (by rfl) (by simp only [Act.put, zA, zB, zC]; rfl) ?_)
            | ((with_reducible refine wpl_store ?_); refine wpList_store_field rfl (by rfl) hO rfl _ (by exact at1) (zM rfl) (by simp only [Act.eval, zJ, zF, zD, zE, zP]; rfl) (by rfl) (by rfl) (by rfl) ?_; clear hO; intro u hO; simp only [zC, zB] at hO)
            | ((with_reducible refine wpl_build ?_); refine wpList_build_one (cs := [.int .i64 0, .int .i64 0, .string ⟨#[]⟩]) hO rfl (by rfl) (by simp only [Act.eval, zJ, zF, zD, zE, zP]; rfl) rfl rfl (zM rfl) rfl (fun b => by simp only [Act.put, zA, zB, zC]; rfl) ?_; clear hO; intro bb u hO; simp only [zL, zK] at hO)
            | ((with_reducible refine wpl_append ?_); refine wpList_append_box hO rfl (by rfl) rfl rfl _ (by exact at2) _ (by exact at4) (by rfl) (by simp [Value.oneCell']) (by omega) (by omega) rfl (fun A' c' => by simp only [Act.put, zA, zB, zC]; rfl) ?_; clear hO; intro A' c' u hO; simp only [zC, zB] at hO)
            | fail)
          replace hO := hO.pick [0, 1, 2] (by decide)
          simp only [zN, zO, zE, zD] at hO
          rw [← HS.out] at hO
          go_roundw
          case rel => exact ⟨m + 1, _, _, by omega, by go_num, hO⟩
          case measure => simp [intOf]; omega
      · have hmn : m = n := by omega
        have HT : Hid (zs.take m = zs) := Lib.hid (List.take_of_length_le (by rw [HL.out]; omega))
        have HN : Hid (m = (zs.map lgI).length) := Lib.hid (by rw [List.length_map, HL.out]; exact hmn)
        rw [HT.out] at hO
        subst hmn
        go_wp2_with (first
          | ((with_reducible refine wpl_load ?_); refine wpList_load_box rfl (by rfl) hO rfl _ (by exact at1) (by rfl) (by simp only [Act.put, zA, zB, zC]; rfl) ?_)
          | ((with_reducible refine wpl_store ?_); refine wpList_store_box rfl (by rfl) hO rfl _ (by exact at0) rfl (by rfl) (by rfl) (by rfl) (by rfl) (by rfl) ?_; clear hO; intro u hO; simp only [zC, zB] at hO)
          | fail)
        have hR := hO.pick [2] (by decide)
        simp only [List.filterMap_cons, List.filterMap_nil, List.getElem?_cons_zero, List.getElem?_cons_succ] at hR
        have hq := HN.out
        refine ret_box rfl hO rfl 0 at0 rfl rfl ?_
        clear hO
        rw [hq] at hR ⊢
        obtain ⟨F, hvo, hF⟩ := Own.vecI hR 1
        exact ⟨_, _, rfl, by rw [HE.out]; exact hvo, hF⟩

end Go.Proofs.Ytmofcbpabdbjlaa
