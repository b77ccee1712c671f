/-
  What is proved: what TextVector (of the program and of the reference) returns.
  Condition: lists of size at most 1048576.
-/
import Derived.Test.YtmofcbpabdbjlaaMsA
import Derived.Test.YtmofcbpabdbjlaaIsA
namespace Go.Proofs.Ytmofcbpabdbjlaa
set_option maxRecDepth 8000
open Go.RowKit Go.ChangeShapes Go.WideShapes
set_option linter.unusedVariables false
set_option linter.unusedSimpArgs false

theorem impl_textItemT (s : ByteArray) (w : World) : Calls Try.prog 151 #[.string s] w fun e w' => e = .returned (.agg #[.int .i64 0, .int .i64 1, .string s]) ∧ Below w.heap.size w w' := by
  go_enter Try.func151, Try.ntmps151
  have hO := Own.nil w
  go_wp2_with (first
    | ((with_reducible refine wpl_alloc ?_); refine wpList_alloc_own rfl (by rfl) hO rfl (fun b => by simp only [Act.put, zA, zB, zC]; rfl) ?_; (refine nm 0 rfl ?_; clear hO; intro b0 u hO); simp only [zL, zK] at hO)
    | ((with_reducible refine wpl_store ?_); refine wpList_store_box rfl (by rfl) hO rfl _ (by exact at0) rfl (by rfl) (by rfl) (by rfl) (by rfl) (by rfl) ?_; clear hO; intro u hO; simp only [zC, zB] at hO)
    | fail)
  exact ret_box rfl hO rfl 0 rfl rfl rfl ⟨rfl, hO.below⟩

theorem spec_textItemT (s : ByteArray) (w : World) : Calls Try.prog 148 #[.string s] w fun e w' => e = .returned (.agg #[.int .i64 0, .int .i64 1, .string s]) ∧ Below w.heap.size w w' := by
  go_enter Try.func148, Try.ntmps148
  have hO := Own.nil w
  go_wp2_with (first
    | ((with_reducible refine wpl_alloc ?_); refine wpList_alloc_own rfl (by rfl) hO rfl (fun b => by simp only [Act.put, zA, zB, zC]; rfl) ?_; (refine nm 0 rfl ?_; clear hO; intro b0 u hO); simp only [zL, zK] at hO)
    | ((with_reducible refine wpl_store ?_); refine wpList_store_box rfl (by rfl) hO rfl _ (by exact at0) rfl (by rfl) (by rfl) (by rfl) (by rfl) (by rfl) ?_; clear hO; intro u hO; simp only [zC, zB] at hO)
    | fail)
  exact ret_box rfl hO rfl 0 rfl rfl rfl ⟨rfl, hO.below⟩

theorem txI_cells (s : ByteArray) : itc1 (txI s) = [.int .i64 0, .int .i64 1, .string s] := rfl
/-- what TextVector makes of a list -/
def tvT (ss : List ByteArray) : VT := if ss.length ≤ 40 ∧ shortB ss = true then vecI 3 (ss.map txI) else vecI 0 []

theorem Own.rdI {w0 w : World} {L : List Res} (hO : Own w0 L w) (k : Nat) {A : Option Addr} {n c : Nat} {is : List It} (hk : L[k]? = some (row 83 3 (.slice A n c) n (itc is))) (hn : is.length = n) (q : Int) :
    RdV w (Go.Proofs.Ytmofcbpabdbjlaa.vecI q is) [.int .i64 q, .slice A n c, .slice none 0 0, .slice none 0 0, .slice none 0 0, .slice none 0 0, .int .i64 0, .int .i64 0] := by
  subst hn
  exact RdV.close (ps := []) (ns := []) (cs := []) (ls := []) (Own.row_sl hO k hk) (RdL.nil _ _) ⟨rfl, fun h => absurd h (by simp)⟩ ⟨rfl, fun h => absurd h (by simp)⟩ ⟨rfl, fun h => absurd h (by simp)⟩ ⟨row_cap (hO.get k hk), Nat.le_refl _, Nat.le_refl _, Nat.le_refl _, Nat.le_refl _⟩

theorem tx_all (ss : List ByteArray) : (ss.map txI).all (itB 3 []) = shortB ss := by
  unfold shortB
  rw [List.all_map]
  congr 1
  funext s
  rw [Bool.eq_iff_iff]
  simp [itB, itemB, misB, levB, txI]
  exact ⟨of_decide_eq_true, decide_eq_true⟩
theorem itz_tx (l : List ByteArray) : itz (l.map txI) = stz l := by
  induction l with
  | nil => rfl
  | cons x l ih =>
    rw [List.map_cons, itz, stz, ih]
    rfl
theorem isV_tx (ss : List ByteArray) (h : ss.length ≤ 40) : isV (vecI 3 (ss.map txI)) = shortB ss := by
  have h1 : lB 3 (vecI 3 (ss.map txI)) = (nodeB (vecI 3 (ss.map txI)) && true) := by simp only [vecI, lB, lL]
  have h2 : cellsV (vecI 3 (ss.map txI)) = ss.length := by simp [vecI, cellsV, cellsL, lenV]
  have h3 : nodeB (vecI 3 (ss.map txI)) = (headB (lenN 3 (ss.map txI).length ([] : List VT).length) 3 (ss.map txI) [] [] [] [] 0 0 && (ss.map txI).all (itB 3 [])) := nodeB_eq ..
  have hl : lenN 3 (ss.map txI).length ([] : List VT).length = ss.length := by unfold lenN; simp
  have hh : headB ss.length 3 (ss.map txI) [] [] [] [] 0 0 = true := by
    simp [headB, labB, goodN, shortB, h]
  unfold isV
  rw [h1, h3, hl, hh, tx_all, decide_eq_true (show cellsV (vecI 3 (ss.map txI)) ≤ 200 by rw [h2]; omega)]
  simp

set_option maxRecDepth 20000 in
set_option maxHeartbeats 1000000 in
theorem impl_textVec (A : Option Addr) (n c : Nat) (ss : List ByteArray) (w : World) (h : Sl w 1 A n (stc ss)) (hn : n ≤ 9223372036854775807) : Calls Try.prog 164 #[.slice A n c] w (RetV (tvT ss) w) := by
  have hl : ss.length = n := by have := h.len; simpa [stc] using this
  by_cases g : 40 < n
  · have HE : Hid (tvT ss = vecI 0 []) := Lib.hid (by unfold tvT; rw [if_neg (by omega)])
    clear hl
    go_enter Try.func164, Try.ntmps164
    have hO := Own.nil w
    go_wp2_with (first
      | ((with_reducible refine wpl_alloc ?_); refine wpList_alloc_own rfl (by rfl) hO rfl (fun b => by simp only [Act.put, zA, zB, zC]; rfl) ?_; (refine nm 0 rfl ?_; clear hO; intro b0 u hO); simp only [zL, zK] at hO)
      | ((with_reducible refine wpl_store ?_); refine wpList_store_box rfl (by rfl) hO rfl _ (by exact at0) rfl (by rfl) (by rfl) (by rfl) (by rfl) (by rfl) ?_; clear hO; intro u hO; simp only [zC, zB] at hO)
      | fail)
    obtain ⟨F, hvo, hF⟩ := Own.vec0 u 0
    exact ret_box rfl hO rfl 0 at0 rfl rfl ⟨_, _, rfl, by rw [HE.out]; exact hvo, (hO.call hF).pick [0] (by decide)⟩
  · have g' : n ≤ 40 := by omega
    have HL := Lib.hid hl
    clear g hl
    go_enter Try.func164, Try.ntmps164
    have hO := Own.nil w
    go_wp2_with (first
      | ((with_reducible refine wpl_alloc ?_); refine wpList_alloc_own rfl (by rfl) hO rfl (fun b => by simp only [Act.put, zA, zB, zC]; rfl) ?_; (first | (refine nm 0 rfl ?_; clear hO; intro b0 u hO) | (refine nm 1 rfl ?_; clear hO; intro b1 u hO) | fail); simp only [zL, zK] at hO)
      | ((with_reducible refine wpl_store ?_); refine wpList_store_box rfl (by rfl) hO rfl _ (by exact at1) rfl (by rfl) (by rfl) (by rfl) (by rfl) (by rfl) ?_; clear hO; intro u hO; simp only [zC, zB] at hO)
      | fail)
    replace hO := hO.addNil 83 3
    simp only [List.cons_append, List.nil_append] at hO
    go_loopw [13] (fun i u => ∃ (m : Nat) (A' : Option Addr) (c' : Nat), m ≤ n ∧ i = .int .i64 m ∧ Hid (shortB (ss.take m) = true) ∧ Own w [box b0 29 [.int .i64 0, .slice none 0 0, .slice none 0 0, .slice none 0 0, .slice none 0 0, .slice none 0 0, .int .i64 0, .int .i64 0], box b1 29 [.int .i64 3, .slice A' m c', .slice none 0 0, .slice none 0 0, .slice none 0 0, .slice none 0 0, .int .i64 0, .int .i64 0], row 83 3 (.slice A' m c') m (itc ((ss.take m).map txI))] u) (fun i _ => n - (intOf i).toNat)
    case atStart => exact ⟨0, none, 0, Nat.zero_le _, rfl, rfl, hO⟩
    case round =>
      clear hO
      obtain ⟨m, A', c', hm, rfl, hsh, hO⟩ := hrel
      by_cases hlt : m < n
      · have hml : m < ss.length := by rw [HL.out]; exact hlt
        obtain ⟨b, off, rfl, hb, d0⟩ := Sl.txn h hO.below hlt hml
        have HS := Lib.hid (itc_map_succ txI hml)
        have HT := Lib.hid (shortB_take hml)
        have HF := Lib.hid (fun he => shortB_false (l := ss) hml he)
        obtain ⟨x, hx⟩ : ∃ x, ss[m] = x := ⟨_, rfl⟩
        rw [hx] at d0 HS HT HF
        clear hx hml
        rw [txI_cells] at HS
        by_cases e2 : 60 < x.size
        · have HE : Hid (tvT ss = vecI 0 []) := Lib.hid (by unfold tvT; rw [HF.out e2, if_neg (by simp)])
          go_wp2_with (first
            | ((with_reducible refine wpl_store ?_); refine wpList_store_box rfl (by rfl) hO rfl _ (by exact at0) rfl (by rfl) (by rfl) (by rfl) (by rfl) (by rfl) ?_; clear hO; intro u hO; simp only [zC, zB] at hO)
            | fail)
          obtain ⟨F, hvo, hF⟩ := Own.vec0 u 0
          exact ret_box rfl hO rfl 0 at0 rfl rfl ⟨_, _, rfl, by rw [HE.out]; exact hvo, (hO.call hF).pick [0] (by decide)⟩
        · have HD := Lib.hid (decide_eq_true (show x.size ≤ 60 by omega))
          go_wp2_with fail
          clear d0
          refine J.wp_region_c (n := 30) [0, 1, 2, 3] [4] (deps := fun i => [[], [0], [], [2], [2, 3], [], [], []].getD i []) (fun _ _ => (J.freshS 83 [.int .i64 0, .int .i64 1, .string x])) (r := 3) (lst := #[true, true, true, true, true, false, false, false]) (by kernel_rfl) (by kernel_rfl) (by kernel_rfl) rfl (by decide) (by kernel_rfl) hO ?_
          refine J.Chain.cons (by rfl) (by rfl) (fun M u hO K hK => by (simp only [wp_at_zero, wp_at_succ]; go_step; exact hK _ hO)) (by simp only [J.putL, zI, zG, zH, J.dstOf, zF, zD, zE, zS, zQ, zR, Act.put, zA, zB, zC]; rfl) ?_
          refine J.Chain.cons (by rfl) (by rfl) (fun M u hO K hK => by (exact wp_load_field hO rfl rfl _ (by exact at1) (by rfl) (by rfl) (hK _ hO))) (by simp only [J.putL, zI, zG, zH, J.dstOf, zF, zD, zE, zS, zQ, zR, Act.put, zA, zB, zC]; rfl) ?_
          refine J.Chain.cons (by rfl) (by rfl) (fun M u hO K hK => by (simp only [wp_at_zero, wp_at_succ]; go_step; exact hK _ hO)) (by simp only [J.putL, zI, zG, zH, J.dstOf, zF, zD, zE, zS, zQ, zR, Act.put, zA, zB, zC]; rfl) ?_
          refine J.Chain.cons (by rfl) (by rfl) (fun M u hO K hK => by (simp only [wp_at_zero, wp_at_succ]; go_step; refine (impl_textItemT _ _).mono ?_; rintro e u ⟨rfl, hb⟩; exact hK _ (hO.step hb))) (by simp only [J.putL, zI, zG, zH, J.dstOf, zF, zD, zE, zS, zQ, zR, Act.put, zA, zB, zC]; rfl) ?_
          refine J.Chain.nil ⟨?_, ?_⟩
          · refine J.Each.cons (by rfl) ?_ ?_; exact ⟨rfl, fun vs M u hO _ K hK => by (refine wp_build_one (cs := [.int .i64 0, .int .i64 1, .string x]) hO rfl (by simp only [Act.eval, zJ, zP, J.putL, zI, zG, zH, J.dstOf, zF, zD, zE, zS, zQ, zR, Act.put, zA, zB, zC]; rfl) rfl rfl (zM rfl) rfl fun b u hO => ?_; exact hK _ _ _ (show (J.freshS 83 [.int .i64 0, .int .i64 1, .string x]) _ from ⟨b, rfl⟩) hO)⟩; exact J.Each.nil
          intro vs u hO hF
          obtain ⟨b2, h4⟩ : J.freshS _ _ (vs 4) := hF 4 (by decide)
          clear hF
          simp only [List.flatMap_cons, List.flatMap_nil, h4, List.append_nil, zL, zK] at hO
          simp only [h4, J.putL, zI, zG, zH, J.dstOf, zF, zD, zE, zS, zQ, zR, Act.put, zA, zB, zC]
          clear h4 vs
          refine J.wpAny_one (i := 5) (by kernel_rfl) (by rfl) rfl fun K hK => ?_
          refine wp_append_box hO rfl rfl rfl _ (by exact at2) _ (by exact at3) (by rfl) (by simp [Value.oneCell']) (by omega) (by omega) rfl ?_
          clear hO
          intro A' c' u hO
          simp only [zC, zB] at hO
          simp only [Act.put, zA, zB, zC]
          refine hK _ _ ?_
          clear hK K
          refine J.wpAny_one (i := 6) (by kernel_rfl) (by rfl) rfl fun K hK => ?_
          simp only [wp_at_zero, wp_at_succ]
          go_step
          refine hK _ _ ?_
          clear hK K
          refine J.wpAny_one (i := 7) (by kernel_rfl) (by rfl) rfl fun K hK => ?_
          (refine wp_store_field hO rfl rfl _ (by exact at1) (zM rfl) (by simp only [Act.eval, zJ, zF, zD, zE, zP]; rfl) (by rfl) (by rfl) (by rfl) ?_; clear hO; intro u hO; simp only [zC, zB] at hO; refine hK _ _ ?_; clear hK K)
          refine wpAny_done (by kernel_rfl) ?_ _
          go_wp2_with (first
            | ((with_reducible refine wpl_alloc ?_); refine wpList_alloc_own rfl (by rfl) hO rfl (fun b => by simp only [Act.put, zA, zB, zC]; rfl) ?_; (first | (refine nm 0 rfl ?_; clear hO; intro b0 u hO) | (refine nm 1 rfl ?_; clear hO; intro b1 u hO) | (refine nm 2 rfl ?_; clear hO; intro b2 u hO) | (refine nm 3 rfl ?_; clear hO; intro b3 u hO)); simp only [zL, zK] at hO)
            | ((with_reducible refine wpl_box ?_); refine wpList_box_own rfl (by rfl) hO rfl rfl (fun b => by simp only [Act.put, zA, zB, zC]; rfl) ?_; (first | (refine nm 0 rfl ?_; clear hO; intro b0 u hO) | (refine nm 1 rfl ?_; clear hO; intro b1 u hO) | (refine nm 2 rfl ?_; clear hO; intro b2 u hO) | (refine nm 3 rfl ?_; clear hO; intro b3 u hO)); simp only [zL, zK] at hO)
            | ((with_reducible refine wpl_load ?_); refine wpList_load_box rfl (by (first | rfl | (simp only [Region.wanted, yielded, *]; go_simp; done) | (simp [Region.wanted, yielded, *]; done) | fail)) hO rfl _ (by (first | exact at0 | exact at1 | exact at2 | exact at3)) (by rfl) (by simp only [Act.put, zA, zB, zC]; rfl) ?_)
            | ((with_reducible refine wpl_load ?_); refine wpList_load_field rfl (by (first | rfl | (simp only [Region.wanted, yielded, *]; go_simp; done) | (simp [Region.wanted, yielded, *]; done) | fail)) hO rfl _ (by (first | exact at0 | exact at1 | exact at2 | exact at3)) (by rfl) (by simp only [Act.put, zA, zB, zC]; rfl) ?_)
            | ((with_reducible refine wpl_store ?_); refine wpList_store_box rfl (by rfl) hO rfl _ (by (first | exact at0 | exact at1 | exact at2 | exact at3)) rfl (by rfl) (by rfl) (by rfl) (by rfl) (by rfl) ?_; clear hO; intro u hO; simp only [zC, zB] at hO)
            | ((with_reducible refine wpl_store ?_); refine wpList_store_field rfl (by rfl) hO rfl _ (by (first | exact at0 | exact at1 | exact at2 | exact at3)) (zM rfl) (by simp only [Act.eval, zJ, zF, zD, zE, zP]; rfl) (by rfl) (by rfl) (by rfl) ?_; clear hO; intro u hO; simp only [zC, zB] at hO)
            | fail)
          replace hO := hO.pick [0, 1, 2] (by decide)
          simp only [zN, zO, zE, zD] at hO
          rw [← HS.out] at hO
          go_roundw
          case rel => exact ⟨m + 1, _, _, by omega, by go_num, by show _ = _; rw [HT.out, hsh.out, HD.out]; rfl, hO⟩
          case measure => simp [intOf]; omega
      · have hmn : m = n := by omega
        have HT : Hid (ss.take m = ss) := Lib.hid (List.take_of_length_le (by rw [HL.out]; omega))
        have HN : Hid (m = (ss.map txI).length) := Lib.hid (by rw [List.length_map, HL.out]; exact hmn)
        rw [HT.out] at hO hsh
        have HE : Hid (tvT ss = vecI 3 (ss.map txI)) := Lib.hid (by unfold tvT; rw [if_pos ⟨by rw [HL.out]; omega, hsh.out⟩])
        subst hmn
        go_wp2_with (first
          | ((with_reducible refine wpl_load ?_); refine wpList_load_box rfl (by rfl) hO rfl _ (by exact at1) (by rfl) (by simp only [Act.put, zA, zB, zC]; rfl) ?_)
          | ((with_reducible refine wpl_store ?_); refine wpList_store_box rfl (by rfl) hO rfl _ (by exact at0) rfl (by rfl) (by rfl) (by rfl) (by rfl) (by rfl) ?_; clear hO; intro u hO; simp only [zC, zB] at hO)
          | fail)
        have hR := hO.pick [2] (by decide)
        simp only [List.filterMap_cons, List.filterMap_nil, List.getElem?_cons_zero, List.getElem?_cons_succ] at hR
        have hq := HN.out
        refine ret_box rfl hO rfl 0 at0 rfl rfl ?_
        clear hO
        rw [hq] at hR ⊢
        obtain ⟨F, hvo, hF⟩ := Own.vecI hR 3
        exact ⟨_, _, rfl, by rw [HE.out]; exact hvo, hF⟩

set_option maxHeartbeats 2000000 in
theorem spec_textVec (A : Option Addr) (n c : Nat) (ss : List ByteArray) (w : World) (h : Sl w 1 A n (stc ss)) (hn : n ≤ 1048576) (hz : stz ss ≤ 1048576 - n) : Calls Try.prog 162 #[.slice A n c] w (RetV (tvT ss) w) := by
  have hl : ss.length = n := by have := h.len; simpa [stc] using this
  by_cases g : 40 < n
  · have HE : Hid (tvT ss = vecI 0 []) := Lib.hid (by unfold tvT; rw [if_neg (by omega)])
    clear hl
    have CV : ∀ u vs, RdV u (vecI 3 []) vs → Calls Try.prog 55 #[.agg vs.toArray] u fun e w' => e = .returned (.bool true) ∧ Below u.heap.size u w' := fun u vs hv => by
      have h := spec_isVec (vecI 3 []) vs u hv (by simp [vecI, szV, szI, szL, szS, stz, itz])
      rwa [show isV (vecI 3 []) = true from (isV_tx [] (by simp)).trans rfl] at h
    go_enter Try.func162, Try.ntmps162
    have hO := Own.nil w
    go_wp2_with (first
      | ((with_reducible refine wpl_alloc ?_); refine wpList_alloc_own rfl (by rfl) hO rfl (fun b => by simp only [Act.put, zA, zB, zC]; rfl) ?_; (first | (refine nm 0 rfl ?_; clear hO; intro b0 u hO) | (refine nm 1 rfl ?_; clear hO; intro b1 u hO) | fail); simp only [zL, zK] at hO)
      | ((with_reducible refine wpl_store ?_); refine wpList_store_box rfl (by rfl) hO rfl _ (by exact at1) rfl (by rfl) (by rfl) (by rfl) (by rfl) (by rfl) ?_; clear hO; intro u hO; simp only [zC, zB] at hO)
      | fail)
    go_loopw [4] (fun i u => i = .int .i64 0 ∧ Own w [box b0 29 [.int .i64 0, .slice none 0 0, .slice none 0 0, .slice none 0 0, .slice none 0 0, .slice none 0 0, .int .i64 0, .int .i64 0], box b1 29 [.int .i64 3, .slice none 0 0, .slice none 0 0, .slice none 0 0, .slice none 0 0, .slice none 0 0, .int .i64 0, .int .i64 0]] u) (fun i _ => 0)
    case atStart => exact ⟨rfl, hO⟩
    case round =>
      clear hO
      obtain ⟨rfl, hO⟩ := hrel
      go_wp2_with (first
        | ((with_reducible refine wpl_load ?_); refine wpList_load_box rfl (by rfl) hO rfl _ (by exact at1) (by rfl) (by simp only [Act.put, zA, zB, zC]; rfl) ?_)
        | fail)
      replace hO := hO.addNil 83 3
      simp only [List.cons_append, List.nil_append] at hO
      refine (CV _ _ (Own.rdI (is := []) hO 2 rfl rfl 3)).mono ?_
      rintro e u ⟨rfl, hb⟩
      (replace hO := hO.step hb; clear hb)
      go_wp2_with (first
        | ((with_reducible refine wpl_store ?_); refine wpList_store_box rfl (by rfl) hO rfl _ (by exact at0) rfl (by rfl) (by rfl) (by rfl) (by rfl) (by rfl) ?_; clear hO; intro u hO; simp only [zC, zB] at hO)
        | fail)
      obtain ⟨F, hvo, hF⟩ := Own.vec0 u 0
      exact ret_box rfl hO rfl 0 at0 rfl rfl ⟨_, _, rfl, by rw [HE.out]; exact hvo, (hO.call hF).pick [0] (by decide)⟩
  · have g' : n ≤ 40 := by omega
    have HZ : Hid (szV (vecI 3 (ss.map txI)) ≤ 1048576) := Lib.hid (by
      have hz2 := itz_tx ss
      simp only [vecI, szV, szI, szL, szS, stz, List.length_map, List.length_nil]
      omega)
    have HV := Lib.hid (isV_tx ss (by omega))
    have HL := Lib.hid hl
    clear g hl hz
    go_enter Try.func162, Try.ntmps162
    have hO := Own.nil w
    go_wp2_with (first
      | ((with_reducible refine wpl_alloc ?_); refine wpList_alloc_own rfl (by rfl) hO rfl (fun b => by simp only [Act.put, zA, zB, zC]; rfl) ?_; (first | (refine nm 0 rfl ?_; clear hO; intro b0 u hO) | (refine nm 1 rfl ?_; clear hO; intro b1 u hO) | fail); simp only [zL, zK] at hO)
      | ((with_reducible refine wpl_store ?_); refine wpList_store_box rfl (by rfl) hO rfl _ (by exact at1) rfl (by rfl) (by rfl) (by rfl) (by rfl) (by rfl) ?_; clear hO; intro u hO; simp only [zC, zB] at hO)
      | fail)
    replace hO := hO.addNil 83 3
    simp only [List.cons_append, List.nil_append] at hO
    go_loopw [4] (fun i u => ∃ (m : Nat) (A' : Option Addr) (c' : Nat), m ≤ n ∧ i = .int .i64 m ∧ Own w [box b0 29 [.int .i64 0, .slice none 0 0, .slice none 0 0, .slice none 0 0, .slice none 0 0, .slice none 0 0, .int .i64 0, .int .i64 0], box b1 29 [.int .i64 3, .slice A' m c', .slice none 0 0, .slice none 0 0, .slice none 0 0, .slice none 0 0, .int .i64 0, .int .i64 0], row 83 3 (.slice A' m c') m (itc ((ss.take m).map txI))] u) (fun i _ => n - (intOf i).toNat)
    case atStart => exact ⟨0, none, 0, Nat.zero_le _, rfl, hO⟩
    case round =>
      clear hO
      obtain ⟨m, A', c', hm, rfl, hO⟩ := hrel
      by_cases hlt : m < n
      · have hml : m < ss.length := by rw [HL.out]; exact hlt
        obtain ⟨b, off, rfl, hb, d0⟩ := Sl.txn h (Below.refl _ _) hlt hml
        have HS := Lib.hid (itc_map_succ txI hml)
        obtain ⟨x, hx⟩ : ∃ x, ss[m] = x := ⟨_, rfl⟩
        rw [hx] at d0 HS
        clear hx hml
        rw [txI_cells] at HS
        have i1 : (0 : Int) ≤ (m : Int) := by omega
        have i2 : (m : Int) < (n : Int) := by omega
        go_wp2_with (first
          | ((with_reducible refine wpl_alloc ?_); refine wpList_alloc_own rfl (by rfl) hO rfl (fun b => by simp only [Act.put, zA, zB, zC]; rfl) ?_; (first | (refine nm 0 rfl ?_; clear hO; intro b0 u hO) | (refine nm 1 rfl ?_; clear hO; intro b1 u hO) | (refine nm 2 rfl ?_; clear hO; intro b2 u hO) | (refine nm 3 rfl ?_; clear hO; intro b3 u hO) | (refine nm 4 rfl ?_; clear hO; intro b4 u hO)); simp only [zL, zK] at hO)
          | ((with_reducible refine wpl_box ?_); refine wpList_box_own rfl (by rfl) hO rfl rfl (fun b => by simp only [Act.put, zA, zB, zC]; rfl) ?_; (first | (refine nm 0 rfl ?_; clear hO; intro b0 u hO) | (refine nm 1 rfl ?_; clear hO; intro b1 u hO) | (refine nm 2 rfl ?_; clear hO; intro b2 u hO) | (refine nm 3 rfl ?_; clear hO; intro b3 u hO) | (refine nm 4 rfl ?_; clear hO; intro b4 u hO)); simp only [zL, zK] at hO)
          | ((with_reducible refine wpl_load ?_); refine wpList_load_box rfl (by (first | rfl | (simp only [Region.wanted, yielded, *]; go_simp; done) | (simp [Region.wanted, yielded, *]; done) | fail)) hO rfl _ (by (first | exact at0 | exact at1 | exact at2 | exact at3 | exact at4)) (by rfl) (by simp only [Act.put, zA, zB, zC]; rfl) ?_)
          | ((with_reducible refine wpl_load ?_); refine wpList_load_field rfl (by (first | rfl | (simp only [Region.wanted, yielded, *]; go_simp; done) | (simp [Region.wanted, yielded, *]; done) | fail)) hO rfl _ (by (first | exact at0 | exact at1 | exact at2 | exact at3 | exact at4)) (by rfl) (by simp only [Act.put, zA, zB, zC]; rfl) ?_)
          | ((with_reducible refine wpl_store ?_); refine wpList_store_box rfl (by rfl) hO rfl _ (by (first | exact at0 | exact at1 | exact at2 | exact at3 | exact at4)) rfl (by rfl) (by rfl) (by rfl) (by rfl) (by rfl) ?_; clear hO; intro u hO; simp only [zC, zB] at hO)
          | ((with_reducible refine wpl_store ?_); refine wpList_store_field rfl (by rfl) hO rfl _ (by (first | exact at0 | exact at1 | exact at2 | exact at3 | exact at4)) (zM rfl) (by simp only [Act.eval, zJ, zF, zD, zE, zP]; rfl) (by rfl) (by rfl) (by rfl) ?_; clear hO; intro u hO; simp only [zC, zB] at hO)
          | fail)
        refine J.wp_region_c (n := 37) [0, 1, 2, 3, 4, 5, 6] [7] (deps := fun i => [[], [0], [], [], [2, 3], [2, 3, 4], [2, 3, 4, 5], [2, 3, 4, 5, 6], [], [], []].getD i []) (fun _ _ => (J.freshS 83 [.int .i64 0, .int .i64 1, .string x])) (r := 3) (lst := #[true, true, true, true, true, true, true, true, false, false, false]) (by kernel_rfl) (by kernel_rfl) (by kernel_rfl) rfl (by decide) (by kernel_rfl) hO ?_
        refine J.Chain.cons (by rfl) (by rfl) (fun M u hO K hK => by (simp only [wp_at_zero, wp_at_succ]; go_step; exact hK _ hO)) (by simp only [J.putL, zI, zG, zH, J.dstOf, zF, zD, zE, zS, zQ, zR, Act.put, zA, zB, zC]; rfl) ?_
        refine J.Chain.cons (by rfl) (by rfl) (fun M u hO K hK => by (exact wp_load_field hO rfl rfl _ (by exact at1) (by rfl) (by rfl) (hK _ hO))) (by simp only [J.putL, zI, zG, zH, J.dstOf, zF, zD, zE, zS, zQ, zR, Act.put, zA, zB, zC]; rfl) ?_
        refine J.Chain.cons (by rfl) (by rfl) (fun M u hO K hK => by (simp only [wp_at_zero, wp_at_succ]; go_step; exact hK _ hO)) (by simp only [J.putL, zI, zG, zH, J.dstOf, zF, zD, zE, zS, zQ, zR, Act.put, zA, zB, zC]; rfl) ?_
        refine J.Chain.cons (by rfl) (by rfl) (fun M u hO K hK => by (simp only [wp_at_zero, wp_at_succ]; go_step; exact hK _ hO)) (by simp only [J.putL, zI, zG, zH, J.dstOf, zF, zD, zE, zS, zQ, zR, Act.put, zA, zB, zC]; rfl) ?_
        refine J.Chain.cons (by rfl) (by rfl) (fun M u hO K hK => by (simp only [wp_at_zero, wp_at_succ]; go_step; exact hK _ hO)) (by simp only [J.putL, zI, zG, zH, J.dstOf, zF, zD, zE, zS, zQ, zR, Act.put, zA, zB, zC]; rfl) ?_
        refine J.Chain.cons (by rfl) (by rfl) (fun M u hO K hK => by ((have e0 := (hO.old hb).trans d0; simp only [wp_at_zero, wp_at_succ]; go_step; exact hK _ hO))) (by simp only [J.putL, zI, zG, zH, J.dstOf, zF, zD, zE, zS, zQ, zR, Act.put, zA, zB, zC]; rfl) ?_
        refine J.Chain.cons (by rfl) (by rfl) (fun M u hO K hK => by (simp only [wp_at_zero, wp_at_succ]; go_step; refine (spec_textItemT _ _).mono ?_; rintro e u ⟨rfl, hb⟩; exact hK _ (hO.step hb))) (by simp only [J.putL, zI, zG, zH, J.dstOf, zF, zD, zE, zS, zQ, zR, Act.put, zA, zB, zC]; rfl) ?_
        refine J.Chain.nil ⟨?_, ?_⟩
        · refine J.Each.cons (by rfl) ?_ ?_; exact ⟨rfl, fun vs M u hO _ K hK => by (refine wp_build_one (cs := [.int .i64 0, .int .i64 1, .string x]) hO rfl (by simp only [Act.eval, zJ, zP, J.putL, zI, zG, zH, J.dstOf, zF, zD, zE, zS, zQ, zR, Act.put, zA, zB, zC]; rfl) rfl rfl (zM rfl) rfl fun b u hO => ?_; exact hK _ _ _ (show (J.freshS 83 [.int .i64 0, .int .i64 1, .string x]) _ from ⟨b, rfl⟩) hO)⟩; exact J.Each.nil
        intro vs u hO hF
        obtain ⟨b2, h7⟩ : J.freshS _ _ (vs 7) := hF 7 (by decide)
        clear hF
        simp only [List.flatMap_cons, List.flatMap_nil, h7, List.append_nil, zL, zK] at hO
        simp only [h7, J.putL, zI, zG, zH, J.dstOf, zF, zD, zE, zS, zQ, zR, Act.put, zA, zB, zC]
        clear h7 vs
        refine J.wpAny_one (i := 8) (by kernel_rfl) (by rfl) rfl fun K hK => ?_
        refine wp_append_box hO rfl rfl rfl _ (by exact at2) _ (by exact at3) (by rfl) (by simp [Value.oneCell']) (by omega) (by omega) rfl ?_
        clear hO
        intro A' c' u hO
        simp only [zC, zB] at hO
        simp only [Act.put, zA, zB, zC]
        refine hK _ _ ?_
        clear hK K
        refine J.wpAny_one (i := 9) (by kernel_rfl) (by rfl) rfl fun K hK => ?_
        simp only [wp_at_zero, wp_at_succ]
        go_step
        refine hK _ _ ?_
        clear hK K
        refine J.wpAny_one (i := 10) (by kernel_rfl) (by rfl) rfl fun K hK => ?_
        (refine wp_store_field hO rfl rfl _ (by exact at1) (zM rfl) (by simp only [Act.eval, zJ, zF, zD, zE, zP]; rfl) (by rfl) (by rfl) (by rfl) ?_; clear hO; intro u hO; simp only [zC, zB] at hO; refine hK _ _ ?_; clear hK K)
        refine wpAny_done (by kernel_rfl) ?_ _
        go_wp2_with (first
          | ((with_reducible refine wpl_alloc ?_); refine wpList_alloc_own rfl (by rfl) hO rfl (fun b => by simp only [Act.put, zA, zB, zC]; rfl) ?_; (first | (refine nm 0 rfl ?_; clear hO; intro b0 u hO) | (refine nm 1 rfl ?_; clear hO; intro b1 u hO) | (refine nm 2 rfl ?_; clear hO; intro b2 u hO) | (refine nm 3 rfl ?_; clear hO; intro b3 u hO) | (refine nm 4 rfl ?_; clear hO; intro b4 u hO)); simp only [zL, zK] at hO)
          | ((with_reducible refine wpl_box ?_); refine wpList_box_own rfl (by rfl) hO rfl rfl (fun b => by simp only [Act.put, zA, zB, zC]; rfl) ?_; (first | (refine nm 0 rfl ?_; clear hO; intro b0 u hO) | (refine nm 1 rfl ?_; clear hO; intro b1 u hO) | (refine nm 2 rfl ?_; clear hO; intro b2 u hO) | (refine nm 3 rfl ?_; clear hO; intro b3 u hO) | (refine nm 4 rfl ?_; clear hO; intro b4 u hO)); simp only [zL, zK] at hO)
          | ((with_reducible refine wpl_load ?_); refine wpList_load_box rfl (by (first | rfl | (simp only [Region.wanted, yielded, *]; go_simp; done) | (simp [Region.wanted, yielded, *]; done) | fail)) hO rfl _ (by (first | exact at0 | exact at1 | exact at2 | exact at3 | exact at4)) (by rfl) (by simp only [Act.put, zA, zB, zC]; rfl) ?_)
          | ((with_reducible refine wpl_load ?_); refine wpList_load_field rfl (by (first | rfl | (simp only [Region.wanted, yielded, *]; go_simp; done) | (simp [Region.wanted, yielded, *]; done) | fail)) hO rfl _ (by (first | exact at0 | exact at1 | exact at2 | exact at3 | exact at4)) (by rfl) (by simp only [Act.put, zA, zB, zC]; rfl) ?_)
          | ((with_reducible refine wpl_store ?_); refine wpList_store_box rfl (by rfl) hO rfl _ (by (first | exact at0 | exact at1 | exact at2 | exact at3 | exact at4)) rfl (by rfl) (by rfl) (by rfl) (by rfl) (by rfl) ?_; clear hO; intro u hO; simp only [zC, zB] at hO)
          | ((with_reducible refine wpl_store ?_); refine wpList_store_field rfl (by rfl) hO rfl _ (by (first | exact at0 | exact at1 | exact at2 | exact at3 | exact at4)) (zM rfl) (by simp only [Act.eval, zJ, zF, zD, zE, zP]; rfl) (by rfl) (by rfl) (by rfl) ?_; clear hO; intro u hO; simp only [zC, zB] at hO)
          | fail)
        replace hO := hO.pick [0, 1, 2] (by decide)
        simp only [zN, zO, zE, zD] at hO
        rw [← HS.out] at hO
        go_roundw
        case rel => exact ⟨m + 1, _, _, by omega, by go_num, hO⟩
        case measure => simp [intOf]; omega
      · have hmn : m = n := by omega
        have HT : Hid (ss.take m = ss) := Lib.hid (List.take_of_length_le (by rw [HL.out]; omega))
        have HN : Hid ((ss.map txI).length = m) := Lib.hid (by rw [List.length_map, HL.out]; exact hmn.symm)
        rw [HT.out] at hO
        subst hmn
        have CV := fun u vs hv => spec_isVec (vecI 3 (ss.map txI)) vs u hv HZ.out
        obtain ⟨q, hq⟩ : ∃ q, shortB ss = q := ⟨_, rfl⟩
        rw [HV.out, hq] at CV
        have HQ := Lib.hid hq
        clear hq
        go_wp2_with (first
          | ((with_reducible refine wpl_load ?_); refine wpList_load_box rfl (by rfl) hO rfl _ (by exact at1) (by rfl) (by simp only [Act.put, zA, zB, zC]; rfl) ?_)
          | fail)
        refine (CV _ _ (Own.rdI hO 2 rfl HN.out 3)).mono ?_
        rintro e u ⟨rfl, hb⟩
        (replace hO := hO.step hb; clear hb)
        cases q with
        | false =>
          have HE : Hid (tvT ss = vecI 0 []) := Lib.hid (by unfold tvT; rw [HQ.out, if_neg (by simp)])
          go_wp2_with (first
            | ((with_reducible refine wpl_store ?_); refine wpList_store_box rfl (by rfl) hO rfl _ (by exact at0) rfl (by rfl) (by rfl) (by rfl) (by rfl) (by rfl) ?_; clear hO; intro u hO; simp only [zC, zB] at hO)
            | fail)
          obtain ⟨F, hvo, hF⟩ := Own.vec0 u 0
          exact ret_box rfl hO rfl 0 at0 rfl rfl ⟨_, _, rfl, by rw [HE.out]; exact hvo, (hO.call hF).pick [0] (by decide)⟩
        | true =>
          have HE : Hid (tvT ss = vecI 3 (ss.map txI)) := Lib.hid (by unfold tvT; rw [if_pos ⟨by rw [HL.out]; omega, HQ.out⟩])
          go_wp2_with (first
            | ((with_reducible refine wpl_load ?_); refine wpList_load_box rfl (by rfl) hO rfl _ (by exact at1) (by rfl) (by simp only [Act.put, zA, zB, zC]; rfl) ?_)
            | ((with_reducible refine wpl_store ?_); refine wpList_store_box rfl (by rfl) hO rfl _ (by exact at0) rfl (by rfl) (by rfl) (by rfl) (by rfl) (by rfl) ?_; clear hO; intro u hO; simp only [zC, zB] at hO)
            | fail)
          have hR := hO.pick [2] (by decide)
          simp only [List.filterMap_cons, List.filterMap_nil, List.getElem?_cons_zero, List.getElem?_cons_succ] at hR
          have hq := HN.out.symm
          refine ret_box rfl hO rfl 0 at0 rfl rfl ?_
          clear hO
          rw [hq] at hR ⊢
          obtain ⟨F, hvo, hF⟩ := Own.vecI hR 3
          exact ⟨_, _, rfl, by rw [HE.out]; exact hvo, hF⟩

end Go.Proofs.Ytmofcbpabdbjlaa
