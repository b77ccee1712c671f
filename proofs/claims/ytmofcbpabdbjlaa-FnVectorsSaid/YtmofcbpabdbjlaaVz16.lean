/-
  What is proved: what the small tests on items, texts and vectors return (of the program and of the reference). what the reference's tests on lists of texts return; what both tests of a vector's node return.
  Condition: lengths that a machine holds.
-/
import Derived.Test.YtmofcbpabdbjlaaVz5
import Derived.Test.YtmofcbpabdbjlaaVz6
import Derived.Test.YtmofcbpabdbjlaaVz8
import Derived.Test.YtmofcbpabdbjlaaVz11
import Derived.Test.YtmofcbpabdbjlaaVz15
namespace Go.Proofs.Ytmofcbpabdbjlaa

set_option maxRecDepth 8000

section

open Go.RowKit Go.ChangeShapes Go.WideShapes

set_option linter.unusedVariables false

set_option linter.unusedSimpArgs false

theorem impl_isMissing (n d : Int) (t : ByteArray) (w : World) : Calls Try.prog 93 #[.agg #[.int .i64 n, .int .i64 d, .string t]] w fun e w' => e = .returned (.bool (misB ⟨n, d, t⟩)) ∧ Below w.heap.size w w' := by
  go_enter Try.func93, Try.ntmps93
  have hO := Own.nil w
  go_wp2_with (first | ((with_reducible refine zaf ?_); refine zbx rfl hO rfl rfl ?_; (refine nm 0 rfl ?_; clear hO; intro b0 u hO); simp only [zL, zK] at hO) | ((with_reducible refine zaa ?_); refine zlb rfl hO rfl _ (by exact at0) ?_) | fail)
  all_goals
    go_ret
    refine ⟨zaj ?_, hO.below⟩
    simp_all [misB]

theorem impl_isAtomic (k : Int) (v1 v2 v3 v4 v5 v6 v7 : Value) (w : World) : Calls Try.prog 199 #[.agg #[.int .i64 k, v1, v2, v3, v4, v5, v6, v7]] w fun e w' => e = .returned (.bool (decide (1 ≤ k ∧ k ≤ 3))) ∧ Below w.heap.size w w' := by
  go_enter Try.func199, Try.ntmps199
  have hO := Own.nil w
  go_wp2_with (first | ((with_reducible refine zaf ?_); refine zbx rfl hO rfl rfl ?_; (refine nm 0 rfl ?_; clear hO; intro b0 u hO); simp only [zL, zK] at hO) | ((with_reducible refine zaa ?_); refine zai rfl (by (first | rfl | (simp only [Region.wanted, yielded, *]; go_simp; done) | fail)) hO rfl _ (by exact at0) (by rfl) (by simp only [Act.put, zA, zB, zC]; rfl) ?_) | fail)
  all_goals
    go_ret
    refine ⟨zaj ?_, hO.below⟩
    rw [Bool.eq_iff_iff]
    simp_all <;> omega

def lenN (k : Int) (ni np : Nat) : Nat := if k = 5 then 1 else ni + np

theorem impl_length (k : Int) (Ai Ap : Option Addr) (ni np ci cp : Nat) (v3 v4 v5 v6 v7 : Value) (w : World) (h : (ni : Int) + np ≤ 9223372036854775807) : Calls Try.prog 106 #[.agg #[.int .i64 k, .slice Ai ni ci, .slice Ap np cp, v3, v4, v5, v6, v7]] w fun e w' => e = .returned (.int .i64 (lenN k ni np : Int)) ∧ Below w.heap.size w w' := by
  by_cases hk : k = 5
  · subst hk
    go_enter Try.func106, Try.ntmps106
    have hO := Own.nil w
    go_wp2_with (first | ((with_reducible refine zaf ?_); refine zbx rfl hO rfl rfl ?_; (refine nm 0 rfl ?_; clear hO; intro b0 u hO); simp only [zL, zK] at hO) | ((with_reducible refine zaa ?_); refine zlf rfl hO rfl _ (by exact at0) ?_) | fail)
    go_ret
    exact ⟨rfl, hO.below⟩
  · have hk' : (k == 5) = false := by simpa using hk
    have HE := Lib.hid (show lenN k ni np = ni + np from if_neg hk)
    clear hk
    go_enter Try.func106, Try.ntmps106
    have hO := Own.nil w
    go_wp2_with (first | ((with_reducible refine zaf ?_); refine zbx rfl hO rfl rfl ?_; (refine nm 0 rfl ?_; clear hO; intro b0 u hO); simp only [zL, zK] at hO) | ((with_reducible refine zaa ?_); refine zlf rfl hO rfl _ (by exact at0) ?_) | fail)
    go_ret
    exact ⟨ret_int (by rw [HE.out]; omega), hO.below⟩

theorem spec_len (k : Int) (Ai Ap : Option Addr) (ni np ci cp : Nat) (v3 v4 v5 v6 v7 : Value) (w : World) (h : (ni : Int) + np ≤ 9223372036854775807) : Calls Try.prog 80 #[.agg #[.int .i64 k, .slice Ai ni ci, .slice Ap np cp, v3, v4, v5, v6, v7]] w fun e w' => e = .returned (.int .i64 (lenN k ni np : Int)) ∧ Below w.heap.size w w' := by
  by_cases hk : k = 5
  · subst hk
    go_enter Try.func80, Try.ntmps80
    have hO := Own.nil w
    go_wp2_with (first | ((with_reducible refine zaf ?_); refine zbx rfl hO rfl rfl ?_; (refine nm 0 rfl ?_; clear hO; intro b0 u hO); simp only [zL, zK] at hO) | ((with_reducible refine zaa ?_); refine zlf rfl hO rfl _ (by exact at0) ?_) | fail)
    go_ret
    exact ⟨rfl, hO.below⟩
  · have hk' : (k == 5) = false := by simpa using hk
    have HE := Lib.hid (show lenN k ni np = ni + np from if_neg hk)
    clear hk
    go_enter Try.func80, Try.ntmps80
    have hO := Own.nil w
    go_wp2_with (first | ((with_reducible refine zaf ?_); refine zbx rfl hO rfl rfl ?_; (refine nm 0 rfl ?_; clear hO; intro b0 u hO); simp only [zL, zK] at hO) | ((with_reducible refine zaa ?_); refine zlf rfl hO rfl _ (by exact at0) ?_) | fail)
    go_ret
    exact ⟨ret_int (by rw [HE.out]; omega), hO.below⟩

/-- the place of a text in a list -/
theorem impl_textIndex (A : Option Addr) (c : Nat) (l : List ByteArray) (s : ByteArray) (n : Nat) (w : World) (hnl : l.length = n) (h : Sl w 1 A n (stc l)) (hn : n ≤ 9223372036854775807) :
    Calls Try.prog 221 #[.slice A n c, .string s] w fun e w' => e = .returned (.int .i64 (findS l s)) ∧ w = w' := by
  subst hnl
  go_enter Try.func221, Try.ntmps221
  go_wp2_with fail
  go_loop [9] (fun i => ∃ k : Nat, k ≤ l.length ∧ i = .int .i64 k ∧ Hid (∀ j, j < k → ((l[j]?.getD ByteArray.empty).toList == s.toList) = false)) (fun i => l.length - (intOf i).toNat)
  case atStart => exact ⟨0, Nat.zero_le _, rfl, fun j h => absurd h (by omega)⟩
  case round =>
    obtain ⟨k, hk, rfl, hall⟩ := hrel
    by_cases hlt : k < l.length
    · obtain ⟨b, off, rfl, hb, hc⟩ := h.tx (Below.refl _ _) hlt rfl
      have hg : l[k]?.getD ByteArray.empty = l[k] := by simp [hlt]
      obtain ⟨x, hx⟩ : ∃ x, l[k] = x := ⟨_, rfl⟩
      rw [hx] at hc hg
      clear hx
      by_cases he : (x.toList == s.toList) = true
      · have fin := Lib.hid (find_hit hlt hall.out (by rw [hg]; exact he))
        clear hg
        go_wp2_with fail
        go_ret
        exact ⟨ret_int fin.out.symm, rfl⟩
      · have he' : (x.toList == s.toList) = false := by simpa using he
        have hs : Hid (∀ j, j < k + 1 → ((l[j]?.getD ByteArray.empty).toList == s.toList) = false) := fun j hj => by
          by_cases e : j = k
          · subst e; rw [hg]; exact he'
          · exact hall.out j (by omega)
        clear he hg
        go_wp2_with fail
        go_round
        case rel => exact ⟨k + 1, by omega, by go_num, hs⟩
        case measure => simp [intOf]; omega
    · have hkn : k = l.length := by omega
      have fin := Lib.hid (find_miss (l := l) (s := s) (fun j hj => hall.out j (by omega)))
      subst hkn
      go_wp2_with fail
      go_ret
      exact ⟨ret_int fin.out.symm, rfl⟩

theorem impl_hasText (A : Option Addr) (c : Nat) (l : List ByteArray) (s : ByteArray) (n : Nat) (w : World) (hnl : l.length = n) (h : Sl w 1 A n (stc l)) (hn : n ≤ 9223372036854775807) :
    Calls Try.prog 216 #[.slice A n c, .string s] w fun e w' => e = .returned (.bool (l.any fun x => x.toList == s.toList)) ∧ w = w' := by
  have HF := Lib.hid (find_any l s)
  go_enter Try.func216, Try.ntmps216
  go_wp2_with fail
  refine (impl_textIndex A c l s n _ hnl h hn).mono ?_
  rintro e w' ⟨rfl, rfl⟩
  go_wp2_with fail
  go_ret
  exact ⟨zaj (by rw [← HF.out]), rfl⟩

theorem zay {s : ByteArray} : za0 s = true ↔ s.toList = [] := by unfold za0; simp

/-- whether all texts are empty -/
theorem allE_take {l : List ByteArray} {k : Nat} (h : k < l.length) : allE (l.take (k + 1)) = (allE (l.take k) && za0 l[k]) := by rw [zat h]; unfold allE; rw [List.all_append]; simp

theorem allE_false {l : List ByteArray} {k : Nat} (h : k < l.length) (he : za0 l[k] = false) : allE l = false := by
  unfold allE
  rw [List.all_eq_false]
  exact ⟨_, List.getElem_mem h, by simp [he]⟩

theorem impl_allEmpty (A : Option Addr) (c : Nat) (l : List ByteArray) (w : World) (h : Sl w 1 A l.length (stc l)) (hn : l.length ≤ 9223372036854775807) :
    Calls Try.prog 141 #[.slice A l.length c] w fun e w' => e = .returned (.bool (allE l)) ∧ w = w' := by
  go_enter Try.func141, Try.ntmps141
  go_wp2_with fail
  go_loop [7] (fun i => ∃ k : Nat, k ≤ l.length ∧ i = .int .i64 k ∧ Hid (allE (l.take k) = true)) (fun i => l.length - (intOf i).toNat)
  case atStart => exact ⟨0, Nat.zero_le _, rfl, rfl⟩
  case round =>
    obtain ⟨k, hk, rfl, hall⟩ := hrel
    by_cases hlt : k < l.length
    · obtain ⟨b, off, rfl, hb, hc⟩ := h.tx (Below.refl _ _) hlt rfl
      have HT := Lib.hid (allE_take hlt)
      have HF := Lib.hid (fun he => allE_false (l := l) hlt he)
      obtain ⟨x, hx⟩ : ∃ x, l[k] = x := ⟨_, rfl⟩
      rw [hx] at hc HT HF
      clear hx
      by_cases he : x.toList = []
      · have he2 : (!x.toList.isEmpty) = false := by simp [he]
        have HE : Hid (za0 x = true) := Lib.hid (zay.2 he)
        go_wp2_with fail
        go_round
        case rel => exact ⟨k + 1, by omega, by go_num, by show _ = _; rw [HT.out, hall.out, HE.out]; rfl⟩
        case measure => simp [intOf]; omega
      · have he2 : (!x.toList.isEmpty) = true := by simp [he]
        have HE := Lib.hid (HF.out (by cases hq : za0 x with | false => rfl | true => exact absurd (zay.1 hq) he))
        go_wp2_with fail
        go_ret
        exact ⟨zaj HE.out.symm, rfl⟩
    · have hkn : k = l.length := by omega
      subst hkn
      rw [List.take_length] at hall
      go_wp2_with fail
      go_ret
      exact ⟨zaj hall.out.symm, rfl⟩

theorem goodN_succ (l : List ByteArray) (k : Nat) : goodN l (k + 1) = (goodN l k && okAt l k) := by simp [goodN, List.range_succ]

theorem goodN_false {l : List ByteArray} {k : Nat} (h : k < l.length) (he : okAt l k = false) : goodN l l.length = false := by
  unfold goodN
  rw [List.all_eq_false]
  exact ⟨k, List.mem_range.2 h, by simp [he]⟩

theorem okAt_eq {l : List ByteArray} {k : Nat} (h : k < l.length) : okAt l k = (!za0 l[k] && decide (l[k].size ≤ 60) && !((l.take k).any fun x => x.toList == l[k].toList)) := by
  unfold okAt
  rw [List.getD_eq_getElem?_getD, List.getElem?_eq_getElem h]
  rfl

theorem Sl.take {w : World} {A : Option Addr} {l : List ByteArray} (h : Sl w 1 A l.length (stc l)) (k : Nat) (hk : k ≤ l.length) : Sl w 1 A k (stc (l.take k)) := by
  refine ⟨by simp [stc]; omega, fun h0 => ?_⟩
  obtain ⟨b, off, e, hb, hc⟩ := h.at_ (by omega)
  refine ⟨b, off, e, hb, fun j u hu => hc j u ?_⟩
  have hj : j < k := by have := (List.getElem?_eq_some_iff.1 hu).1; simp [stc] at this; omega
  rw [← hu, stc, stc, List.map_take, List.getElem?_take_of_lt hj]

theorem impl_labels (most : Nat) (hm : most ≤ 100) (A : Option Addr) (c : Nat) (l : List ByteArray) (w : World) (h : Sl w 1 A l.length (stc l)) (hn : l.length ≤ 9223372036854775807) (hc0 : l.length ≤ c) :
    Calls Try.prog 209 #[.slice A l.length c, .int .i64 (most : Int)] w fun e w' => e = .returned (.bool (labB most l)) ∧ w = w' := by
  by_cases hml : most < l.length
  · have HL : Hid (labB most l = false) := Lib.hid (by unfold labB; rw [decide_eq_false (by omega)]; rfl)
    go_enter Try.func209, Try.ntmps209
    go_wp2_with fail
    go_ret
    exact ⟨zaj HL.out.symm, rfl⟩
  · have HL : Hid (labB most l = goodN l l.length) := Lib.hid (by unfold labB; rw [decide_eq_true (by omega)]; rfl)
    have hdd : decide (most < l.length) = false := decide_eq_false hml
    clear hml
    go_enter Try.func209, Try.ntmps209
    go_wp2_with fail
    go_loop [13] (fun i => ∃ k : Nat, k ≤ l.length ∧ i = .int .i64 k ∧ Hid (goodN l k = true)) (fun i => l.length - (intOf i).toNat)
    case atStart => exact ⟨0, Nat.zero_le _, rfl, rfl⟩
    case round =>
      obtain ⟨k, hk, rfl, hall⟩ := hrel
      by_cases hlt : k < l.length
      · obtain ⟨b, off, rfl, hb, hc⟩ := h.tx (Below.refl _ _) hlt rfl
        have HT := Lib.hid (goodN_succ l k)
        have HF := Lib.hid (fun he => goodN_false (l := l) hlt he)
        have HO := Lib.hid (okAt_eq hlt)
        have hs := h.take k hk
        obtain ⟨x, hx⟩ : ∃ x, l[k] = x := ⟨_, rfl⟩
        rw [hx] at hc HO
        clear hx
        have hcc : k ≤ c := by omega
        by_cases e1 : x.toList = []
        · have t1 : (!x.toList.isEmpty) = false := by simp [e1]
          have t2 : x.toList.isEmpty = true := by simp [e1]
          have HR := Lib.hid (HF.out (by rw [HO.out, zay.2 e1]; rfl))
          go_wp2_with fail
          go_ret
          exact ⟨zaj (by rw [HL.out, HR.out]), rfl⟩
        · have t1 : (!x.toList.isEmpty) = true := by simp [e1]
          have t2 : x.toList.isEmpty = false := by simp [e1]
          have HE : Hid (za0 x = false) := Lib.hid (by unfold za0; exact t2)
          by_cases e2 : 60 < x.size
          · have HR := Lib.hid (HF.out (by rw [HO.out, decide_eq_false (by omega)]; simp))
            go_wp2_with fail
            go_ret
            exact ⟨zaj (by rw [HL.out, HR.out]), rfl⟩
          · have HD := Lib.hid (decide_eq_true (show x.size ≤ 60 by omega))
            obtain ⟨q, hq⟩ : ∃ q, ((l.take k).any fun y => y.toList == x.toList) = q := ⟨_, rfl⟩
            have HC := fun u => impl_hasText (some ⟨b, off, none⟩) c (l.take k) x k u (by simp; omega)
            rw [hq] at HO HC
            clear hq
            cases q with
            | true =>
              have HR := Lib.hid (HF.out (by rw [HO.out]; simp))
              go_wp2_with fail
              refine (HC _ hs (by omega)).mono ?_
              rintro e w' ⟨rfl, rfl⟩
              go_wp2_with fail
              go_ret
              exact ⟨zaj (by rw [HL.out, HR.out]), rfl⟩
            | false =>
              go_wp2_with fail
              refine (HC _ hs (by omega)).mono ?_
              rintro e w' ⟨rfl, rfl⟩
              go_wp2_with fail
              go_round
              case rel => exact ⟨k + 1, by omega, by go_num, by show _ = _; rw [HT.out, hall.out, HO.out, HE.out, HD.out]; rfl⟩
              case measure => simp [intOf]; omega
      · have hkn : k = l.length := by omega
        subst hkn
        go_wp2_with fail
        go_ret
        exact ⟨zaj (by rw [HL.out, hall.out]), rfl⟩

set_option maxHeartbeats 4000000 in
theorem impl_itemValid (k n d : Int) (t : ByteArray) (w : World) (ht : t.size ≤ maxLen) : Calls Try.prog 210 #[.int .i64 k, .agg #[.int .i64 n, .int .i64 d, .string t]] w fun e w' => e = .returned (.bool (itemB k ⟨n, d, t⟩)) ∧ Below w.heap.size w w' := by
  obtain ⟨q, hq⟩ : ∃ q, misB ⟨n, d, t⟩ = q := ⟨_, rfl⟩
  have hm := fun u => impl_isMissing n d t u
  rw [hq] at hm
  cases q with
  | true =>
    have HE : Hid (itemB k ⟨n, d, t⟩ = true) := Lib.hid (by unfold itemB; rw [hq]; rfl)
    clear hq
    go_enter Try.func210, Try.ntmps210
    have hO := Own.nil w
    go_wp2_with (first | ((with_reducible refine zaf ?_); refine zbx rfl hO rfl rfl ?_; (refine nm 0 rfl ?_; clear hO; intro b0 u hO); simp only [zL, zK] at hO) | ((with_reducible refine zaa ?_); refine zlb rfl hO rfl _ (by exact at0) ?_) | fail)
    refine (hm _).mono ?_
    rintro e u ⟨rfl, hb⟩
    (replace hO := hO.step hb; clear hb)
    go_wp2_with fail
    go_ret
    exact ⟨zaj HE.out.symm, hO.below⟩
  | false =>
    by_cases k2 : k = 2
    · subst k2
      have HE : Hid (itemB 2 ⟨n, d, t⟩ = za5 n d t) := Lib.hid (by unfold itemB; rw [hq]; rfl)
      clear hq
      go_enter Try.func210, Try.ntmps210
      have hO := Own.nil w
      go_wp2_with (first | ((with_reducible refine zaf ?_); refine zbx rfl hO rfl rfl ?_; (refine nm 0 rfl ?_; clear hO; intro b0 u hO); simp only [zL, zK] at hO) | ((with_reducible refine zaa ?_); refine zlb rfl hO rfl _ (by exact at0) ?_) | fail)
      refine (hm _).mono ?_
      rintro e u ⟨rfl, hb⟩
      (replace hO := hO.step hb; clear hb)
      go_wp2_with (first | ((with_reducible refine zaa ?_); refine zlb rfl hO rfl _ (by exact at0) ?_) | fail)
      refine (impl_isnum _ _ _ _).mono ?_
      rintro e u ⟨rfl, hb⟩
      (replace hO := hO.step hb; clear hb)
      go_wp2_with fail
      go_ret
      exact ⟨zaj HE.out.symm, hO.below⟩
    · have HE : Hid (itemB k ⟨n, d, t⟩ = (if k = 1 then t.toList.isEmpty && decide (d = 1) && (decide (n = 0) || decide (n = 1)) else if k = 3 then decide (n = 0) && decide (d = 1) && decide (t.size ≤ 60) else false)) := Lib.hid (by
        unfold itemB
        rw [hq, Bool.false_or, if_neg k2])
      clear hq
      by_cases k1 : k = 1
      · subst k1
        clear k2
        go_enter Try.func210, Try.ntmps210
        have hO := Own.nil w
        go_wp2_with (first | ((with_reducible refine zaf ?_); refine zbx rfl hO rfl rfl ?_; (refine nm 0 rfl ?_; clear hO; intro b0 u hO); simp only [zL, zK] at hO) | ((with_reducible refine zaa ?_); refine zlb rfl hO rfl _ (by exact at0) ?_) | fail)
        refine (hm _).mono ?_
        rintro e u ⟨rfl, hb⟩
        (replace hO := hO.step hb; clear hb)
        go_wp2_with (first | ((with_reducible refine zaa ?_); refine zai rfl (by (first | rfl | (simp only [Region.wanted, yielded, *]; go_simp; done) | fail)) hO rfl _ (by exact at0) (by rfl) (by simp only [Act.put, zA, zB, zC]; rfl) ?_) | fail)
        all_goals
          go_ret
          exact ⟨zaj (by rw [HE.out]; first | (simp_all; done) | (rw [Bool.eq_iff_iff]; simp_all <;> omega)), hO.below⟩
      · by_cases k3 : k = 3
        · subst k3
          clear k1 k2
          go_enter Try.func210, Try.ntmps210
          have hO := Own.nil w
          go_wp2_with (first | ((with_reducible refine zaf ?_); refine zbx rfl hO rfl rfl ?_; (refine nm 0 rfl ?_; clear hO; intro b0 u hO); simp only [zL, zK] at hO) | ((with_reducible refine zaa ?_); refine zlb rfl hO rfl _ (by exact at0) ?_) | fail)
          refine (hm _).mono ?_
          rintro e u ⟨rfl, hb⟩
          (replace hO := hO.step hb; clear hb)
          go_wp2_with (first | ((with_reducible refine zaa ?_); refine zlf rfl hO rfl _ (by exact at0) ?_) | fail)
          all_goals
            go_ret
            exact ⟨zaj (by rw [HE.out]; first | (simp_all; done) | (rw [Bool.eq_iff_iff]; simp_all <;> omega)), hO.below⟩
        · go_enter Try.func210, Try.ntmps210
          have hO := Own.nil w
          go_wp2_with (first | ((with_reducible refine zaf ?_); refine zbx rfl hO rfl rfl ?_; (refine nm 0 rfl ?_; clear hO; intro b0 u hO); simp only [zL, zK] at hO) | ((with_reducible refine zaa ?_); refine zlb rfl hO rfl _ (by exact at0) ?_) | fail)
          refine (hm _).mono ?_
          rintro e u ⟨rfl, hb⟩
          (replace hO := hO.step hb; clear hb)
          go_wp2_with fail
          go_ret
          exact ⟨zaj (by rw [HE.out, if_neg k1, if_neg k3]), hO.below⟩

set_option maxHeartbeats 4000000 in
theorem spec_item (k n d : Int) (t : ByteArray) (w : World) (ht : t.size ≤ maxLen) : Calls Try.prog 186 #[.int .i64 k, .agg #[.int .i64 n, .int .i64 d, .string t]] w fun e w' => e = .returned (.bool (itemB k ⟨n, d, t⟩)) ∧ Below w.heap.size w w' := by
  by_cases k1 : k = 1
  · subst k1
    go_enter Try.func186, Try.ntmps186
    have hO := Own.nil w
    go_wp2_with (first | ((with_reducible refine (spec_in _ _ _ _).mono ?_); rintro e u ⟨rfl, hb⟩; subst hb) | ((with_reducible refine zaf ?_); refine zbx rfl hO rfl rfl ?_; (refine nm 0 rfl ?_; clear hO; intro b0 u hO); simp only [zL, zK] at hO) | ((with_reducible refine zaa ?_); refine zlb rfl hO rfl _ (by exact at0) ?_) | ((with_reducible refine zaa ?_); refine zlf rfl hO rfl _ (by exact at0) ?_) | fail)
    all_goals
      go_ret
      exact ⟨zaj (by first | (simp_all [itemB, misB, inI, isNumI, za5]; done) | (rw [Bool.eq_iff_iff]; simp_all [itemB, misB, inI, isNumI, za5] <;> omega)), hO.below⟩
  · by_cases k2 : k = 2
    · subst k2
      go_enter Try.func186, Try.ntmps186
      have hO := Own.nil w
      go_wp2_with (first | ((with_reducible refine (spec_isnum _ _ _ _).mono ?_); rintro e u ⟨rfl, hb⟩; (replace hO := hO.step hb; clear hb)) | ((with_reducible refine zaf ?_); refine zbx rfl hO rfl rfl ?_; (refine nm 0 rfl ?_; clear hO; intro b0 u hO); simp only [zL, zK] at hO) | ((with_reducible refine zaa ?_); refine zlb rfl hO rfl _ (by exact at0) ?_) | fail)
      all_goals
        go_ret
        exact ⟨zaj (by first | (simp_all [itemB, misB, inI, isNumI, za5]; done) | (rw [Bool.eq_iff_iff]; simp_all [itemB, misB, inI, isNumI, za5] <;> omega)), hO.below⟩
    · by_cases k3 : k = 3
      · subst k3
        go_enter Try.func186, Try.ntmps186
        have hO := Own.nil w
        go_wp2_with (first | ((with_reducible refine zaf ?_); refine zbx rfl hO rfl rfl ?_; (refine nm 0 rfl ?_; clear hO; intro b0 u hO); simp only [zL, zK] at hO) | ((with_reducible refine zaa ?_); refine zlb rfl hO rfl _ (by exact at0) ?_) | ((with_reducible refine zaa ?_); refine zlf rfl hO rfl _ (by exact at0) ?_) | fail)
        all_goals
          go_ret
          exact ⟨zaj (by first | (simp_all [itemB, misB, inI, isNumI, za5]; done) | (rw [Bool.eq_iff_iff]; simp_all [itemB, misB, inI, isNumI, za5] <;> omega)), hO.below⟩
      · go_enter Try.func186, Try.ntmps186
        have hO := Own.nil w
        go_wp2_with (first | ((with_reducible refine zaf ?_); refine zbx rfl hO rfl rfl ?_; (refine nm 0 rfl ?_; clear hO; intro b0 u hO); simp only [zL, zK] at hO) | ((with_reducible refine zaa ?_); refine zlb rfl hO rfl _ (by exact at0) ?_) | fail)
        all_goals
          go_ret
          exact ⟨zaj (by first | (simp_all [itemB, misB, inI, isNumI, za5]; done) | (rw [Bool.eq_iff_iff]; simp_all [itemB, misB, inI, isNumI, za5] <;> omega)), hO.below⟩

end

section

open Go.RowKit Go.ChangeShapes Go.WideShapes

set_option linter.unusedVariables false

set_option linter.unusedSimpArgs false

theorem find_take {l : List ByteArray} {k : Nat} (hk : k < l.length) {x : ByteArray} (hx : l[k] = x) : decide (findS l x < (k : Int)) = (l.take k).any fun y => y.toList == x.toList := by
  rw [Bool.eq_iff_iff, decide_eq_true_eq, List.any_eq_true]
  unfold findS
  cases hf : l.findIdx? (fun y => y.toList == x.toList) with
  | none =>
    rw [List.findIdx?_eq_none_iff] at hf
    have := hf _ (List.getElem_mem hk)
    simp [hx] at this
  | some j =>
    rw [List.findIdx?_eq_some_iff_getElem] at hf
    obtain ⟨hj, h1, h2⟩ := hf
    constructor
    · intro h
      have h : j < k := by simpa using h
      exact ⟨l[j], by rw [List.mem_take_iff_getElem]; exact ⟨j, by omega, rfl⟩, h1⟩
    · rintro ⟨y, hy, he⟩
      rw [List.mem_take_iff_getElem] at hy
      obtain ⟨i, hi, rfl⟩ := hy
      show (j : Int) < k
      by_cases h : j ≤ i
      · omega
      · have := h2 i (by omega)
        simp [he] at this

theorem spec_labels (most : Nat) (hm : most ≤ 100) (A : Option Addr) (c : Nat) (l : List ByteArray) (w : World) (h : Sl w 1 A l.length (stc l)) (hn : l.length ≤ 9223372036854775807) :
    Calls Try.prog 185 #[.slice A l.length c, .int .i64 (most : Int)] w fun e w' => e = .returned (.bool (labB most l)) ∧ w = w' := by
  go_enter Try.func185, Try.ntmps185
  go_wp2_with fail
  go_loop [5] (fun i => ∃ k : Nat, k ≤ l.length ∧ k ≤ most + 1 ∧ i = .int .i64 k ∧ Hid (goodN l k = true)) (fun i => l.length - (intOf i).toNat)
  case atStart => exact ⟨0, Nat.zero_le _, Nat.zero_le _, rfl, rfl⟩
  case round =>
    obtain ⟨k, hk, hkm, rfl, hall⟩ := hrel
    by_cases hlt : k < l.length
    · by_cases hlm : k ≤ most
      · obtain ⟨b, off, rfl, hb, hc⟩ := h.tx (Below.refl _ _) hlt rfl
        have HT := Lib.hid (goodN_succ l k)
        have HF := Lib.hid (fun he => goodN_false (l := l) hlt he)
        have HO := Lib.hid (okAt_eq hlt)
        have HI := Lib.hid (fun x => find_take (x := x) hlt)
        obtain ⟨x, hx⟩ : ∃ x, l[k] = x := ⟨_, rfl⟩
        have hi := HI.out x hx
        rw [hx] at hc HO
        clear hx HI
        have HL : Hid (goodN l l.length = false → labB most l = false) := Lib.hid (fun h => by unfold labB; rw [h]; simp)
        by_cases e1 : x.toList = []
        · have t1 : (!x.toList.isEmpty) = false := by simp [e1]
          have t2 : x.toList.isEmpty = true := by simp [e1]
          have HR := Lib.hid (HL.out (HF.out (by rw [HO.out, zay.2 e1]; rfl)))
          clear hi
          go_wp2_with fail
          go_ret
          exact ⟨zaj HR.out.symm, rfl⟩
        · have t1 : (!x.toList.isEmpty) = true := by simp [e1]
          have t2 : x.toList.isEmpty = false := by simp [e1]
          have HE : Hid (za0 x = false) := Lib.hid (by unfold za0; exact t2)
          by_cases e2 : 60 < x.size
          · have HR := Lib.hid (HL.out (HF.out (by rw [HO.out, decide_eq_false (show ¬ x.size ≤ 60 by omega)]; simp)))
            clear hi
            go_wp2_with fail
            go_ret
            exact ⟨zaj HR.out.symm, rfl⟩
          · have HD := Lib.hid (decide_eq_true (show x.size ≤ 60 by omega))
            rw [← hi] at HO
            clear hi
            obtain ⟨f, hf⟩ : ∃ f, findS l x = f := ⟨_, rfl⟩
            have HC := fun u hu => spec_find (some ⟨b, off, none⟩) l.length c l x u hu hn
            rw [hf] at HO HC
            clear hf
            by_cases hfk : f < (k : Int)
            · have HR := Lib.hid (HL.out (HF.out (by rw [HO.out, decide_eq_true hfk]; simp)))
              go_wp2_with fail
              refine (HC _ h).mono ?_
              rintro e w' ⟨rfl, rfl⟩
              go_wp2_with fail
              go_ret
              exact ⟨zaj HR.out.symm, rfl⟩
            · have HG : Hid (goodN l (k + 1) = true) := Lib.hid (by rw [HT.out, hall.out, HO.out, HE.out, HD.out, decide_eq_false hfk]; rfl)
              have hfk' : (k : Int) ≤ f := by omega
              clear hfk
              go_wp2_with fail
              refine (HC _ h).mono ?_
              rintro e w' ⟨rfl, rfl⟩
              go_wp2_with fail
              go_round
              case rel => exact ⟨k + 1, by omega, by omega, by go_num, HG⟩
              case measure => simp [intOf]; omega
      · have HL : Hid (labB most l = false) := Lib.hid (by unfold labB; rw [decide_eq_false (by omega)]; rfl)
        have hd1 : decide (k ≤ most) = false := decide_eq_false hlm
        have hd2 : decide (l.length ≤ most) = false := decide_eq_false (by omega)
        clear hlm
        go_wp2_with fail
        go_ret
        exact ⟨zaj HL.out.symm, rfl⟩
    · have hkn : k = l.length := by omega
      subst hkn
      have HL : Hid (labB most l = decide (l.length ≤ most)) := Lib.hid (by unfold labB; rw [hall.out, Bool.and_true])
      go_wp2_with fail
      go_ret
      exact ⟨zaj (by rw [HL.out]), rfl⟩

theorem shortB_take {l : List ByteArray} {k : Nat} (h : k < l.length) : za1 (l.take (k + 1)) = (za1 (l.take k) && decide (l[k].size ≤ 60)) := by rw [zat h]; unfold za1; rw [List.all_append]; simp

theorem shortB_false {l : List ByteArray} {k : Nat} (h : k < l.length) (he : 60 < l[k].size) : za1 l = false := by
  unfold za1
  rw [List.all_eq_false]
  exact ⟨_, List.getElem_mem h, by simp; omega⟩

/-- the reference's test of names -/
def namedB (l : List ByteArray) : Bool := za1 l && (decide (l.length = 0) || !allE l)

theorem spec_named (A : Option Addr) (c : Nat) (l : List ByteArray) (w : World) (h : Sl w 1 A l.length (stc l)) (hn : l.length ≤ 9223372036854775807) :
    Calls Try.prog 184 #[.slice A l.length c] w fun e w' => e = .returned (.bool (namedB l)) ∧ w = w' := by
  by_cases h0 : l.length = 0
  · have hl : l = [] := List.length_eq_zero_iff.1 h0
    subst hl
    clear h0
    go_enter Try.func184, Try.ntmps184
    go_wp2_with fail
    go_loop [3, 4] (fun s i => s = .bool true ∧ i = .int .i64 0) (fun s i => 0)
    case atStart => exact ⟨rfl, rfl⟩
    case round =>
      obtain ⟨rfl, rfl⟩ := hrel
      go_wp2_with fail
      go_ret
      exact ⟨rfl, rfl⟩
  · have hz' : ((l.length : Int) == 0) = false := by rw [beq_eq_false_iff_ne]; omega
    have HN : Hid (namedB l = (za1 l && !allE l)) := Lib.hid (by unfold namedB; rw [decide_eq_false h0, Bool.false_or])
    clear h0
    go_enter Try.func184, Try.ntmps184
    go_wp2_with fail
    go_loop [3, 4] (fun s i => ∃ (k : Nat) (b : Bool), k ≤ l.length ∧ i = .int .i64 k ∧ s = .bool b ∧ Hid (b = !allE (l.take k)) ∧ Hid (za1 (l.take k) = true)) (fun _ i => l.length - (intOf i).toNat)
    case atStart => exact ⟨0, false, Nat.zero_le _, rfl, rfl, rfl, rfl⟩
    case round =>
      obtain ⟨k, b, hk, rfl, rfl, hb, hsh⟩ := hrel
      by_cases hlt : k < l.length
      · obtain ⟨g, off, rfl, hg, hc⟩ := h.tx (Below.refl _ _) hlt rfl
        have HT := Lib.hid (allE_take hlt)
        have HS := Lib.hid (shortB_take hlt)
        have HF := Lib.hid (fun he => shortB_false (l := l) hlt he)
        obtain ⟨x, hx⟩ : ∃ x, l[k] = x := ⟨_, rfl⟩
        rw [hx] at hc HT HS HF
        clear hx
        by_cases e2 : 60 < x.size
        · have HR := Lib.hid (show namedB l = false by rw [HN.out, HF.out e2]; rfl)
          go_wp2_with fail
          go_ret
          exact ⟨zaj HR.out.symm, rfl⟩
        · have HD := Lib.hid (decide_eq_true (show x.size ≤ 60 by omega))
          cases b with
          | true =>
            go_wp2_with fail
            go_round
            case rel => exact ⟨k + 1, true, by omega, by go_num, rfl, by show _ = _; rw [HT.out, Bool.not_and, ← hb.out]; rfl, by show _ = _; rw [HS.out, hsh.out, HD.out]; rfl⟩
            case measure => simp [intOf]; omega
          | false =>
            by_cases e1 : x.toList = []
            · have t1 : (!x.toList.isEmpty) = false := by simp [e1]
              have HE : Hid (za0 x = true) := Lib.hid (zay.2 e1)
              go_wp2_with fail
              go_round
              case rel => exact ⟨k + 1, false, by omega, by go_num, rfl, by show _ = _; rw [HT.out, Bool.not_and, ← hb.out, HE.out]; rfl, by show _ = _; rw [HS.out, hsh.out, HD.out]; rfl⟩
              case measure => simp [intOf]; omega
            · have t1 : (!x.toList.isEmpty) = true := by simp [e1]
              have HE : Hid (za0 x = false) := Lib.hid (by unfold za0; simp [e1])
              go_wp2_with fail
              go_round
              case rel => exact ⟨k + 1, true, by omega, by go_num, rfl, by show _ = _; rw [HT.out, Bool.not_and, ← hb.out, HE.out]; rfl, by show _ = _; rw [HS.out, hsh.out, HD.out]; rfl⟩
              case measure => simp [intOf]; omega
      · have hkn : k = l.length := by omega
        subst hkn
        rw [List.take_length] at hb hsh
        go_wp2_with fail
        go_ret
        exact ⟨zaj (by rw [HN.out, hsh.out, hb.out]; rfl), rfl⟩

end

end Go.Proofs.Ytmofcbpabdbjlaa
