/-
  What is proved: what the reference's NotVector returns.
  Condition: vectors of size at most 1048576.
-/
import Derived.Test.YtnofigjpcgkogaaNv
import Derived.Test.YtnofigjpcgkogaaLis
namespace Go.Proofs.Ytnofigjpcgkogaa
open Go.RowKit Go.ChangeShapes Go.WideShapes Go.Deep
set_option linter.unusedVariables false
set_option linter.unusedSimpArgs false

theorem it_num {k : Int} {ls : List ByteArray} {x : It} (h : itB k ls x = true) (hk : k ≤ 2) : misB x = decide (x.den = 0) ∧ -999999999 ≤ x.num ∧ x.num ≤ 999999999 := by
  unfold itB at h
  simp only [Bool.and_eq_true, decide_eq_true_eq] at h
  obtain ⟨⟨h1, h2⟩, h3⟩ := h
  refine ⟨item_den h2, ?_⟩
  unfold itemB at h2
  rw [Bool.or_eq_true] at h2
  rcases h2 with h2 | h2
  · unfold misB at h2
    simp only [Bool.and_eq_true, decide_eq_true_eq] at h2
    omega
  · by_cases k1 : k = 1
    · rw [if_pos k1] at h2
      simp only [Bool.and_eq_true, Bool.or_eq_true, decide_eq_true_eq] at h2
      omega
    · have k2 : k = 2 := by omega
      rw [if_neg k1, if_pos k2] at h2
      unfold isNumI at h2
      simp only [Bool.and_eq_true] at h2
      have := of_decide_eq_true h2.2
      omega

def l5B (k : Int) (nl : Nat) : Bool := decide (k ≤ 2) && decide (nl = 0)
theorem l5_cnt {k : Int} {is : List It} {ps : List VT} {ns cs ls : List ByteArray} {c e : Int} (h : isV (.mk k is ps ns cs ls c e) = true) : l5B k ls.length = cntK k ls.length := by
  have hf := isV_facts h
  have h1 := hf.1
  have h2 := hf.2.2.2.1
  unfold l5B cntK
  rw [Bool.eq_iff_iff]
  simp only [Bool.and_eq_true, Bool.or_eq_true, decide_eq_true_eq]
  omega

theorem spec_nums_yes (k : Int) (v2 v3 v4 v6 v7 : Value) (Ai Al : Option Addr) (ni ci nl cl : Nat) (w : World) (hB : l5B k nl = true) : Calls Try.prog 110 #[.agg #[.int .i64 k, .slice Ai ni ci, v2, v3, v4, .slice Al nl cl, v6, v7]] w fun e w' =>
    e = .returned (.tuple #[.slice Ai ni ci, .bool true]) ∧ Below w.heap.size w w' := by
  unfold l5B at hB
  simp only [Bool.and_eq_true, decide_eq_true_eq] at hB
  obtain ⟨h0, rfl⟩ := hB
  have q0 : ¬ (2 : Int) < k := by omega
  clear h0
  go_enter Try.func110, Try.ntmps110
  have hO := Own.nil w
  go_wp2_with (first
    | ((with_reducible refine wpl_alloc ?_); refine wpList_alloc_own rfl (by rfl) hO rfl (fun b => by simp only [Act.put, List.setIfInBounds_toArray, List.set_cons_succ, List.set_cons_zero]; rfl) ?_; (first | (refine nm 0 rfl ?_; clear hO; intro b0 u hO) | (refine nm 1 rfl ?_; clear hO; intro b1 u hO) | (refine nm 2 rfl ?_; clear hO; intro b2 u hO)); simp only [List.nil_append, List.cons_append] at hO)
    | ((with_reducible refine wpl_box ?_); refine wpList_box_own rfl (by rfl) hO rfl rfl (fun b => by simp only [Act.put, List.setIfInBounds_toArray, List.set_cons_succ, List.set_cons_zero]; rfl) ?_; (first | (refine nm 0 rfl ?_; clear hO; intro b0 u hO) | (refine nm 1 rfl ?_; clear hO; intro b1 u hO) | (refine nm 2 rfl ?_; clear hO; intro b2 u hO)); simp only [List.nil_append, List.cons_append] at hO)
    | ((with_reducible refine wpl_load ?_); first | (refine wpList_load_box rfl (by first | rfl | (simp only [Region.wanted, yielded, *]; go_simp; done) | (simp [Region.wanted, yielded, *]; done) | fail) hO rfl _ (by first | exact at0 | exact at1 | exact at2) (by rfl) (by simp only [Act.put, List.setIfInBounds_toArray, List.set_cons_succ, List.set_cons_zero]; rfl) ?_) | (refine wpList_load_field rfl (by first | rfl | (simp only [Region.wanted, yielded, *]; go_simp; done) | (simp [Region.wanted, yielded, *]; done) | fail) hO rfl _ (by first | exact at0 | exact at1 | exact at2) (by rfl) (by simp only [Act.put, List.setIfInBounds_toArray, List.set_cons_succ, List.set_cons_zero]; rfl) ?_))
    | ((with_reducible refine wpl_store ?_); first | (refine wpList_store_box rfl (by rfl) hO rfl _ (by first | exact at0 | exact at1 | exact at2) rfl (by rfl) (by rfl) (by rfl) (by rfl) (by rfl) ?_; clear hO; intro u hO; simp only [List.set_cons_zero, List.set_cons_succ] at hO) | (refine wpList_store_field rfl (by rfl) hO rfl _ (by first | exact at0 | exact at1 | exact at2) (Nat.le_of_ble_eq_true rfl) (by simp only [Act.eval, Array.getD_eq_getD_getElem?, List.getElem?_toArray, List.getElem?_cons_succ, List.getElem?_cons_zero, Option.getD_some]; rfl) (by rfl) (by rfl) (by rfl) ?_; clear hO; intro u hO; simp only [List.set_cons_zero, List.set_cons_succ] at hO))
    | fail)
  go_ret2
  first
    | exact ⟨rfl, hO.below⟩
    | exact hO.below
    | exact ⟨rfl, rfl, hO.below⟩
theorem spec_nums_no (k : Int) (v2 v3 v4 v6 v7 : Value) (Ai Al : Option Addr) (ni ci nl cl : Nat) (w : World) (hB : l5B k nl = false) : Calls Try.prog 110 #[.agg #[.int .i64 k, .slice Ai ni ci, v2, v3, v4, .slice Al nl cl, v6, v7]] w fun e w' =>
    ∃ b, e = .returned (.tuple #[.slice (some ⟨b, 0, none⟩) 0 0, .bool false]) ∧ Below w.heap.size w w' := by
  by_cases h0 : k ≤ 2
  · have q0 : ¬ (2 : Int) < k := by omega
    have q1 : (0 : Int) < nl := by
      unfold l5B at hB
      rw [decide_eq_true h0] at hB
      simp at hB
      omega
    clear h0 hB
    go_enter Try.func110, Try.ntmps110
    have hO := Own.nil w
    go_wp2_with (first
      | ((with_reducible refine wpl_alloc ?_); refine wpList_alloc_own rfl (by rfl) hO rfl (fun b => by simp only [Act.put, List.setIfInBounds_toArray, List.set_cons_succ, List.set_cons_zero]; rfl) ?_; (first | (refine nm 0 rfl ?_; clear hO; intro b0 u hO) | (refine nm 1 rfl ?_; clear hO; intro b1 u hO) | (refine nm 2 rfl ?_; clear hO; intro b2 u hO)); simp only [List.nil_append, List.cons_append] at hO)
      | ((with_reducible refine wpl_box ?_); refine wpList_box_own rfl (by rfl) hO rfl rfl (fun b => by simp only [Act.put, List.setIfInBounds_toArray, List.set_cons_succ, List.set_cons_zero]; rfl) ?_; (first | (refine nm 0 rfl ?_; clear hO; intro b0 u hO) | (refine nm 1 rfl ?_; clear hO; intro b1 u hO) | (refine nm 2 rfl ?_; clear hO; intro b2 u hO)); simp only [List.nil_append, List.cons_append] at hO)
      | ((with_reducible refine wpl_load ?_); first | (refine wpList_load_box rfl (by first | rfl | (simp only [Region.wanted, yielded, *]; go_simp; done) | (simp [Region.wanted, yielded, *]; done) | fail) hO rfl _ (by first | exact at0 | exact at1 | exact at2) (by rfl) (by simp only [Act.put, List.setIfInBounds_toArray, List.set_cons_succ, List.set_cons_zero]; rfl) ?_) | (refine wpList_load_field rfl (by first | rfl | (simp only [Region.wanted, yielded, *]; go_simp; done) | (simp [Region.wanted, yielded, *]; done) | fail) hO rfl _ (by first | exact at0 | exact at1 | exact at2) (by rfl) (by simp only [Act.put, List.setIfInBounds_toArray, List.set_cons_succ, List.set_cons_zero]; rfl) ?_))
      | ((with_reducible refine wpl_store ?_); first | (refine wpList_store_box rfl (by rfl) hO rfl _ (by first | exact at0 | exact at1 | exact at2) rfl (by rfl) (by rfl) (by rfl) (by rfl) (by rfl) ?_; clear hO; intro u hO; simp only [List.set_cons_zero, List.set_cons_succ] at hO) | (refine wpList_store_field rfl (by rfl) hO rfl _ (by first | exact at0 | exact at1 | exact at2) (Nat.le_of_ble_eq_true rfl) (by simp only [Act.eval, Array.getD_eq_getD_getElem?, List.getElem?_toArray, List.getElem?_cons_succ, List.getElem?_cons_zero, Option.getD_some]; rfl) (by rfl) (by rfl) (by rfl) ?_; clear hO; intro u hO; simp only [List.set_cons_zero, List.set_cons_succ] at hO))
      | ((with_reducible refine wpl_build ?_); refine wpList_build_list (cs := []) hO rfl (by rfl) [] (by rfl) (by rfl) rfl (Nat.le_of_ble_eq_true rfl) (by rfl) rfl (fun b => by simp only [Act.put, List.setIfInBounds_toArray, List.set_cons_succ, List.set_cons_zero]; rfl) ?_; clear hO; intro bb u hO; simp only [List.nil_append, List.cons_append] at hO)
      | ((with_reducible refine wpl_append ?_); refine wpList_append_box hO rfl (by rfl) rfl rfl _ (by first | exact at0 | exact at1 | exact at2 | exact at3) _ (by first | exact at0 | exact at1 | exact at2 | exact at3) (by rfl) (by simp [Value.oneCell']) (by omega) (by omega) rfl (fun A' c' => by simp only [Act.put, List.setIfInBounds_toArray, List.set_cons_succ, List.set_cons_zero]; rfl) ?_; clear hO; intro A' c' u hO; simp only [List.set_cons_zero, List.set_cons_succ] at hO)
      | fail)
    go_ret2
    exact ⟨⟨_, rfl⟩, hO.below⟩
  · have q0 : (2 : Int) < k := by omega
    clear h0 hB
    go_enter Try.func110, Try.ntmps110
    have hO := Own.nil w
    go_wp2_with (first
      | ((with_reducible refine wpl_alloc ?_); refine wpList_alloc_own rfl (by rfl) hO rfl (fun b => by simp only [Act.put, List.setIfInBounds_toArray, List.set_cons_succ, List.set_cons_zero]; rfl) ?_; (first | (refine nm 0 rfl ?_; clear hO; intro b0 u hO) | (refine nm 1 rfl ?_; clear hO; intro b1 u hO) | (refine nm 2 rfl ?_; clear hO; intro b2 u hO)); simp only [List.nil_append, List.cons_append] at hO)
      | ((with_reducible refine wpl_box ?_); refine wpList_box_own rfl (by rfl) hO rfl rfl (fun b => by simp only [Act.put, List.setIfInBounds_toArray, List.set_cons_succ, List.set_cons_zero]; rfl) ?_; (first | (refine nm 0 rfl ?_; clear hO; intro b0 u hO) | (refine nm 1 rfl ?_; clear hO; intro b1 u hO) | (refine nm 2 rfl ?_; clear hO; intro b2 u hO)); simp only [List.nil_append, List.cons_append] at hO)
      | ((with_reducible refine wpl_load ?_); first | (refine wpList_load_box rfl (by first | rfl | (simp only [Region.wanted, yielded, *]; go_simp; done) | (simp [Region.wanted, yielded, *]; done) | fail) hO rfl _ (by first | exact at0 | exact at1 | exact at2) (by rfl) (by simp only [Act.put, List.setIfInBounds_toArray, List.set_cons_succ, List.set_cons_zero]; rfl) ?_) | (refine wpList_load_field rfl (by first | rfl | (simp only [Region.wanted, yielded, *]; go_simp; done) | (simp [Region.wanted, yielded, *]; done) | fail) hO rfl _ (by first | exact at0 | exact at1 | exact at2) (by rfl) (by simp only [Act.put, List.setIfInBounds_toArray, List.set_cons_succ, List.set_cons_zero]; rfl) ?_))
      | ((with_reducible refine wpl_store ?_); first | (refine wpList_store_box rfl (by rfl) hO rfl _ (by first | exact at0 | exact at1 | exact at2) rfl (by rfl) (by rfl) (by rfl) (by rfl) (by rfl) ?_; clear hO; intro u hO; simp only [List.set_cons_zero, List.set_cons_succ] at hO) | (refine wpList_store_field rfl (by rfl) hO rfl _ (by first | exact at0 | exact at1 | exact at2) (Nat.le_of_ble_eq_true rfl) (by simp only [Act.eval, Array.getD_eq_getD_getElem?, List.getElem?_toArray, List.getElem?_cons_succ, List.getElem?_cons_zero, Option.getD_some]; rfl) (by rfl) (by rfl) (by rfl) ?_; clear hO; intro u hO; simp only [List.set_cons_zero, List.set_cons_succ] at hO))
      | ((with_reducible refine wpl_build ?_); refine wpList_build_list (cs := []) hO rfl (by rfl) [] (by rfl) (by rfl) rfl (Nat.le_of_ble_eq_true rfl) (by rfl) rfl (fun b => by simp only [Act.put, List.setIfInBounds_toArray, List.set_cons_succ, List.set_cons_zero]; rfl) ?_; clear hO; intro bb u hO; simp only [List.nil_append, List.cons_append] at hO)
      | ((with_reducible refine wpl_append ?_); refine wpList_append_box hO rfl (by rfl) rfl rfl _ (by first | exact at0 | exact at1 | exact at2 | exact at3) _ (by first | exact at0 | exact at1 | exact at2 | exact at3) (by rfl) (by simp [Value.oneCell']) (by omega) (by omega) rfl (fun A' c' => by simp only [Act.put, List.setIfInBounds_toArray, List.set_cons_succ, List.set_cons_zero]; rfl) ?_; clear hO; intro A' c' u hO; simp only [List.set_cons_zero, List.set_cons_succ] at hO)
      | fail)
    go_ret2
    first
      | exact ⟨_, rfl, hO.below⟩
      | exact hO.below

theorem map_get' {l : List Int} {k : Nat} (h : k < l.length) : (ints (l.take k ++ l.drop k))[k]? = some (.int .i64 l[k]) := by
  rw [List.take_append_drop]
  unfold ints
  rw [List.getElem?_map, List.getElem?_eq_getElem h]
  rfl
theorem nint_get {l : List Int} {k : Nat} (h : k < l.length) : (ints ((l.take k).map notL ++ l.drop k))[k]? = some (.int .i64 l[k]) := by
  unfold ints
  rw [List.getElem?_map, List.getElem?_append_right (by simp; omega)]
  rw [List.length_map, List.length_take, Nat.min_eq_left (by omega), Nat.sub_self, List.getElem?_drop, Nat.add_zero, List.getElem?_eq_getElem h]
  rfl
theorem nint_set {l : List Int} {k : Nat} (h : k < l.length) : (ints ((l.take k).map notL ++ l.drop k)).set k (.int .i64 (notL l[k])) = ints ((l.take (k + 1)).map notL ++ l.drop (k + 1)) := by
  have e := mid_set ((l.take k).map notL) l k (by simp; omega) h (notL l[k])
  unfold ints
  rw [← List.map_set (f := fun z : Int => Value.int .i64 z), e, take_snoc' h]
  simp only [List.map_append, List.append_assoc, List.map_cons, List.map_nil]
theorem nint_len {l : List Int} {k : Nat} (h : k < l.length) : (ints ((l.take k).map notL ++ l.drop k)).length = l.length := by
  unfold ints
  simp
  omega

theorem ints_map_succ {l : List It} {k : Nat} (h : k < l.length) : ints ((l.take (k + 1)).map trI) = ints ((l.take k).map trI) ++ [.int .i64 (trI l[k])] := by
  rw [take_snoc' h, List.map_append, show ints (List.map trI (l.take k) ++ List.map trI [l[k]]) = ints (List.map trI (l.take k)) ++ ints (List.map trI [l[k]]) from List.map_append]
  rfl

set_option maxRecDepth 20000 in
set_option maxHeartbeats 4000000 in
theorem spec_l5log (k : Int) (is : List It) (v2 v3 v4 v6 v7 : Value) (Ai Al : Option Addr) (ci cl : Nat) (ls : List ByteArray) (w : World) (h1 : Sl w 3 Ai is.length (itc is)) (hle : is.length ≤ 40) (hit : ∀ x ∈ is, itB k ls x = true) :
    Calls Try.prog 90 #[.agg #[.int .i64 k, .slice Ai is.length ci, v2, v3, v4, .slice Al ls.length cl, v6, v7]] w fun e w' =>
      ∃ A n c, e = .returned (.tuple #[.slice A n c, .bool (l5B k ls.length)]) ∧ n = (if l5B k ls.length then is.map trI else []).length ∧ Own w [row 3 1 (.slice A n c) n (ints (if l5B k ls.length then is.map trI else []))] w' := by
  cases hB : l5B k ls.length
  · have CN := fun u => spec_nums_no k v2 v3 v4 v6 v7 Ai Al is.length ci ls.length cl u hB
    simp only [Bool.false_eq_true, if_false]
    go_enter Try.func90, Try.ntmps90
    have hO := Own.nil w
    go_wp2_with (first
      | ((with_reducible refine wpl_alloc ?_); refine wpList_alloc_own rfl (by rfl) hO rfl (fun b => by simp only [Act.put, List.setIfInBounds_toArray, List.set_cons_succ, List.set_cons_zero]; rfl) ?_; (first | (refine nm 0 rfl ?_; clear hO; intro b0 u hO) | (refine nm 1 rfl ?_; clear hO; intro b1 u hO) | (refine nm 2 rfl ?_; clear hO; intro b2 u hO)); simp only [List.nil_append, List.cons_append] at hO)
      | ((with_reducible refine wpl_box ?_); refine wpList_box_own rfl (by rfl) hO rfl rfl (fun b => by simp only [Act.put, List.setIfInBounds_toArray, List.set_cons_succ, List.set_cons_zero]; rfl) ?_; (first | (refine nm 0 rfl ?_; clear hO; intro b0 u hO) | (refine nm 1 rfl ?_; clear hO; intro b1 u hO) | (refine nm 2 rfl ?_; clear hO; intro b2 u hO)); simp only [List.nil_append, List.cons_append] at hO)
      | ((with_reducible refine wpl_load ?_); first | (refine wpList_load_box rfl (by first | rfl | (simp only [Region.wanted, yielded, *]; go_simp; done) | (simp [Region.wanted, yielded, *]; done) | fail) hO rfl _ (by first | exact at0 | exact at1 | exact at2) (by rfl) (by simp only [Act.put, List.setIfInBounds_toArray, List.set_cons_succ, List.set_cons_zero]; rfl) ?_) | (refine wpList_load_field rfl (by first | rfl | (simp only [Region.wanted, yielded, *]; go_simp; done) | (simp [Region.wanted, yielded, *]; done) | fail) hO rfl _ (by first | exact at0 | exact at1 | exact at2) (by rfl) (by simp only [Act.put, List.setIfInBounds_toArray, List.set_cons_succ, List.set_cons_zero]; rfl) ?_))
      | ((with_reducible refine wpl_store ?_); first | (refine wpList_store_box rfl (by rfl) hO rfl _ (by first | exact at0 | exact at1 | exact at2) rfl (by rfl) (by rfl) (by rfl) (by rfl) (by rfl) ?_; clear hO; intro u hO; simp only [List.set_cons_zero, List.set_cons_succ] at hO) | (refine wpList_store_field rfl (by rfl) hO rfl _ (by first | exact at0 | exact at1 | exact at2) (Nat.le_of_ble_eq_true rfl) (by simp only [Act.eval, Array.getD_eq_getD_getElem?, List.getElem?_toArray, List.getElem?_cons_succ, List.getElem?_cons_zero, Option.getD_some]; rfl) (by rfl) (by rfl) (by rfl) ?_; clear hO; intro u hO; simp only [List.set_cons_zero, List.set_cons_succ] at hO))
      | ((with_reducible refine wpl_call ?_); first | (refine wpList_append_str hO rfl (by rfl) rfl rfl _ (by first | exact at0 | exact at1 | exact at2) (by omega) rfl (fun A' c' => by simp only [Act.put, List.setIfInBounds_toArray, List.set_cons_succ, List.set_cons_zero]; rfl) ?_; clear hO; intro A' c' u hO; simp only [List.set_cons_zero, List.set_cons_succ] at hO) | (refine wpList_append_lit hO rfl (by rfl) rfl rfl _ (by first | exact at0 | exact at1 | exact at2) (by rfl) (by simp [Value.oneCell']) (by omega) (by omega) rfl (fun A' c' => by simp only [Act.put, List.setIfInBounds_toArray, List.set_cons_succ, List.set_cons_zero]; rfl) ?_; clear hO; intro A' c' u hO; simp only [List.set_cons_zero, List.set_cons_succ] at hO))
      | ((with_reducible refine wpl_build ?_); refine wpList_build_row0 hO rfl (by rfl) rfl (fun b => by simp only [Act.put, List.setIfInBounds_toArray, List.set_cons_succ, List.set_cons_zero]; rfl) ?_; clear hO; intro bb u hO; simp only [List.nil_append, List.cons_append] at hO)
      | ((with_reducible refine wpl_build ?_); refine wpList_build_list (cs := []) hO rfl (by rfl) [] (by rfl) (by rfl) rfl (Nat.le_of_ble_eq_true rfl) (by rfl) rfl (fun b => by simp only [Act.put, List.setIfInBounds_toArray, List.set_cons_succ, List.set_cons_zero]; rfl) ?_; clear hO; intro bb u hO; simp only [List.nil_append, List.cons_append] at hO)
      | ((with_reducible refine wpl_build ?_); refine wpList_build_list (cs := [.int .i64 (2)]) hO rfl (by rfl) [.int .i64 (2)] (by rfl) (by rfl) rfl (Nat.le_of_ble_eq_true rfl) (by rfl) rfl (fun b => by simp only [Act.put, List.setIfInBounds_toArray, List.set_cons_succ, List.set_cons_zero]; rfl) ?_; clear hO; intro bb u hO; simp only [List.nil_append, List.cons_append] at hO)
      | ((with_reducible refine wpl_append ?_); refine wpList_append_box hO rfl (by rfl) rfl rfl _ (by first | exact at0 | exact at1 | exact at2 | exact at3) _ (by first | exact at0 | exact at1 | exact at2 | exact at3) (by rfl) (by simp [Value.oneCell']) (by omega) (by omega) rfl (fun A' c' => by simp only [Act.put, List.setIfInBounds_toArray, List.set_cons_succ, List.set_cons_zero]; rfl) ?_; clear hO; intro A' c' u hO; simp only [List.set_cons_zero, List.set_cons_succ] at hO)
      | fail)
    refine (CN _).mono ?_
    rintro e u ⟨bb2, rfl, hb⟩
    replace hO := hO.step hb
    clear hb CN hit hB
    go_wp2_with (first
      | ((with_reducible refine wpl_alloc ?_); refine wpList_alloc_own rfl (by rfl) hO rfl (fun b => by simp only [Act.put, List.setIfInBounds_toArray, List.set_cons_succ, List.set_cons_zero]; rfl) ?_; (first | (refine nm 0 rfl ?_; clear hO; intro b0 u hO) | (refine nm 1 rfl ?_; clear hO; intro b1 u hO) | (refine nm 2 rfl ?_; clear hO; intro b2 u hO)); simp only [List.nil_append, List.cons_append] at hO)
      | ((with_reducible refine wpl_box ?_); refine wpList_box_own rfl (by rfl) hO rfl rfl (fun b => by simp only [Act.put, List.setIfInBounds_toArray, List.set_cons_succ, List.set_cons_zero]; rfl) ?_; (first | (refine nm 0 rfl ?_; clear hO; intro b0 u hO) | (refine nm 1 rfl ?_; clear hO; intro b1 u hO) | (refine nm 2 rfl ?_; clear hO; intro b2 u hO)); simp only [List.nil_append, List.cons_append] at hO)
      | ((with_reducible refine wpl_load ?_); first | (refine wpList_load_box rfl (by first | rfl | (simp only [Region.wanted, yielded, *]; go_simp; done) | (simp [Region.wanted, yielded, *]; done) | fail) hO rfl _ (by first | exact at0 | exact at1 | exact at2) (by rfl) (by simp only [Act.put, List.setIfInBounds_toArray, List.set_cons_succ, List.set_cons_zero]; rfl) ?_) | (refine wpList_load_field rfl (by first | rfl | (simp only [Region.wanted, yielded, *]; go_simp; done) | (simp [Region.wanted, yielded, *]; done) | fail) hO rfl _ (by first | exact at0 | exact at1 | exact at2) (by rfl) (by simp only [Act.put, List.setIfInBounds_toArray, List.set_cons_succ, List.set_cons_zero]; rfl) ?_))
      | ((with_reducible refine wpl_store ?_); first | (refine wpList_store_box rfl (by rfl) hO rfl _ (by first | exact at0 | exact at1 | exact at2) rfl (by rfl) (by rfl) (by rfl) (by rfl) (by rfl) ?_; clear hO; intro u hO; simp only [List.set_cons_zero, List.set_cons_succ] at hO) | (refine wpList_store_field rfl (by rfl) hO rfl _ (by first | exact at0 | exact at1 | exact at2) (Nat.le_of_ble_eq_true rfl) (by simp only [Act.eval, Array.getD_eq_getD_getElem?, List.getElem?_toArray, List.getElem?_cons_succ, List.getElem?_cons_zero, Option.getD_some]; rfl) (by rfl) (by rfl) (by rfl) ?_; clear hO; intro u hO; simp only [List.set_cons_zero, List.set_cons_succ] at hO))
      | ((with_reducible refine wpl_call ?_); first | (refine wpList_append_str hO rfl (by rfl) rfl rfl _ (by first | exact at0 | exact at1 | exact at2) (by omega) rfl (fun A' c' => by simp only [Act.put, List.setIfInBounds_toArray, List.set_cons_succ, List.set_cons_zero]; rfl) ?_; clear hO; intro A' c' u hO; simp only [List.set_cons_zero, List.set_cons_succ] at hO) | (refine wpList_append_lit hO rfl (by rfl) rfl rfl _ (by first | exact at0 | exact at1 | exact at2) (by rfl) (by simp [Value.oneCell']) (by omega) (by omega) rfl (fun A' c' => by simp only [Act.put, List.setIfInBounds_toArray, List.set_cons_succ, List.set_cons_zero]; rfl) ?_; clear hO; intro A' c' u hO; simp only [List.set_cons_zero, List.set_cons_succ] at hO))
      | ((with_reducible refine wpl_build ?_); refine wpList_build_row0 hO rfl (by rfl) rfl (fun b => by simp only [Act.put, List.setIfInBounds_toArray, List.set_cons_succ, List.set_cons_zero]; rfl) ?_; clear hO; intro bb u hO; simp only [List.nil_append, List.cons_append] at hO)
      | ((with_reducible refine wpl_build ?_); refine wpList_build_list (cs := []) hO rfl (by rfl) [] (by rfl) (by rfl) rfl (Nat.le_of_ble_eq_true rfl) (by rfl) rfl (fun b => by simp only [Act.put, List.setIfInBounds_toArray, List.set_cons_succ, List.set_cons_zero]; rfl) ?_; clear hO; intro bb u hO; simp only [List.nil_append, List.cons_append] at hO)
      | ((with_reducible refine wpl_build ?_); refine wpList_build_list (cs := [.int .i64 (2)]) hO rfl (by rfl) [.int .i64 (2)] (by rfl) (by rfl) rfl (Nat.le_of_ble_eq_true rfl) (by rfl) rfl (fun b => by simp only [Act.put, List.setIfInBounds_toArray, List.set_cons_succ, List.set_cons_zero]; rfl) ?_; clear hO; intro bb u hO; simp only [List.nil_append, List.cons_append] at hO)
      | ((with_reducible refine wpl_append ?_); refine wpList_append_box hO rfl (by rfl) rfl rfl _ (by first | exact at0 | exact at1 | exact at2 | exact at3) _ (by first | exact at0 | exact at1 | exact at2 | exact at3) (by rfl) (by simp [Value.oneCell']) (by omega) (by omega) rfl (fun A' c' => by simp only [Act.put, List.setIfInBounds_toArray, List.set_cons_succ, List.set_cons_zero]; rfl) ?_; clear hO; intro A' c' u hO; simp only [List.set_cons_zero, List.set_cons_succ] at hO)
      | fail)
    go_loopw [4, 7] (fun s i u => i = .int .i64 0 ∧ ∃ A c, s = .slice A 0 c ∧ Own w [box b0 27 [.int .i64 k, .slice Ai is.length ci, v2, v3, v4, .slice Al ls.length cl, v6, v7], row 3 1 (.slice A 0 c) 0 []] u) (fun _ _ _ => 0)
    case atStart => exact ⟨rfl, _, _, rfl, hO⟩
    case round =>
      clear hO
      obtain ⟨rfl, A, c, rfl, hO⟩ := hrel
      go_wp2_with (first
        | ((with_reducible refine wpl_alloc ?_); refine wpList_alloc_own rfl (by rfl) hO rfl (fun b => by simp only [Act.put, List.setIfInBounds_toArray, List.set_cons_succ, List.set_cons_zero]; rfl) ?_; (first | (refine nm 0 rfl ?_; clear hO; intro b0 u hO) | (refine nm 1 rfl ?_; clear hO; intro b1 u hO) | (refine nm 2 rfl ?_; clear hO; intro b2 u hO)); simp only [List.nil_append, List.cons_append] at hO)
        | ((with_reducible refine wpl_box ?_); refine wpList_box_own rfl (by rfl) hO rfl rfl (fun b => by simp only [Act.put, List.setIfInBounds_toArray, List.set_cons_succ, List.set_cons_zero]; rfl) ?_; (first | (refine nm 0 rfl ?_; clear hO; intro b0 u hO) | (refine nm 1 rfl ?_; clear hO; intro b1 u hO) | (refine nm 2 rfl ?_; clear hO; intro b2 u hO)); simp only [List.nil_append, List.cons_append] at hO)
        | ((with_reducible refine wpl_load ?_); first | (refine wpList_load_box rfl (by first | rfl | (simp only [Region.wanted, yielded, *]; go_simp; done) | (simp [Region.wanted, yielded, *]; done) | fail) hO rfl _ (by first | exact at0 | exact at1 | exact at2) (by rfl) (by simp only [Act.put, List.setIfInBounds_toArray, List.set_cons_succ, List.set_cons_zero]; rfl) ?_) | (refine wpList_load_field rfl (by first | rfl | (simp only [Region.wanted, yielded, *]; go_simp; done) | (simp [Region.wanted, yielded, *]; done) | fail) hO rfl _ (by first | exact at0 | exact at1 | exact at2) (by rfl) (by simp only [Act.put, List.setIfInBounds_toArray, List.set_cons_succ, List.set_cons_zero]; rfl) ?_))
        | ((with_reducible refine wpl_store ?_); first | (refine wpList_store_box rfl (by rfl) hO rfl _ (by first | exact at0 | exact at1 | exact at2) rfl (by rfl) (by rfl) (by rfl) (by rfl) (by rfl) ?_; clear hO; intro u hO; simp only [List.set_cons_zero, List.set_cons_succ] at hO) | (refine wpList_store_field rfl (by rfl) hO rfl _ (by first | exact at0 | exact at1 | exact at2) (Nat.le_of_ble_eq_true rfl) (by simp only [Act.eval, Array.getD_eq_getD_getElem?, List.getElem?_toArray, List.getElem?_cons_succ, List.getElem?_cons_zero, Option.getD_some]; rfl) (by rfl) (by rfl) (by rfl) ?_; clear hO; intro u hO; simp only [List.set_cons_zero, List.set_cons_succ] at hO))
        | ((with_reducible refine wpl_call ?_); first | (refine wpList_append_str hO rfl (by rfl) rfl rfl _ (by first | exact at0 | exact at1 | exact at2) (by omega) rfl (fun A' c' => by simp only [Act.put, List.setIfInBounds_toArray, List.set_cons_succ, List.set_cons_zero]; rfl) ?_; clear hO; intro A' c' u hO; simp only [List.set_cons_zero, List.set_cons_succ] at hO) | (refine wpList_append_lit hO rfl (by rfl) rfl rfl _ (by first | exact at0 | exact at1 | exact at2) (by rfl) (by simp [Value.oneCell']) (by omega) (by omega) rfl (fun A' c' => by simp only [Act.put, List.setIfInBounds_toArray, List.set_cons_succ, List.set_cons_zero]; rfl) ?_; clear hO; intro A' c' u hO; simp only [List.set_cons_zero, List.set_cons_succ] at hO))
        | ((with_reducible refine wpl_build ?_); refine wpList_build_row0 hO rfl (by rfl) rfl (fun b => by simp only [Act.put, List.setIfInBounds_toArray, List.set_cons_succ, List.set_cons_zero]; rfl) ?_; clear hO; intro bb u hO; simp only [List.nil_append, List.cons_append] at hO)
        | ((with_reducible refine wpl_build ?_); refine wpList_build_list (cs := []) hO rfl (by rfl) [] (by rfl) (by rfl) rfl (Nat.le_of_ble_eq_true rfl) (by rfl) rfl (fun b => by simp only [Act.put, List.setIfInBounds_toArray, List.set_cons_succ, List.set_cons_zero]; rfl) ?_; clear hO; intro bb u hO; simp only [List.nil_append, List.cons_append] at hO)
        | ((with_reducible refine wpl_build ?_); refine wpList_build_list (cs := [.int .i64 (2)]) hO rfl (by rfl) [.int .i64 (2)] (by rfl) (by rfl) rfl (Nat.le_of_ble_eq_true rfl) (by rfl) rfl (fun b => by simp only [Act.put, List.setIfInBounds_toArray, List.set_cons_succ, List.set_cons_zero]; rfl) ?_; clear hO; intro bb u hO; simp only [List.nil_append, List.cons_append] at hO)
        | ((with_reducible refine wpl_append ?_); refine wpList_append_box hO rfl (by rfl) rfl rfl _ (by first | exact at0 | exact at1 | exact at2 | exact at3) _ (by first | exact at0 | exact at1 | exact at2 | exact at3) (by rfl) (by simp [Value.oneCell']) (by omega) (by omega) rfl (fun A' c' => by simp only [Act.put, List.setIfInBounds_toArray, List.set_cons_succ, List.set_cons_zero]; rfl) ?_; clear hO; intro A' c' u hO; simp only [List.set_cons_zero, List.set_cons_succ] at hO)
        | fail)
      go_ret2
      exact ⟨_, _, _, rfl, rfl, hO.pick [1] (by decide)⟩
  · have CN := fun u => spec_nums_yes k v2 v3 v4 v6 v7 Ai Al is.length ci ls.length cl u hB
    have hk : k ≤ 2 := by
      unfold l5B at hB
      simp only [Bool.and_eq_true, decide_eq_true_eq] at hB
      exact hB.1
    have HI := Lib.hid (fun x hx => it_num (hit x hx) hk)
    simp only [if_true]
    clear hit hB hk
    go_enter Try.func90, Try.ntmps90
    have hO := Own.nil w
    go_wp2_with (first
      | ((with_reducible refine (CN _).mono ?_); rintro e u ⟨rfl, hb⟩; first | (replace hO := hO.step hb; clear hb) | subst hb)
      | ((with_reducible refine wpl_alloc ?_); refine wpList_alloc_own rfl (by rfl) hO rfl (fun b => by simp only [Act.put, List.setIfInBounds_toArray, List.set_cons_succ, List.set_cons_zero]; rfl) ?_; (first | (refine nm 0 rfl ?_; clear hO; intro b0 u hO) | (refine nm 1 rfl ?_; clear hO; intro b1 u hO) | (refine nm 2 rfl ?_; clear hO; intro b2 u hO) | (refine nm 3 rfl ?_; clear hO; intro b3 u hO)); simp only [List.nil_append, List.cons_append] at hO)
      | ((with_reducible refine wpl_box ?_); refine wpList_box_own rfl (by rfl) hO rfl rfl (fun b => by simp only [Act.put, List.setIfInBounds_toArray, List.set_cons_succ, List.set_cons_zero]; rfl) ?_; (first | (refine nm 0 rfl ?_; clear hO; intro b0 u hO) | (refine nm 1 rfl ?_; clear hO; intro b1 u hO) | (refine nm 2 rfl ?_; clear hO; intro b2 u hO) | (refine nm 3 rfl ?_; clear hO; intro b3 u hO)); simp only [List.nil_append, List.cons_append] at hO)
      | ((with_reducible refine wpl_load ?_); first | (refine wpList_load_box rfl (by first | rfl | (simp only [Region.wanted, yielded, *]; go_simp; done) | (simp [Region.wanted, yielded, *]; done) | fail) hO rfl _ (by first | exact at0 | exact at1 | exact at2 | exact at3) (by rfl) (by simp only [Act.put, List.setIfInBounds_toArray, List.set_cons_succ, List.set_cons_zero]; rfl) ?_) | (refine wpList_load_field rfl (by first | rfl | (simp only [Region.wanted, yielded, *]; go_simp; done) | (simp [Region.wanted, yielded, *]; done) | fail) hO rfl _ (by first | exact at0 | exact at1 | exact at2 | exact at3) (by rfl) (by simp only [Act.put, List.setIfInBounds_toArray, List.set_cons_succ, List.set_cons_zero]; rfl) ?_))
      | ((with_reducible refine wpl_store ?_); first | (refine wpList_store_box rfl (by rfl) hO rfl _ (by first | exact at0 | exact at1 | exact at2 | exact at3) rfl (by rfl) (by rfl) (by rfl) (by rfl) (by rfl) ?_; clear hO; intro u hO; simp only [List.set_cons_zero, List.set_cons_succ] at hO) | (refine wpList_store_field rfl (by rfl) hO rfl _ (by first | exact at0 | exact at1 | exact at2 | exact at3) (Nat.le_of_ble_eq_true rfl) (by simp only [Act.eval, Array.getD_eq_getD_getElem?, List.getElem?_toArray, List.getElem?_cons_succ, List.getElem?_cons_zero, Option.getD_some]; rfl) (by rfl) (by rfl) (by rfl) ?_; clear hO; intro u hO; simp only [List.set_cons_zero, List.set_cons_succ] at hO))
      | ((with_reducible refine wpl_call ?_); first | (refine wpList_append_str hO rfl (by rfl) rfl rfl _ (by first | exact at0 | exact at1 | exact at2 | exact at3) (by omega) rfl (fun A' c' => by simp only [Act.put, List.setIfInBounds_toArray, List.set_cons_succ, List.set_cons_zero]; rfl) ?_; clear hO; intro A' c' u hO; simp only [List.set_cons_zero, List.set_cons_succ] at hO) | (refine wpList_append_lit hO rfl (by rfl) rfl rfl _ (by first | exact at0 | exact at1 | exact at2 | exact at3) (by rfl) (by simp [Value.oneCell']) (by omega) (by omega) rfl (fun A' c' => by simp only [Act.put, List.setIfInBounds_toArray, List.set_cons_succ, List.set_cons_zero]; rfl) ?_; clear hO; intro A' c' u hO; simp only [List.set_cons_zero, List.set_cons_succ] at hO))
      | ((with_reducible refine wpl_build ?_); refine wpList_build_row0 hO rfl (by rfl) rfl (fun b => by simp only [Act.put, List.setIfInBounds_toArray, List.set_cons_succ, List.set_cons_zero]; rfl) ?_; clear hO; intro bb u hO; simp only [List.nil_append, List.cons_append] at hO)
      | ((with_reducible refine wpl_build ?_); refine wpList_build_list (cs := []) hO rfl (by rfl) [] (by rfl) (by rfl) rfl (Nat.le_of_ble_eq_true rfl) (by rfl) rfl (fun b => by simp only [Act.put, List.setIfInBounds_toArray, List.set_cons_succ, List.set_cons_zero]; rfl) ?_; clear hO; intro bb u hO; simp only [List.nil_append, List.cons_append] at hO)
      | ((with_reducible refine wpl_build ?_); refine wpList_build_list (cs := [.int .i64 (2)]) hO rfl (by rfl) [.int .i64 (2)] (by rfl) (by rfl) rfl (Nat.le_of_ble_eq_true rfl) (by rfl) rfl (fun b => by simp only [Act.put, List.setIfInBounds_toArray, List.set_cons_succ, List.set_cons_zero]; rfl) ?_; clear hO; intro bb u hO; simp only [List.nil_append, List.cons_append] at hO)
      | ((with_reducible refine wpl_append ?_); refine wpList_append_box hO rfl (by rfl) rfl rfl _ (by first | exact at0 | exact at1 | exact at2 | exact at3 | exact at4) _ (by first | exact at0 | exact at1 | exact at2 | exact at3 | exact at4) (by rfl) (by simp [Value.oneCell']) (by omega) (by omega) rfl (fun A' c' => by simp only [Act.put, List.setIfInBounds_toArray, List.set_cons_succ, List.set_cons_zero]; rfl) ?_; clear hO; intro A' c' u hO; simp only [List.set_cons_zero, List.set_cons_succ] at hO)
      | fail)
    clear CN
    go_loopw [4, 7] (fun s i u => ∃ (m : Nat) (A : Option Addr) (c : Nat), m ≤ is.length ∧ i = .int .i64 m ∧ s = .slice A m c ∧ Own w [box b0 27 [.int .i64 k, .slice Ai is.length ci, v2, v3, v4, .slice Al ls.length cl, v6, v7], row 3 1 (.slice A m c) m (ints ((is.take m).map trI))] u) (fun _ i _ => is.length - (intOf i).toNat)
    case atStart => exact ⟨0, _, _, Nat.zero_le _, rfl, rfl, hO⟩
    case round =>
      clear hO
      obtain ⟨m, A, c, hm, rfl, rfl, hO⟩ := hrel
      by_cases hlt : m < is.length
      · have HSS := Lib.hid (ints_map_succ hlt)
        have hx0 := HI.out _ (List.getElem_mem hlt)
        obtain ⟨x, hx⟩ : ∃ x, is[m] = x := ⟨_, rfl⟩
        obtain ⟨b, off, rfl, hb, d0, d1, d2⟩ := h1.it hO.below hlt hx
        rw [hx] at HSS hx0
        clear hx
        obtain ⟨xn, xd, xt⟩ := x
        obtain ⟨hmis, hn1, hn2⟩ := hx0
        simp only at d0 d1 d2 hmis hn1 hn2
        have i1 : (0 : Int) ≤ (m : Int) := by omega
        have i2 : (m : Int) < (is.length : Int) := by omega
        by_cases hd : xd = 0
        · have HT : Hid (trI ⟨xn, xd, xt⟩ = 2) := Lib.hid (by unfold trI; rw [hmis, decide_eq_true hd]; rfl)
          have qd : (xd == 0) = true := by simp [hd]
          rw [HT.out] at HSS
          clear hd hmis HT d0 d2
          go_wp2_with (first
            | ((with_reducible refine wpl_alloc ?_); refine wpList_alloc_own rfl (by rfl) hO rfl (fun b => by simp only [Act.put, List.setIfInBounds_toArray, List.set_cons_succ, List.set_cons_zero]; rfl) ?_; (first | (refine nm 0 rfl ?_; clear hO; intro b0 u hO) | (refine nm 1 rfl ?_; clear hO; intro b1 u hO) | (refine nm 2 rfl ?_; clear hO; intro b2 u hO) | (refine nm 3 rfl ?_; clear hO; intro b3 u hO)); simp only [List.nil_append, List.cons_append] at hO)
            | ((with_reducible refine wpl_box ?_); refine wpList_box_own rfl (by rfl) hO rfl rfl (fun b => by simp only [Act.put, List.setIfInBounds_toArray, List.set_cons_succ, List.set_cons_zero]; rfl) ?_; (first | (refine nm 0 rfl ?_; clear hO; intro b0 u hO) | (refine nm 1 rfl ?_; clear hO; intro b1 u hO) | (refine nm 2 rfl ?_; clear hO; intro b2 u hO) | (refine nm 3 rfl ?_; clear hO; intro b3 u hO)); simp only [List.nil_append, List.cons_append] at hO)
            | ((with_reducible refine wpl_load ?_); first | (refine wpList_load_box rfl (by first | rfl | (simp only [Region.wanted, yielded, *]; go_simp; done) | (simp [Region.wanted, yielded, *]; done) | fail) hO rfl _ (by first | exact at0 | exact at1 | exact at2 | exact at3) (by rfl) (by simp only [Act.put, List.setIfInBounds_toArray, List.set_cons_succ, List.set_cons_zero]; rfl) ?_) | (refine wpList_load_field rfl (by first | rfl | (simp only [Region.wanted, yielded, *]; go_simp; done) | (simp [Region.wanted, yielded, *]; done) | fail) hO rfl _ (by first | exact at0 | exact at1 | exact at2 | exact at3) (by rfl) (by simp only [Act.put, List.setIfInBounds_toArray, List.set_cons_succ, List.set_cons_zero]; rfl) ?_))
            | ((with_reducible refine wpl_store ?_); first | (refine wpList_store_box rfl (by rfl) hO rfl _ (by first | exact at0 | exact at1 | exact at2 | exact at3) rfl (by rfl) (by rfl) (by rfl) (by rfl) (by rfl) ?_; clear hO; intro u hO; simp only [List.set_cons_zero, List.set_cons_succ] at hO) | (refine wpList_store_field rfl (by rfl) hO rfl _ (by first | exact at0 | exact at1 | exact at2 | exact at3) (Nat.le_of_ble_eq_true rfl) (by simp only [Act.eval, Array.getD_eq_getD_getElem?, List.getElem?_toArray, List.getElem?_cons_succ, List.getElem?_cons_zero, Option.getD_some]; rfl) (by rfl) (by rfl) (by rfl) ?_; clear hO; intro u hO; simp only [List.set_cons_zero, List.set_cons_succ] at hO))
            | ((with_reducible refine wpl_call ?_); first | (refine wpList_append_str hO rfl (by rfl) rfl rfl _ (by first | exact at0 | exact at1 | exact at2 | exact at3) (by omega) rfl (fun A' c' => by simp only [Act.put, List.setIfInBounds_toArray, List.set_cons_succ, List.set_cons_zero]; rfl) ?_; clear hO; intro A' c' u hO; simp only [List.set_cons_zero, List.set_cons_succ] at hO) | (refine wpList_append_lit hO rfl (by rfl) rfl rfl _ (by first | exact at0 | exact at1 | exact at2 | exact at3) (by rfl) (by simp [Value.oneCell']) (by omega) (by omega) rfl (fun A' c' => by simp only [Act.put, List.setIfInBounds_toArray, List.set_cons_succ, List.set_cons_zero]; rfl) ?_; clear hO; intro A' c' u hO; simp only [List.set_cons_zero, List.set_cons_succ] at hO))
            | ((with_reducible refine wpl_build ?_); refine wpList_build_list (cs := []) hO rfl (by rfl) [] (by rfl) (by rfl) rfl (Nat.le_of_ble_eq_true rfl) (by rfl) rfl (fun b => by simp only [Act.put, List.setIfInBounds_toArray, List.set_cons_succ, List.set_cons_zero]; rfl) ?_; clear hO; intro bb u hO; simp only [List.nil_append, List.cons_append] at hO)
            | ((with_reducible refine wpl_build ?_); refine wpList_build_list (cs := [.int .i64 (2)]) hO rfl (by rfl) [.int .i64 (2)] (by rfl) (by rfl) rfl (Nat.le_of_ble_eq_true rfl) (by rfl) rfl (fun b => by simp only [Act.put, List.setIfInBounds_toArray, List.set_cons_succ, List.set_cons_zero]; rfl) ?_; clear hO; intro bb u hO; simp only [List.nil_append, List.cons_append] at hO)
            | ((with_reducible refine wpl_append ?_); refine wpList_append_box hO rfl (by rfl) rfl rfl _ (by first | exact at0 | exact at1 | exact at2 | exact at3 | exact at4) _ (by first | exact at0 | exact at1 | exact at2 | exact at3 | exact at4) (by rfl) (by simp [Value.oneCell']) (by omega) (by omega) rfl (fun A' c' => by simp only [Act.put, List.setIfInBounds_toArray, List.set_cons_succ, List.set_cons_zero]; rfl) ?_; clear hO; intro A' c' u hO; simp only [List.set_cons_zero, List.set_cons_succ] at hO)
            | fail)
          replace hO := hO.pick [0, 1] (by decide)
          simp only [List.filterMap_cons, List.filterMap_nil, List.getElem?_cons_zero, List.getElem?_cons_succ] at hO
          rw [← HSS.out] at hO
          go_roundw
          case rel => exact ⟨m + 1, _, _, by omega, by go_num, rfl, hO⟩
          case measure => simp [intOf]; omega
        · have qd : (xd == 0) = false := by simp [hd]
          by_cases hn : xn = 0
          · have HT : Hid (trI ⟨xn, xd, xt⟩ = 0) := Lib.hid (by unfold trI; rw [hmis, decide_eq_false hd]; simp [hn])
            rw [HT.out] at HSS
            subst hn
            clear hd hmis HT d2
            go_wp2_with (first
              | ((with_reducible refine (spec_abs _ _ (by omega)).mono ?_); rintro e u ⟨rfl, hb⟩; first | (replace hO := hO.step hb; clear hb) | subst hb)
              | ((with_reducible refine wpl_alloc ?_); refine wpList_alloc_own rfl (by rfl) hO rfl (fun b => by simp only [Act.put, List.setIfInBounds_toArray, List.set_cons_succ, List.set_cons_zero]; rfl) ?_; (first | (refine nm 0 rfl ?_; clear hO; intro b0 u hO) | (refine nm 1 rfl ?_; clear hO; intro b1 u hO) | (refine nm 2 rfl ?_; clear hO; intro b2 u hO) | (refine nm 3 rfl ?_; clear hO; intro b3 u hO)); simp only [List.nil_append, List.cons_append] at hO)
              | ((with_reducible refine wpl_box ?_); refine wpList_box_own rfl (by rfl) hO rfl rfl (fun b => by simp only [Act.put, List.setIfInBounds_toArray, List.set_cons_succ, List.set_cons_zero]; rfl) ?_; (first | (refine nm 0 rfl ?_; clear hO; intro b0 u hO) | (refine nm 1 rfl ?_; clear hO; intro b1 u hO) | (refine nm 2 rfl ?_; clear hO; intro b2 u hO) | (refine nm 3 rfl ?_; clear hO; intro b3 u hO)); simp only [List.nil_append, List.cons_append] at hO)
              | ((with_reducible refine wpl_load ?_); first | (refine wpList_load_box rfl (by first | rfl | (simp only [Region.wanted, yielded, *]; go_simp; done) | (simp [Region.wanted, yielded, *]; done) | fail) hO rfl _ (by first | exact at0 | exact at1 | exact at2 | exact at3) (by rfl) (by simp only [Act.put, List.setIfInBounds_toArray, List.set_cons_succ, List.set_cons_zero]; rfl) ?_) | (refine wpList_load_field rfl (by first | rfl | (simp only [Region.wanted, yielded, *]; go_simp; done) | (simp [Region.wanted, yielded, *]; done) | fail) hO rfl _ (by first | exact at0 | exact at1 | exact at2 | exact at3) (by rfl) (by simp only [Act.put, List.setIfInBounds_toArray, List.set_cons_succ, List.set_cons_zero]; rfl) ?_))
              | ((with_reducible refine wpl_store ?_); first | (refine wpList_store_box rfl (by rfl) hO rfl _ (by first | exact at0 | exact at1 | exact at2 | exact at3) rfl (by rfl) (by rfl) (by rfl) (by rfl) (by rfl) ?_; clear hO; intro u hO; simp only [List.set_cons_zero, List.set_cons_succ] at hO) | (refine wpList_store_field rfl (by rfl) hO rfl _ (by first | exact at0 | exact at1 | exact at2 | exact at3) (Nat.le_of_ble_eq_true rfl) (by simp only [Act.eval, Array.getD_eq_getD_getElem?, List.getElem?_toArray, List.getElem?_cons_succ, List.getElem?_cons_zero, Option.getD_some]; rfl) (by rfl) (by rfl) (by rfl) ?_; clear hO; intro u hO; simp only [List.set_cons_zero, List.set_cons_succ] at hO))
              | ((with_reducible refine wpl_call ?_); first | (refine wpList_append_str hO rfl (by rfl) rfl rfl _ (by first | exact at0 | exact at1 | exact at2 | exact at3) (by omega) rfl (fun A' c' => by simp only [Act.put, List.setIfInBounds_toArray, List.set_cons_succ, List.set_cons_zero]; rfl) ?_; clear hO; intro A' c' u hO; simp only [List.set_cons_zero, List.set_cons_succ] at hO) | (refine wpList_append_lit hO rfl (by rfl) rfl rfl _ (by first | exact at0 | exact at1 | exact at2 | exact at3) (by rfl) (by simp [Value.oneCell']) (by omega) (by omega) rfl (fun A' c' => by simp only [Act.put, List.setIfInBounds_toArray, List.set_cons_succ, List.set_cons_zero]; rfl) ?_; clear hO; intro A' c' u hO; simp only [List.set_cons_zero, List.set_cons_succ] at hO))
              | ((with_reducible refine wpl_build ?_); refine wpList_build_list (cs := []) hO rfl (by rfl) [] (by rfl) (by rfl) rfl (Nat.le_of_ble_eq_true rfl) (by rfl) rfl (fun b => by simp only [Act.put, List.setIfInBounds_toArray, List.set_cons_succ, List.set_cons_zero]; rfl) ?_; clear hO; intro bb u hO; simp only [List.nil_append, List.cons_append] at hO)
              | ((with_reducible refine wpl_build ?_); refine wpList_build_list (cs := [.int .i64 (2)]) hO rfl (by rfl) [.int .i64 (2)] (by rfl) (by rfl) rfl (Nat.le_of_ble_eq_true rfl) (by rfl) rfl (fun b => by simp only [Act.put, List.setIfInBounds_toArray, List.set_cons_succ, List.set_cons_zero]; rfl) ?_; clear hO; intro bb u hO; simp only [List.nil_append, List.cons_append] at hO)
              | ((with_reducible refine wpl_build ?_); refine wpList_build_one (cs := [.int .i64 0]) hO rfl (by rfl) (by simp only [Act.eval, Array.getD_eq_getD_getElem?, List.getElem?_toArray, List.getElem?_cons_succ, List.getElem?_cons_zero, Option.getD_some]; rfl) rfl rfl (Nat.le_of_ble_eq_true rfl) rfl (fun b => by simp only [Act.put, List.setIfInBounds_toArray, List.set_cons_succ, List.set_cons_zero]; rfl) ?_; clear hO; intro bb u hO; simp only [List.nil_append, List.cons_append] at hO)
              | ((with_reducible refine wpl_append ?_); refine wpList_append_box hO rfl (by rfl) rfl rfl _ (by first | exact at0 | exact at1 | exact at2 | exact at3 | exact at4) _ (by first | exact at0 | exact at1 | exact at2 | exact at3 | exact at4) (by rfl) (by simp [Value.oneCell']) (by omega) (by omega) rfl (fun A' c' => by simp only [Act.put, List.setIfInBounds_toArray, List.set_cons_succ, List.set_cons_zero]; rfl) ?_; clear hO; intro A' c' u hO; simp only [List.set_cons_zero, List.set_cons_succ] at hO)
              | fail)
            replace hO := hO.pick [0, 1] (by decide)
            simp only [List.filterMap_cons, List.filterMap_nil, List.getElem?_cons_zero, List.getElem?_cons_succ] at hO
            rw [← HSS.out] at hO
            go_roundw
            case rel => exact ⟨m + 1, _, _, by omega, by go_num, rfl, hO⟩
            case measure => simp [intOf]; omega
          · have HT : Hid (trI ⟨xn, xd, xt⟩ = 1) := Lib.hid (by unfold trI; rw [hmis, decide_eq_false hd]; simp [hn])
            rw [HT.out] at HSS
            clear hd hmis HT d2
            go_wp2_with (first
              | ((with_reducible refine (spec_abs _ _ (by omega)).mono ?_); rintro e u ⟨rfl, hb⟩; first | (replace hO := hO.step hb; clear hb) | subst hb)
              | ((with_reducible refine wpl_alloc ?_); refine wpList_alloc_own rfl (by rfl) hO rfl (fun b => by simp only [Act.put, List.setIfInBounds_toArray, List.set_cons_succ, List.set_cons_zero]; rfl) ?_; (first | (refine nm 0 rfl ?_; clear hO; intro b0 u hO) | (refine nm 1 rfl ?_; clear hO; intro b1 u hO) | (refine nm 2 rfl ?_; clear hO; intro b2 u hO) | (refine nm 3 rfl ?_; clear hO; intro b3 u hO)); simp only [List.nil_append, List.cons_append] at hO)
              | ((with_reducible refine wpl_box ?_); refine wpList_box_own rfl (by rfl) hO rfl rfl (fun b => by simp only [Act.put, List.setIfInBounds_toArray, List.set_cons_succ, List.set_cons_zero]; rfl) ?_; (first | (refine nm 0 rfl ?_; clear hO; intro b0 u hO) | (refine nm 1 rfl ?_; clear hO; intro b1 u hO) | (refine nm 2 rfl ?_; clear hO; intro b2 u hO) | (refine nm 3 rfl ?_; clear hO; intro b3 u hO)); simp only [List.nil_append, List.cons_append] at hO)
              | ((with_reducible refine wpl_load ?_); first | (refine wpList_load_box rfl (by first | rfl | (simp only [Region.wanted, yielded, *]; go_simp; done) | (simp [Region.wanted, yielded, *]; done) | fail) hO rfl _ (by first | exact at0 | exact at1 | exact at2 | exact at3) (by rfl) (by simp only [Act.put, List.setIfInBounds_toArray, List.set_cons_succ, List.set_cons_zero]; rfl) ?_) | (refine wpList_load_field rfl (by first | rfl | (simp only [Region.wanted, yielded, *]; go_simp; done) | (simp [Region.wanted, yielded, *]; done) | fail) hO rfl _ (by first | exact at0 | exact at1 | exact at2 | exact at3) (by rfl) (by simp only [Act.put, List.setIfInBounds_toArray, List.set_cons_succ, List.set_cons_zero]; rfl) ?_))
              | ((with_reducible refine wpl_store ?_); first | (refine wpList_store_box rfl (by rfl) hO rfl _ (by first | exact at0 | exact at1 | exact at2 | exact at3) rfl (by rfl) (by rfl) (by rfl) (by rfl) (by rfl) ?_; clear hO; intro u hO; simp only [List.set_cons_zero, List.set_cons_succ] at hO) | (refine wpList_store_field rfl (by rfl) hO rfl _ (by first | exact at0 | exact at1 | exact at2 | exact at3) (Nat.le_of_ble_eq_true rfl) (by simp only [Act.eval, Array.getD_eq_getD_getElem?, List.getElem?_toArray, List.getElem?_cons_succ, List.getElem?_cons_zero, Option.getD_some]; rfl) (by rfl) (by rfl) (by rfl) ?_; clear hO; intro u hO; simp only [List.set_cons_zero, List.set_cons_succ] at hO))
              | ((with_reducible refine wpl_call ?_); first | (refine wpList_append_str hO rfl (by rfl) rfl rfl _ (by first | exact at0 | exact at1 | exact at2 | exact at3) (by omega) rfl (fun A' c' => by simp only [Act.put, List.setIfInBounds_toArray, List.set_cons_succ, List.set_cons_zero]; rfl) ?_; clear hO; intro A' c' u hO; simp only [List.set_cons_zero, List.set_cons_succ] at hO) | (refine wpList_append_lit hO rfl (by rfl) rfl rfl _ (by first | exact at0 | exact at1 | exact at2 | exact at3) (by rfl) (by simp [Value.oneCell']) (by omega) (by omega) rfl (fun A' c' => by simp only [Act.put, List.setIfInBounds_toArray, List.set_cons_succ, List.set_cons_zero]; rfl) ?_; clear hO; intro A' c' u hO; simp only [List.set_cons_zero, List.set_cons_succ] at hO))
              | ((with_reducible refine wpl_build ?_); refine wpList_build_list (cs := []) hO rfl (by rfl) [] (by rfl) (by rfl) rfl (Nat.le_of_ble_eq_true rfl) (by rfl) rfl (fun b => by simp only [Act.put, List.setIfInBounds_toArray, List.set_cons_succ, List.set_cons_zero]; rfl) ?_; clear hO; intro bb u hO; simp only [List.nil_append, List.cons_append] at hO)
              | ((with_reducible refine wpl_build ?_); refine wpList_build_list (cs := [.int .i64 (2)]) hO rfl (by rfl) [.int .i64 (2)] (by rfl) (by rfl) rfl (Nat.le_of_ble_eq_true rfl) (by rfl) rfl (fun b => by simp only [Act.put, List.setIfInBounds_toArray, List.set_cons_succ, List.set_cons_zero]; rfl) ?_; clear hO; intro bb u hO; simp only [List.nil_append, List.cons_append] at hO)
              | ((with_reducible refine wpl_build ?_); refine wpList_build_one (cs := [.int .i64 1]) hO rfl (by rfl) (by simp only [Act.eval, Array.getD_eq_getD_getElem?, List.getElem?_toArray, List.getElem?_cons_succ, List.getElem?_cons_zero, Option.getD_some]; rfl) rfl rfl (Nat.le_of_ble_eq_true rfl) rfl (fun b => by simp only [Act.put, List.setIfInBounds_toArray, List.set_cons_succ, List.set_cons_zero]; rfl) ?_; clear hO; intro bb u hO; simp only [List.nil_append, List.cons_append] at hO)
              | ((with_reducible refine wpl_append ?_); refine wpList_append_box hO rfl (by rfl) rfl rfl _ (by first | exact at0 | exact at1 | exact at2 | exact at3 | exact at4) _ (by first | exact at0 | exact at1 | exact at2 | exact at3 | exact at4) (by rfl) (by simp [Value.oneCell']) (by omega) (by omega) rfl (fun A' c' => by simp only [Act.put, List.setIfInBounds_toArray, List.set_cons_succ, List.set_cons_zero]; rfl) ?_; clear hO; intro A' c' u hO; simp only [List.set_cons_zero, List.set_cons_succ] at hO)
              | fail)
            replace hO := hO.pick [0, 1] (by decide)
            simp only [List.filterMap_cons, List.filterMap_nil, List.getElem?_cons_zero, List.getElem?_cons_succ] at hO
            rw [← HSS.out] at hO
            go_roundw
            case rel => exact ⟨m + 1, _, _, by omega, by go_num, rfl, hO⟩
            case measure => simp [intOf]; omega
      · have hmn : m = is.length := by omega
        subst hmn
        rw [List.take_length] at hO
        go_wp2_with (first
          | ((with_reducible refine wpl_alloc ?_); refine wpList_alloc_own rfl (by rfl) hO rfl (fun b => by simp only [Act.put, List.setIfInBounds_toArray, List.set_cons_succ, List.set_cons_zero]; rfl) ?_; (first | (refine nm 0 rfl ?_; clear hO; intro b0 u hO) | (refine nm 1 rfl ?_; clear hO; intro b1 u hO) | (refine nm 2 rfl ?_; clear hO; intro b2 u hO) | (refine nm 3 rfl ?_; clear hO; intro b3 u hO)); simp only [List.nil_append, List.cons_append] at hO)
          | ((with_reducible refine wpl_box ?_); refine wpList_box_own rfl (by rfl) hO rfl rfl (fun b => by simp only [Act.put, List.setIfInBounds_toArray, List.set_cons_succ, List.set_cons_zero]; rfl) ?_; (first | (refine nm 0 rfl ?_; clear hO; intro b0 u hO) | (refine nm 1 rfl ?_; clear hO; intro b1 u hO) | (refine nm 2 rfl ?_; clear hO; intro b2 u hO) | (refine nm 3 rfl ?_; clear hO; intro b3 u hO)); simp only [List.nil_append, List.cons_append] at hO)
          | ((with_reducible refine wpl_load ?_); first | (refine wpList_load_box rfl (by first | rfl | (simp only [Region.wanted, yielded, *]; go_simp; done) | (simp [Region.wanted, yielded, *]; done) | fail) hO rfl _ (by first | exact at0 | exact at1 | exact at2 | exact at3) (by rfl) (by simp only [Act.put, List.setIfInBounds_toArray, List.set_cons_succ, List.set_cons_zero]; rfl) ?_) | (refine wpList_load_field rfl (by first | rfl | (simp only [Region.wanted, yielded, *]; go_simp; done) | (simp [Region.wanted, yielded, *]; done) | fail) hO rfl _ (by first | exact at0 | exact at1 | exact at2 | exact at3) (by rfl) (by simp only [Act.put, List.setIfInBounds_toArray, List.set_cons_succ, List.set_cons_zero]; rfl) ?_))
          | ((with_reducible refine wpl_store ?_); first | (refine wpList_store_box rfl (by rfl) hO rfl _ (by first | exact at0 | exact at1 | exact at2 | exact at3) rfl (by rfl) (by rfl) (by rfl) (by rfl) (by rfl) ?_; clear hO; intro u hO; simp only [List.set_cons_zero, List.set_cons_succ] at hO) | (refine wpList_store_field rfl (by rfl) hO rfl _ (by first | exact at0 | exact at1 | exact at2 | exact at3) (Nat.le_of_ble_eq_true rfl) (by simp only [Act.eval, Array.getD_eq_getD_getElem?, List.getElem?_toArray, List.getElem?_cons_succ, List.getElem?_cons_zero, Option.getD_some]; rfl) (by rfl) (by rfl) (by rfl) ?_; clear hO; intro u hO; simp only [List.set_cons_zero, List.set_cons_succ] at hO))
          | ((with_reducible refine wpl_call ?_); first | (refine wpList_append_str hO rfl (by rfl) rfl rfl _ (by first | exact at0 | exact at1 | exact at2 | exact at3) (by omega) rfl (fun A' c' => by simp only [Act.put, List.setIfInBounds_toArray, List.set_cons_succ, List.set_cons_zero]; rfl) ?_; clear hO; intro A' c' u hO; simp only [List.set_cons_zero, List.set_cons_succ] at hO) | (refine wpList_append_lit hO rfl (by rfl) rfl rfl _ (by first | exact at0 | exact at1 | exact at2 | exact at3) (by rfl) (by simp [Value.oneCell']) (by omega) (by omega) rfl (fun A' c' => by simp only [Act.put, List.setIfInBounds_toArray, List.set_cons_succ, List.set_cons_zero]; rfl) ?_; clear hO; intro A' c' u hO; simp only [List.set_cons_zero, List.set_cons_succ] at hO))
          | ((with_reducible refine wpl_build ?_); refine wpList_build_list (cs := []) hO rfl (by rfl) [] (by rfl) (by rfl) rfl (Nat.le_of_ble_eq_true rfl) (by rfl) rfl (fun b => by simp only [Act.put, List.setIfInBounds_toArray, List.set_cons_succ, List.set_cons_zero]; rfl) ?_; clear hO; intro bb u hO; simp only [List.nil_append, List.cons_append] at hO)
          | ((with_reducible refine wpl_build ?_); refine wpList_build_list (cs := [.int .i64 (2)]) hO rfl (by rfl) [.int .i64 (2)] (by rfl) (by rfl) rfl (Nat.le_of_ble_eq_true rfl) (by rfl) rfl (fun b => by simp only [Act.put, List.setIfInBounds_toArray, List.set_cons_succ, List.set_cons_zero]; rfl) ?_; clear hO; intro bb u hO; simp only [List.nil_append, List.cons_append] at hO)
          | ((with_reducible refine wpl_build ?_); refine wpList_build_one (cs := [.int .i64 1]) hO rfl (by rfl) (by simp only [Act.eval, Array.getD_eq_getD_getElem?, List.getElem?_toArray, List.getElem?_cons_succ, List.getElem?_cons_zero, Option.getD_some]; rfl) rfl rfl (Nat.le_of_ble_eq_true rfl) rfl (fun b => by simp only [Act.put, List.setIfInBounds_toArray, List.set_cons_succ, List.set_cons_zero]; rfl) ?_; clear hO; intro bb u hO; simp only [List.nil_append, List.cons_append] at hO)
          | ((with_reducible refine wpl_append ?_); refine wpList_append_box hO rfl (by rfl) rfl rfl _ (by first | exact at0 | exact at1 | exact at2 | exact at3 | exact at4) _ (by first | exact at0 | exact at1 | exact at2 | exact at3 | exact at4) (by rfl) (by simp [Value.oneCell']) (by omega) (by omega) rfl (fun A' c' => by simp only [Act.put, List.setIfInBounds_toArray, List.set_cons_succ, List.set_cons_zero]; rfl) ?_; clear hO; intro A' c' u hO; simp only [List.set_cons_zero, List.set_cons_succ] at hO)
          | fail)
        go_ret2
        exact ⟨_, _, _, rfl, by simp, hO.pick [1] (by decide)⟩

set_option maxRecDepth 20000 in
set_option maxHeartbeats 4000000 in
theorem spec_nv (t : VT) (vs : List Value) (w : World) (hv : RdV w t vs) (hz : szV t ≤ 1048576) : Calls Try.prog 54 #[.agg vs.toArray] w (RetVS (ngT t) (ngS t) w) := by
  have CA := fun u (hb : Below w.heap.size w u) => spec_isVec t _ u (hv.grow hb) hz
  obtain ⟨k, is, ps, ns, cs, ls, c, e⟩ := t
  have HE : Hid (ngT (.mk k is ps ns cs ls c e) = if isV (.mk k is ps ns cs ls c e) then (if cntK k ls.length then vecN 1 (is.map ngI) ns else vecI 0 []) else vecI 0 []) := Lib.hid rfl
  have HS : Hid (ngS (.mk k is ps ns cs ls c e) = if isV (.mk k is ps ns cs ls c e) then (if cntK k ls.length then ⟨#[]⟩ else nonLogS) else badS) := Lib.hid rfl
  have HK := Lib.hid (fun h => isV_items (k := k) (is := is) (ps := ps) (ns := ns) (cs := cs) (ls := ls) (c := c) (e := e) h)
  have HIT := Lib.hid (fun h => (isV_facts (k := k) (is := is) (ps := ps) (ns := ns) (cs := cs) (ls := ls) (c := c) (e := e) h).2.2.2.2.2.2.2.1)
  have HC := Lib.hid (fun h => l5_cnt (k := k) (is := is) (ps := ps) (ns := ns) (cs := cs) (ls := ls) (c := c) (e := e) h)
  obtain ⟨q, hq⟩ : ∃ q, isV (.mk k is ps ns cs ls c e) = q := ⟨_, rfl⟩
  rw [hq] at CA HE HS HK HIT HC
  obtain ⟨Ai, Ap, An, Ac, Al, ci, cp, cn, cc, cl, pvs, rfl, h1, h2, h3, h4, h5⟩ := hv.open
  have hnz : ns.length ≤ 1048576 := by
    unfold szV szS at hz
    omega
  clear hv hz hq
  cases q with
  | false =>
    have HF : Hid (ngT (.mk k is ps ns cs ls c e) = vecI 0 []) := Lib.hid (by rw [HE.out]; rfl)
    have HG : Hid (ngS (.mk k is ps ns cs ls c e) = badS) := Lib.hid (by rw [HS.out]; rfl)
    go_enter Try.func54, Try.ntmps54
    have hO := Own.nil w
    go_wp2_with (first
      | ((with_reducible refine (CA _ hO.below).mono ?_); rintro e u ⟨rfl, hb⟩; first | (replace hO := hO.step hb; clear hb) | subst hb)
      | ((with_reducible refine (spec_bad _).mono ?_); rintro e u ⟨rfl, hb⟩; first | (replace hO := hO.step hb; clear hb) | subst hb)
      | ((with_reducible refine wpl_alloc ?_); refine wpList_alloc_own rfl (by rfl) hO rfl (fun b => by simp only [Act.put, List.setIfInBounds_toArray, List.set_cons_succ, List.set_cons_zero]; rfl) ?_; (first | (refine nm 0 rfl ?_; clear hO; intro b0 u hO) | (refine nm 1 rfl ?_; clear hO; intro b1 u hO) | (refine nm 2 rfl ?_; clear hO; intro b2 u hO) | (refine nm 3 rfl ?_; clear hO; intro b3 u hO)); simp only [List.nil_append, List.cons_append] at hO)
      | ((with_reducible refine wpl_box ?_); refine wpList_box_own rfl (by rfl) hO rfl rfl (fun b => by simp only [Act.put, List.setIfInBounds_toArray, List.set_cons_succ, List.set_cons_zero]; rfl) ?_; (first | (refine nm 0 rfl ?_; clear hO; intro b0 u hO) | (refine nm 1 rfl ?_; clear hO; intro b1 u hO) | (refine nm 2 rfl ?_; clear hO; intro b2 u hO) | (refine nm 3 rfl ?_; clear hO; intro b3 u hO)); simp only [List.nil_append, List.cons_append] at hO)
      | ((with_reducible refine wpl_load ?_); first | (refine wpList_load_box rfl (by first | rfl | (simp only [Region.wanted, yielded, *]; go_simp; done) | (simp [Region.wanted, yielded, *]; done) | fail) hO rfl _ (by first | exact at0 | exact at1 | exact at2 | exact at3) (by rfl) (by simp only [Act.put, List.setIfInBounds_toArray, List.set_cons_succ, List.set_cons_zero]; rfl) ?_) | (refine wpList_load_field rfl (by first | rfl | (simp only [Region.wanted, yielded, *]; go_simp; done) | (simp [Region.wanted, yielded, *]; done) | fail) hO rfl _ (by first | exact at0 | exact at1 | exact at2 | exact at3) (by rfl) (by simp only [Act.put, List.setIfInBounds_toArray, List.set_cons_succ, List.set_cons_zero]; rfl) ?_))
      | ((with_reducible refine wpl_store ?_); first | (refine wpList_store_box rfl (by rfl) hO rfl _ (by first | exact at0 | exact at1 | exact at2 | exact at3) rfl (by rfl) (by rfl) (by rfl) (by rfl) (by rfl) ?_; clear hO; intro u hO; simp only [List.set_cons_zero, List.set_cons_succ] at hO) | (refine wpList_store_field rfl (by rfl) hO rfl _ (by first | exact at0 | exact at1 | exact at2 | exact at3) (Nat.le_of_ble_eq_true rfl) (by simp only [Act.eval, Array.getD_eq_getD_getElem?, List.getElem?_toArray, List.getElem?_cons_succ, List.getElem?_cons_zero, Option.getD_some]; rfl) (by rfl) (by rfl) (by rfl) ?_; clear hO; intro u hO; simp only [List.set_cons_zero, List.set_cons_succ] at hO))
      | ((with_reducible refine wpl_call ?_); first | (refine wpList_append_str hO rfl (by rfl) rfl rfl _ (by first | exact at0 | exact at1 | exact at2 | exact at3) (by omega) rfl (fun A' c' => by simp only [Act.put, List.setIfInBounds_toArray, List.set_cons_succ, List.set_cons_zero]; rfl) ?_; clear hO; intro A' c' u hO; simp only [List.set_cons_zero, List.set_cons_succ] at hO) | (refine wpList_append_lit hO rfl (by rfl) rfl rfl _ (by first | exact at0 | exact at1 | exact at2 | exact at3) (by rfl) (by simp [Value.oneCell']) (by omega) (by omega) rfl (fun A' c' => by simp only [Act.put, List.setIfInBounds_toArray, List.set_cons_succ, List.set_cons_zero]; rfl) ?_; clear hO; intro A' c' u hO; simp only [List.set_cons_zero, List.set_cons_succ] at hO))
      | fail)
    obtain ⟨F, hvo, hF⟩ := Own.vec0 u 0
    exact ret_box2 rfl hO rfl 1 at1 rfl rfl rfl ⟨_, _, by rw [HG.out]; rfl, by rw [HF.out]; exact hvo, (hO.call hF).pick [0] (by decide)⟩
  | true =>
    have hle := HK.out rfl
    have hc := HC.out rfl
    have CL := fun u (hb : Below w.heap.size w u) => spec_l5log k is (.slice Ap ps.length cp) (.slice An ns.length cn) (.slice Ac cs.length cc) (.int .i64 c) (.int .i64 e) Ai Al ci cl ls u (h1.below hb) hle (HIT.out rfl)
    rw [hc] at CL
    obtain ⟨r, hr⟩ : ∃ r, cntK k ls.length = r := ⟨_, rfl⟩
    rw [hr] at CL HE HS
    clear hc hr HIT HC HK
    cases r with
    | false =>
      have HF : Hid (ngT (.mk k is ps ns cs ls c e) = vecI 0 []) := Lib.hid (by rw [HE.out]; rfl)
      have HG : Hid (ngS (.mk k is ps ns cs ls c e) = nonLogS) := Lib.hid (by rw [HS.out]; rfl)
      go_enter Try.func54, Try.ntmps54
      have hO := Own.nil w
      go_wp2_with (first
        | ((with_reducible refine (CA _ hO.below).mono ?_); rintro e u ⟨rfl, hb⟩; first | (replace hO := hO.step hb; clear hb) | subst hb)
        | ((with_reducible refine wpl_alloc ?_); refine wpList_alloc_own rfl (by rfl) hO rfl (fun b => by simp only [Act.put, List.setIfInBounds_toArray, List.set_cons_succ, List.set_cons_zero]; rfl) ?_; (first | (refine nm 0 rfl ?_; clear hO; intro b0 u hO) | (refine nm 1 rfl ?_; clear hO; intro b1 u hO) | (refine nm 2 rfl ?_; clear hO; intro b2 u hO) | (refine nm 3 rfl ?_; clear hO; intro b3 u hO)); simp only [List.nil_append, List.cons_append] at hO)
        | ((with_reducible refine wpl_box ?_); refine wpList_box_own rfl (by rfl) hO rfl rfl (fun b => by simp only [Act.put, List.setIfInBounds_toArray, List.set_cons_succ, List.set_cons_zero]; rfl) ?_; (first | (refine nm 0 rfl ?_; clear hO; intro b0 u hO) | (refine nm 1 rfl ?_; clear hO; intro b1 u hO) | (refine nm 2 rfl ?_; clear hO; intro b2 u hO) | (refine nm 3 rfl ?_; clear hO; intro b3 u hO)); simp only [List.nil_append, List.cons_append] at hO)
        | ((with_reducible refine wpl_load ?_); first | (refine wpList_load_box rfl (by first | rfl | (simp only [Region.wanted, yielded, *]; go_simp; done) | (simp [Region.wanted, yielded, *]; done) | fail) hO rfl _ (by first | exact at0 | exact at1 | exact at2 | exact at3) (by rfl) (by simp only [Act.put, List.setIfInBounds_toArray, List.set_cons_succ, List.set_cons_zero]; rfl) ?_) | (refine wpList_load_field rfl (by first | rfl | (simp only [Region.wanted, yielded, *]; go_simp; done) | (simp [Region.wanted, yielded, *]; done) | fail) hO rfl _ (by first | exact at0 | exact at1 | exact at2 | exact at3) (by rfl) (by simp only [Act.put, List.setIfInBounds_toArray, List.set_cons_succ, List.set_cons_zero]; rfl) ?_))
        | ((with_reducible refine wpl_store ?_); first | (refine wpList_store_box rfl (by rfl) hO rfl _ (by first | exact at0 | exact at1 | exact at2 | exact at3) rfl (by rfl) (by rfl) (by rfl) (by rfl) (by rfl) ?_; clear hO; intro u hO; simp only [List.set_cons_zero, List.set_cons_succ] at hO) | (refine wpList_store_field rfl (by rfl) hO rfl _ (by first | exact at0 | exact at1 | exact at2 | exact at3) (Nat.le_of_ble_eq_true rfl) (by simp only [Act.eval, Array.getD_eq_getD_getElem?, List.getElem?_toArray, List.getElem?_cons_succ, List.getElem?_cons_zero, Option.getD_some]; rfl) (by rfl) (by rfl) (by rfl) ?_; clear hO; intro u hO; simp only [List.set_cons_zero, List.set_cons_succ] at hO))
        | ((with_reducible refine wpl_call ?_); first | (refine wpList_append_str hO rfl (by rfl) rfl rfl _ (by first | exact at0 | exact at1 | exact at2 | exact at3) (by omega) rfl (fun A' c' => by simp only [Act.put, List.setIfInBounds_toArray, List.set_cons_succ, List.set_cons_zero]; rfl) ?_; clear hO; intro A' c' u hO; simp only [List.set_cons_zero, List.set_cons_succ] at hO) | (refine wpList_append_lit hO rfl (by rfl) rfl rfl _ (by first | exact at0 | exact at1 | exact at2 | exact at3) (by rfl) (by simp [Value.oneCell']) (by omega) (by omega) rfl (fun A' c' => by simp only [Act.put, List.setIfInBounds_toArray, List.set_cons_succ, List.set_cons_zero]; rfl) ?_; clear hO; intro A' c' u hO; simp only [List.set_cons_zero, List.set_cons_succ] at hO))
        | fail)
      refine (CL _ hO.below).mono ?_
      rintro e u ⟨A, n, d, rfl, hn, hb⟩
      replace hO := hO.step hb.below
      clear hb CL
      go_wp2_with (first
        | ((with_reducible refine wpl_alloc ?_); refine wpList_alloc_own rfl (by rfl) hO rfl (fun b => by simp only [Act.put, List.setIfInBounds_toArray, List.set_cons_succ, List.set_cons_zero]; rfl) ?_; (first | (refine nm 0 rfl ?_; clear hO; intro b0 u hO) | (refine nm 1 rfl ?_; clear hO; intro b1 u hO) | (refine nm 2 rfl ?_; clear hO; intro b2 u hO) | (refine nm 3 rfl ?_; clear hO; intro b3 u hO)); simp only [List.nil_append, List.cons_append] at hO)
        | ((with_reducible refine wpl_box ?_); refine wpList_box_own rfl (by rfl) hO rfl rfl (fun b => by simp only [Act.put, List.setIfInBounds_toArray, List.set_cons_succ, List.set_cons_zero]; rfl) ?_; (first | (refine nm 0 rfl ?_; clear hO; intro b0 u hO) | (refine nm 1 rfl ?_; clear hO; intro b1 u hO) | (refine nm 2 rfl ?_; clear hO; intro b2 u hO) | (refine nm 3 rfl ?_; clear hO; intro b3 u hO)); simp only [List.nil_append, List.cons_append] at hO)
        | ((with_reducible refine wpl_load ?_); first | (refine wpList_load_box rfl (by first | rfl | (simp only [Region.wanted, yielded, *]; go_simp; done) | (simp [Region.wanted, yielded, *]; done) | fail) hO rfl _ (by first | exact at0 | exact at1 | exact at2 | exact at3) (by rfl) (by simp only [Act.put, List.setIfInBounds_toArray, List.set_cons_succ, List.set_cons_zero]; rfl) ?_) | (refine wpList_load_field rfl (by first | rfl | (simp only [Region.wanted, yielded, *]; go_simp; done) | (simp [Region.wanted, yielded, *]; done) | fail) hO rfl _ (by first | exact at0 | exact at1 | exact at2 | exact at3) (by rfl) (by simp only [Act.put, List.setIfInBounds_toArray, List.set_cons_succ, List.set_cons_zero]; rfl) ?_))
        | ((with_reducible refine wpl_store ?_); first | (refine wpList_store_box rfl (by rfl) hO rfl _ (by first | exact at0 | exact at1 | exact at2 | exact at3) rfl (by rfl) (by rfl) (by rfl) (by rfl) (by rfl) ?_; clear hO; intro u hO; simp only [List.set_cons_zero, List.set_cons_succ] at hO) | (refine wpList_store_field rfl (by rfl) hO rfl _ (by first | exact at0 | exact at1 | exact at2 | exact at3) (Nat.le_of_ble_eq_true rfl) (by simp only [Act.eval, Array.getD_eq_getD_getElem?, List.getElem?_toArray, List.getElem?_cons_succ, List.getElem?_cons_zero, Option.getD_some]; rfl) (by rfl) (by rfl) (by rfl) ?_; clear hO; intro u hO; simp only [List.set_cons_zero, List.set_cons_succ] at hO))
        | ((with_reducible refine wpl_call ?_); first | (refine wpList_append_str hO rfl (by rfl) rfl rfl _ (by first | exact at0 | exact at1 | exact at2 | exact at3) (by omega) rfl (fun A' c' => by simp only [Act.put, List.setIfInBounds_toArray, List.set_cons_succ, List.set_cons_zero]; rfl) ?_; clear hO; intro A' c' u hO; simp only [List.set_cons_zero, List.set_cons_succ] at hO) | (refine wpList_append_lit hO rfl (by rfl) rfl rfl _ (by first | exact at0 | exact at1 | exact at2 | exact at3) (by rfl) (by simp [Value.oneCell']) (by omega) (by omega) rfl (fun A' c' => by simp only [Act.put, List.setIfInBounds_toArray, List.set_cons_succ, List.set_cons_zero]; rfl) ?_; clear hO; intro A' c' u hO; simp only [List.set_cons_zero, List.set_cons_succ] at hO))
        | fail)
      obtain ⟨F, hvo, hF⟩ := Own.vec0 u 0
      exact ret_box2 rfl hO rfl 1 at1 rfl rfl rfl ⟨_, _, by rw [HG.out]; rfl, by rw [HF.out]; exact hvo, (hO.call hF).pick [0] (by decide)⟩
    | true =>
      have HF : Hid (ngT (.mk k is ps ns cs ls c e) = vecN 1 (is.map ngI) ns) := Lib.hid (by rw [HE.out]; rfl)
      have HG : Hid (ngS (.mk k is ps ns cs ls c e) = ⟨#[]⟩) := Lib.hid (by rw [HS.out]; rfl)
      clear HE HS
      simp only [if_true] at CL
      go_enter Try.func54, Try.ntmps54
      have hO := Own.nil w
      go_wp2_with (first
        | ((with_reducible refine (CA _ hO.below).mono ?_); rintro e u ⟨rfl, hb⟩; first | (replace hO := hO.step hb; clear hb) | subst hb)
        | ((with_reducible refine wpl_alloc ?_); refine wpList_alloc_own rfl (by rfl) hO rfl (fun b => by simp only [Act.put, List.setIfInBounds_toArray, List.set_cons_succ, List.set_cons_zero]; rfl) ?_; (first | (refine nm 0 rfl ?_; clear hO; intro b0 u hO) | (refine nm 1 rfl ?_; clear hO; intro b1 u hO) | (refine nm 2 rfl ?_; clear hO; intro b2 u hO) | (refine nm 3 rfl ?_; clear hO; intro b3 u hO) | (refine nm 4 rfl ?_; clear hO; intro b4 u hO)); simp only [List.nil_append, List.cons_append] at hO)
        | ((with_reducible refine wpl_box ?_); refine wpList_box_own rfl (by rfl) hO rfl rfl (fun b => by simp only [Act.put, List.setIfInBounds_toArray, List.set_cons_succ, List.set_cons_zero]; rfl) ?_; (first | (refine nm 0 rfl ?_; clear hO; intro b0 u hO) | (refine nm 1 rfl ?_; clear hO; intro b1 u hO) | (refine nm 2 rfl ?_; clear hO; intro b2 u hO) | (refine nm 3 rfl ?_; clear hO; intro b3 u hO) | (refine nm 4 rfl ?_; clear hO; intro b4 u hO)); simp only [List.nil_append, List.cons_append] at hO)
        | ((with_reducible refine wpl_load ?_); first | (refine wpList_load_box rfl (by first | rfl | (simp only [Region.wanted, yielded, *]; go_simp; done) | (simp [Region.wanted, yielded, *]; done) | fail) hO rfl _ (by first | exact at0 | exact at1 | exact at2 | exact at3 | exact at4) (by rfl) (by simp only [Act.put, List.setIfInBounds_toArray, List.set_cons_succ, List.set_cons_zero]; rfl) ?_) | (refine wpList_load_field rfl (by first | rfl | (simp only [Region.wanted, yielded, *]; go_simp; done) | (simp [Region.wanted, yielded, *]; done) | fail) hO rfl _ (by first | exact at0 | exact at1 | exact at2 | exact at3 | exact at4) (by rfl) (by simp only [Act.put, List.setIfInBounds_toArray, List.set_cons_succ, List.set_cons_zero]; rfl) ?_))
        | ((with_reducible refine wpl_store ?_); first | (refine wpList_store_box rfl (by rfl) hO rfl _ (by first | exact at0 | exact at1 | exact at2 | exact at3 | exact at4) rfl (by rfl) (by rfl) (by rfl) (by rfl) (by rfl) ?_; clear hO; intro u hO; simp only [List.set_cons_zero, List.set_cons_succ] at hO) | (refine wpList_store_field rfl (by rfl) hO rfl _ (by first | exact at0 | exact at1 | exact at2 | exact at3 | exact at4) (Nat.le_of_ble_eq_true rfl) (by simp only [Act.eval, Array.getD_eq_getD_getElem?, List.getElem?_toArray, List.getElem?_cons_succ, List.getElem?_cons_zero, Option.getD_some]; rfl) (by rfl) (by rfl) (by rfl) ?_; clear hO; intro u hO; simp only [List.set_cons_zero, List.set_cons_succ] at hO))
        | fail)
      refine (CL _ hO.below).mono ?_
      rintro e u ⟨A, n, d, rfl, hn, hb⟩
      rw [List.length_map] at hn
      subst hn
      replace hO := hO.call hb
      clear hb CL
      simp only [List.cons_append, List.nil_append] at hO
      have HL := Lib.hid (show (is.map trI).length = is.length by rw [List.length_map])
      go_wp2_with (first
        | ((with_reducible refine wpl_alloc ?_); refine wpList_alloc_own rfl (by rfl) hO rfl (fun b => by simp only [Act.put, List.setIfInBounds_toArray, List.set_cons_succ, List.set_cons_zero]; rfl) ?_; (first | (refine nm 0 rfl ?_; clear hO; intro b0 u hO) | (refine nm 1 rfl ?_; clear hO; intro b1 u hO) | (refine nm 2 rfl ?_; clear hO; intro b2 u hO) | (refine nm 3 rfl ?_; clear hO; intro b3 u hO) | (refine nm 4 rfl ?_; clear hO; intro b4 u hO)); simp only [List.nil_append, List.cons_append] at hO)
        | ((with_reducible refine wpl_box ?_); refine wpList_box_own rfl (by rfl) hO rfl rfl (fun b => by simp only [Act.put, List.setIfInBounds_toArray, List.set_cons_succ, List.set_cons_zero]; rfl) ?_; (first | (refine nm 0 rfl ?_; clear hO; intro b0 u hO) | (refine nm 1 rfl ?_; clear hO; intro b1 u hO) | (refine nm 2 rfl ?_; clear hO; intro b2 u hO) | (refine nm 3 rfl ?_; clear hO; intro b3 u hO) | (refine nm 4 rfl ?_; clear hO; intro b4 u hO)); simp only [List.nil_append, List.cons_append] at hO)
        | ((with_reducible refine wpl_load ?_); first | (refine wpList_load_box rfl (by first | rfl | (simp only [Region.wanted, yielded, *]; go_simp; done) | (simp [Region.wanted, yielded, *]; done) | fail) hO rfl _ (by first | exact at0 | exact at1 | exact at2 | exact at3 | exact at4) (by rfl) (by simp only [Act.put, List.setIfInBounds_toArray, List.set_cons_succ, List.set_cons_zero]; rfl) ?_) | (refine wpList_load_field rfl (by first | rfl | (simp only [Region.wanted, yielded, *]; go_simp; done) | (simp [Region.wanted, yielded, *]; done) | fail) hO rfl _ (by first | exact at0 | exact at1 | exact at2 | exact at3 | exact at4) (by rfl) (by simp only [Act.put, List.setIfInBounds_toArray, List.set_cons_succ, List.set_cons_zero]; rfl) ?_))
        | ((with_reducible refine wpl_store ?_); first | (refine wpList_store_box rfl (by rfl) hO rfl _ (by first | exact at0 | exact at1 | exact at2 | exact at3 | exact at4) rfl (by rfl) (by rfl) (by rfl) (by rfl) (by rfl) ?_; clear hO; intro u hO; simp only [List.set_cons_zero, List.set_cons_succ] at hO) | (refine wpList_store_field rfl (by rfl) hO rfl _ (by first | exact at0 | exact at1 | exact at2 | exact at3 | exact at4) (Nat.le_of_ble_eq_true rfl) (by simp only [Act.eval, Array.getD_eq_getD_getElem?, List.getElem?_toArray, List.getElem?_cons_succ, List.getElem?_cons_zero, Option.getD_some]; rfl) (by rfl) (by rfl) (by rfl) ?_; clear hO; intro u hO; simp only [List.set_cons_zero, List.set_cons_succ] at hO))
        | fail)
      go_loopw [6] (fun i u => ∃ (m : Nat), m ≤ is.length ∧ i = .int .i64 m ∧ Own w [row 3 1 (.slice A is.length d) is.length (ints (((is.map trI).take m).map notL ++ (is.map trI).drop m)), box b0 27 [.int .i64 k, .slice Ai is.length ci, .slice Ap ps.length cp, .slice An ns.length cn, .slice Ac cs.length cc, .slice Al ls.length cl, .int .i64 c, .int .i64 e], box b1 27 [.int .i64 0, .slice none 0 0, .slice none 0 0, .slice none 0 0, .slice none 0 0, .slice none 0 0, .int .i64 0, .int .i64 0]] u) (fun i _ => is.length - (intOf i).toNat)
      case atStart => exact ⟨0, Nat.zero_le _, rfl, hO⟩
      case round =>
        clear hO
        obtain ⟨m, hm, rfl, hO⟩ := hrel
        by_cases hlt : m < is.length
        · have hlm : m < (is.map trI).length := by rw [HL.out]; exact hlt
          have HG1 := Lib.hid (nint_get hlm)
          have HSS := Lib.hid (nint_set hlm)
          have HLL := Lib.hid (show m < (ints (((is.map trI).take m).map notL ++ (is.map trI).drop m)).length by rw [nint_len hlm]; exact hlm)
          obtain ⟨y, hy⟩ : ∃ y, (is.map trI)[m] = y := ⟨_, rfl⟩
          rw [hy] at HG1 HSS
          clear hy hlm
          obtain ⟨b, rfl⟩ := hO.form 0 rfl (by omega)
          have d0 := hO.rowCell 0 rfl HG1.out
          go_wp2_with (first | (go_at_call 91; refine (spec_not _ _).mono ?_; rintro e w' ⟨rfl, rfl⟩) | (refine wpList_store_row (v := .int .i64 (notL y)) hO rfl (by rfl) rfl 0 rfl HLL.out rfl rfl rfl rfl ?_; clear hO d0; intro u hO; simp only [List.set_cons_zero] at hO; rw [HSS.out] at hO))
          go_roundw
          case rel => exact ⟨m + 1, by omega, by go_num, hO⟩
          case measure => simp [intOf]; omega
        · have hmn : m = is.length := by omega
          subst hmn
          have HT : Hid (((is.map trI).take is.length).map notL ++ (is.map trI).drop is.length = (is.map trI).map notL) := Lib.hid (by
            rw [← HL.out, List.take_length, List.drop_length, List.append_nil])
          rw [HT.out] at hO
          have HV : Hid (lvT ((is.map trI).map notL) = vecI 1 (is.map ngI)) := Lib.hid (by
            unfold lvT
            rw [if_pos (by simp; omega), List.map_map, List.map_map]
            rfl)
          have CV := fun u A n c h hn => spec_logicalVec A n c ((is.map trI).map notL) u h hn
          rw [HV.out] at CV
          have CC := fun u (hb : Below w.heap.size w u) => h3.below hb
          clear HL HT HV hm hlt h1 h2 h4 h5 h3
          go_wp2_with (first
            | ((with_reducible refine wpl_alloc ?_); refine wpList_alloc_own rfl (by rfl) hO rfl (fun b => by simp only [Act.put, List.setIfInBounds_toArray, List.set_cons_succ, List.set_cons_zero]; rfl) ?_; (first | (refine nm 0 rfl ?_; clear hO; intro b0 u hO) | (refine nm 1 rfl ?_; clear hO; intro b1 u hO) | (refine nm 2 rfl ?_; clear hO; intro b2 u hO) | (refine nm 3 rfl ?_; clear hO; intro b3 u hO) | (refine nm 4 rfl ?_; clear hO; intro b4 u hO)); simp only [List.nil_append, List.cons_append] at hO)
            | ((with_reducible refine wpl_box ?_); refine wpList_box_own rfl (by rfl) hO rfl rfl (fun b => by simp only [Act.put, List.setIfInBounds_toArray, List.set_cons_succ, List.set_cons_zero]; rfl) ?_; (first | (refine nm 0 rfl ?_; clear hO; intro b0 u hO) | (refine nm 1 rfl ?_; clear hO; intro b1 u hO) | (refine nm 2 rfl ?_; clear hO; intro b2 u hO) | (refine nm 3 rfl ?_; clear hO; intro b3 u hO) | (refine nm 4 rfl ?_; clear hO; intro b4 u hO)); simp only [List.nil_append, List.cons_append] at hO)
            | ((with_reducible refine wpl_load ?_); first | (refine wpList_load_box rfl (by first | rfl | (simp only [Region.wanted, yielded, *]; go_simp; done) | (simp [Region.wanted, yielded, *]; done) | fail) hO rfl _ (by first | exact at0 | exact at1 | exact at2 | exact at3 | exact at4) (by rfl) (by simp only [Act.put, List.setIfInBounds_toArray, List.set_cons_succ, List.set_cons_zero]; rfl) ?_) | (refine wpList_load_field rfl (by first | rfl | (simp only [Region.wanted, yielded, *]; go_simp; done) | (simp [Region.wanted, yielded, *]; done) | fail) hO rfl _ (by first | exact at0 | exact at1 | exact at2 | exact at3 | exact at4) (by rfl) (by simp only [Act.put, List.setIfInBounds_toArray, List.set_cons_succ, List.set_cons_zero]; rfl) ?_))
            | ((with_reducible refine wpl_store ?_); first | (refine wpList_store_box rfl (by rfl) hO rfl _ (by first | exact at0 | exact at1 | exact at2 | exact at3 | exact at4) rfl (by rfl) (by rfl) (by rfl) (by rfl) (by rfl) ?_; clear hO; intro u hO; simp only [List.set_cons_zero, List.set_cons_succ] at hO) | (refine wpList_store_field rfl (by rfl) hO rfl _ (by first | exact at0 | exact at1 | exact at2 | exact at3 | exact at4) (Nat.le_of_ble_eq_true rfl) (by simp only [Act.eval, Array.getD_eq_getD_getElem?, List.getElem?_toArray, List.getElem?_cons_succ, List.getElem?_cons_zero, Option.getD_some]; rfl) (by rfl) (by rfl) (by rfl) ?_; clear hO; intro u hO; simp only [List.set_cons_zero, List.set_cons_succ] at hO))
            | fail)
          refine (CV _ _ _ _ (hO.row_sl 0 rfl) (by omega)).mono ?_
          rintro e u ⟨vs, F, rfl, hvo, hb⟩
          obtain ⟨H1, H2, H3, H4, H5, f1, f2, f3, f4, f5, rfl⟩ := hvo.ex
          replace hO := hO.call hb
          clear hb CV
          simp only [List.cons_append, List.nil_append] at hO
          go_wp2_with (first
            | ((with_reducible refine wpl_alloc ?_); refine wpList_alloc_own rfl (by rfl) hO rfl (fun b => by simp only [Act.put, List.setIfInBounds_toArray, List.set_cons_succ, List.set_cons_zero]; rfl) ?_; (first | (refine nm 0 rfl ?_; clear hO; intro b0 u hO) | (refine nm 1 rfl ?_; clear hO; intro b1 u hO) | (refine nm 2 rfl ?_; clear hO; intro b2 u hO) | (refine nm 3 rfl ?_; clear hO; intro b3 u hO) | (refine nm 4 rfl ?_; clear hO; intro b4 u hO)); simp only [List.nil_append, List.cons_append] at hO)
            | ((with_reducible refine wpl_box ?_); refine wpList_box_own rfl (by rfl) hO rfl rfl (fun b => by simp only [Act.put, List.setIfInBounds_toArray, List.set_cons_succ, List.set_cons_zero]; rfl) ?_; (first | (refine nm 0 rfl ?_; clear hO; intro b0 u hO) | (refine nm 1 rfl ?_; clear hO; intro b1 u hO) | (refine nm 2 rfl ?_; clear hO; intro b2 u hO) | (refine nm 3 rfl ?_; clear hO; intro b3 u hO) | (refine nm 4 rfl ?_; clear hO; intro b4 u hO)); simp only [List.nil_append, List.cons_append] at hO)
            | ((with_reducible refine wpl_load ?_); first | (refine wpList_load_box rfl (by first | rfl | (simp only [Region.wanted, yielded, *]; go_simp; done) | (simp [Region.wanted, yielded, *]; done) | fail) hO rfl _ (by first | exact at0 | exact at1 | exact at2 | exact at3 | exact at4) (by rfl) (by simp only [Act.put, List.setIfInBounds_toArray, List.set_cons_succ, List.set_cons_zero]; rfl) ?_) | (refine wpList_load_field rfl (by first | rfl | (simp only [Region.wanted, yielded, *]; go_simp; done) | (simp [Region.wanted, yielded, *]; done) | fail) hO rfl _ (by first | exact at0 | exact at1 | exact at2 | exact at3 | exact at4) (by rfl) (by simp only [Act.put, List.setIfInBounds_toArray, List.set_cons_succ, List.set_cons_zero]; rfl) ?_))
            | ((with_reducible refine wpl_store ?_); first | (refine wpList_store_box rfl (by rfl) hO rfl _ (by first | exact at0 | exact at1 | exact at2 | exact at3 | exact at4) rfl (by rfl) (by rfl) (by rfl) (by rfl) (by rfl) ?_; clear hO; intro u hO; simp only [List.set_cons_zero, List.set_cons_succ] at hO) | (refine wpList_store_field rfl (by rfl) hO rfl _ (by first | exact at0 | exact at1 | exact at2 | exact at3 | exact at4) (Nat.le_of_ble_eq_true rfl) (by simp only [Act.eval, Array.getD_eq_getD_getElem?, List.getElem?_toArray, List.getElem?_cons_succ, List.getElem?_cons_zero, Option.getD_some]; rfl) (by rfl) (by rfl) (by rfl) ?_; clear hO; intro u hO; simp only [List.set_cons_zero, List.set_cons_succ] at hO))
            | ((with_reducible refine wpl_build ?_); refine wpList_build_row0 hO rfl (by rfl) rfl (fun b => by simp only [Act.put, List.setIfInBounds_toArray, List.set_cons_succ, List.set_cons_zero]; rfl) ?_; clear hO; intro bb u hO; simp only [List.nil_append, List.cons_append] at hO)
            | ((with_reducible refine wpl_append ?_); refine wpList_append_src hO rfl (by rfl) rfl rfl _ (by first | exact at0 | exact at1 | exact at2 | exact at3 | exact at4 | exact at5) (CC _ hO.below) (stc_one _) (by omega) (by omega) rfl (fun A' c' => by simp only [Act.put, List.setIfInBounds_toArray, List.set_cons_succ, List.set_cons_zero]; rfl) ?_; clear hO; intro A' c' u hO; simp only [List.set_cons_zero, List.set_cons_succ, Nat.zero_add, List.nil_append] at hO; (try simp only [Nat.zero_add]))
            | ((with_reducible refine wpl_build ?_); refine wpList_build_list (cs := []) hO rfl (by rfl) [] (by rfl) (by rfl) rfl (Nat.le_of_ble_eq_true rfl) (by rfl) rfl (fun b => by simp only [Act.put, List.setIfInBounds_toArray, List.set_cons_succ, List.set_cons_zero]; rfl) ?_; clear hO; intro bb u hO; simp only [List.nil_append, List.cons_append] at hO)
            | ((with_reducible refine wpl_append ?_); refine wpList_append_box hO rfl (by rfl) rfl rfl _ (by first | exact at0 | exact at1 | exact at2 | exact at3 | exact at4 | exact at5) _ (by first | exact at0 | exact at1 | exact at2 | exact at3 | exact at4 | exact at5) (by rfl) (by simp [Value.oneCell']) (by omega) (by omega) rfl (fun A' c' => by simp only [Act.put, List.setIfInBounds_toArray, List.set_cons_succ, List.set_cons_zero]; rfl) ?_; clear hO; intro A' c' u hO; simp only [List.set_cons_zero, List.set_cons_succ] at hO)
            | fail)
          have hR := hO.pick [0, 5] (by decide)
          simp only [List.filterMap_cons, List.filterMap_nil, List.getElem?_cons_zero, List.getElem?_cons_succ] at hR
          refine ret_box2 rfl hO rfl 3 at3 rfl rfl rfl ?_
          clear hO
          obtain ⟨F', hvo', hF⟩ := Own.rename hR hvo
          exact ⟨_, _, by rw [HG.out]; rfl, by rw [HF.out]; exact hvo', hF⟩

end Go.Proofs.Ytnofigjpcgkogaa
