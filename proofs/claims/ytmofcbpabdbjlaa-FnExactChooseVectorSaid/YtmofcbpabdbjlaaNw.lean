/-
  What is proved: what NotVector (of the program and of the reference) returns. what the reference's NotVector returns.
  Condition: vectors of size at most 1048576.
-/
import Derived.Test.YtmofcbpabdbjlaaNvA
import Derived.Test.YtmofcbpabdbjlaaLis
namespace Go.Proofs.Ytmofcbpabdbjlaa
set_option maxRecDepth 8000

section
open Go.RowKit Go.ChangeShapes Go.WideShapes Go.Deep
set_option linter.unusedVariables false
set_option linter.unusedSimpArgs false

def ngI (x : It) : It := lgI (notL (trI x))
def ngT (t : VT) : VT := if isV t then (if cntK t.kind t.levels.length then vecN 1 (t.items.map ngI) t.names else vecI 0 []) else vecI 0 []
def ngS (t : VT) : ByteArray := if isV t then (if cntK t.kind t.levels.length then ⟨#[]⟩ else nonLogS) else badS

theorem isV_items {k : Int} {is : List It} {ps : List VT} {ns cs ls : List ByteArray} {c e : Int} (h : isV (.mk k is ps ns cs ls c e) = true) : is.length ≤ 40 := by
  have hf := isV_facts h
  have h1 := hf.2.1
  have h2 := hf.2.2.2.2.2.1
  rw [show lenV (.mk k is ps ns cs ls c e) = if k = 5 then 1 else is.length + ps.length from rfl] at h1
  by_cases h5 : k = 5
  · have := (h2 h5).1; omega
  · rw [if_neg h5] at h1; omega

end

section
open Go.RowKit Go.ChangeShapes Go.WideShapes Go.Deep
set_option linter.unusedVariables false
set_option linter.unusedSimpArgs false

theorem it_num {k : Int} {ls : List ByteArray} {x : It} (h : itB k ls x = true) (hk : k ≤ 2) : misB x = decide (x.den = 0) ∧ -999999999 ≤ x.num ∧ x.num ≤ 999999999 := by
  unfold itB at h
  simp only [Bool.and_eq_true, decide_eq_true_eq] at h
  obtain ⟨⟨h1, h2⟩, h3⟩ := h
  refine ⟨item_den h2, ?_⟩
  unfold itemB at h2
  rw [Bool.or_eq_true] at h2
  rcases h2 with h2 | h2
  · unfold misB at h2
    simp only [Bool.and_eq_true, decide_eq_true_eq] at h2
    omega
  · by_cases k1 : k = 1
    · rw [if_pos k1] at h2
      simp only [Bool.and_eq_true, Bool.or_eq_true, decide_eq_true_eq] at h2
      omega
    · have k2 : k = 2 := by omega
      rw [if_neg k1, if_pos k2] at h2
      unfold isNumI at h2
      simp only [Bool.and_eq_true] at h2
      have := of_decide_eq_true h2.2
      omega

def l5B (k : Int) (nl : Nat) : Bool := decide (k ≤ 2) && decide (nl = 0)
theorem l5_cnt {k : Int} {is : List It} {ps : List VT} {ns cs ls : List ByteArray} {c e : Int} (h : isV (.mk k is ps ns cs ls c e) = true) : l5B k ls.length = cntK k ls.length := by
  have hf := isV_facts h
  have h1 := hf.1
  have h2 := hf.2.2.2.1
  unfold l5B cntK
  rw [Bool.eq_iff_iff]
  simp only [Bool.and_eq_true, Bool.or_eq_true, decide_eq_true_eq]
  omega

theorem spec_nums_yes (k : Int) (v2 v3 v4 v6 v7 : Value) (Ai Al : Option Addr) (ni ci nl cl : Nat) (w : World) (hB : l5B k nl = true) : Calls Try.prog 120 #[.agg #[.int .i64 k, .slice Ai ni ci, v2, v3, v4, .slice Al nl cl, v6, v7]] w fun e w' =>
    e = .returned (.tuple #[.slice Ai ni ci, .bool true]) ∧ Below w.heap.size w w' := by
  unfold l5B at hB
  simp only [Bool.and_eq_true, decide_eq_true_eq] at hB
  obtain ⟨h0, rfl⟩ := hB
  have q0 : ¬ (2 : Int) < k := by omega
  clear h0
  go_enter Try.func120, Try.ntmps120
  have hO := Own.nil w
  go_wp2_with (first
    | ((with_reducible refine wpl_box ?_); refine wpList_box_own rfl (by rfl) hO rfl rfl (fun b => by simp only [Act.put, zA, zB, zC]; rfl) ?_; (refine nm 0 rfl ?_; clear hO; intro b0 u hO); simp only [zL, zK] at hO)
    | ((with_reducible refine wpl_load ?_); refine wpList_load_field rfl (by rfl) hO rfl _ (by exact at0) (by rfl) (by simp only [Act.put, zA, zB, zC]; rfl) ?_)
    | fail)
  go_ret2
  first
    | exact ⟨rfl, hO.below⟩
    | exact hO.below
    | exact ⟨rfl, rfl, hO.below⟩
theorem spec_nums_no (k : Int) (v2 v3 v4 v6 v7 : Value) (Ai Al : Option Addr) (ni ci nl cl : Nat) (w : World) (hB : l5B k nl = false) : Calls Try.prog 120 #[.agg #[.int .i64 k, .slice Ai ni ci, v2, v3, v4, .slice Al nl cl, v6, v7]] w fun e w' =>
    ∃ b, e = .returned (.tuple #[.slice (some ⟨b, 0, none⟩) 0 0, .bool false]) ∧ Below w.heap.size w w' := by
  by_cases h0 : k ≤ 2
  · have q0 : ¬ (2 : Int) < k := by omega
    have q1 : (0 : Int) < nl := by
      unfold l5B at hB
      rw [decide_eq_true h0] at hB
      simp at hB
      omega
    clear h0 hB
    go_enter Try.func120, Try.ntmps120
    have hO := Own.nil w
    go_wp2_with (first
      | ((with_reducible refine wpl_box ?_); refine wpList_box_own rfl (by rfl) hO rfl rfl (fun b => by simp only [Act.put, zA, zB, zC]; rfl) ?_; (refine nm 0 rfl ?_; clear hO; intro b0 u hO); simp only [zL, zK] at hO)
      | ((with_reducible refine wpl_load ?_); refine wpList_load_field rfl (by rfl) hO rfl _ (by exact at0) (by rfl) (by simp only [Act.put, zA, zB, zC]; rfl) ?_)
      | ((with_reducible refine wpl_build ?_); refine wpList_build_list (cs := []) hO rfl (by rfl) [] (by rfl) (by rfl) rfl (zM rfl) (by rfl) rfl (fun b => by simp only [Act.put, zA, zB, zC]; rfl) ?_; clear hO; intro bb u hO; simp only [zL, zK] at hO)
      | fail)
    go_ret2
    exact ⟨⟨_, rfl⟩, hO.below⟩
  · have q0 : (2 : Int) < k := by omega
    clear h0 hB
    go_enter Try.func120, Try.ntmps120
    have hO := Own.nil w
    go_wp2_with (first
      | ((with_reducible refine wpl_box ?_); refine wpList_box_own rfl (by rfl) hO rfl rfl (fun b => by simp only [Act.put, zA, zB, zC]; rfl) ?_; (refine nm 0 rfl ?_; clear hO; intro b0 u hO); simp only [zL, zK] at hO)
      | ((with_reducible refine wpl_load ?_); refine wpList_load_field rfl (by rfl) hO rfl _ (by exact at0) (by rfl) (by simp only [Act.put, zA, zB, zC]; rfl) ?_)
      | ((with_reducible refine wpl_build ?_); refine wpList_build_list (cs := []) hO rfl (by rfl) [] (by rfl) (by rfl) rfl (zM rfl) (by rfl) rfl (fun b => by simp only [Act.put, zA, zB, zC]; rfl) ?_; clear hO; intro bb u hO; simp only [zL, zK] at hO)
      | fail)
    go_ret2
    first
      | exact ⟨_, rfl, hO.below⟩
      | exact hO.below

theorem map_get' {l : List Int} {k : Nat} (h : k < l.length) : (ints (l.take k ++ l.drop k))[k]? = some (.int .i64 l[k]) := by
  rw [List.take_append_drop]
  unfold ints
  rw [List.getElem?_map, List.getElem?_eq_getElem h]
  rfl
theorem nint_get {l : List Int} {k : Nat} (h : k < l.length) : (ints ((l.take k).map notL ++ l.drop k))[k]? = some (.int .i64 l[k]) := by
  unfold ints
  rw [List.getElem?_map, List.getElem?_append_right (by simp; omega)]
  rw [List.length_map, List.length_take, Nat.min_eq_left (by omega), Nat.sub_self, List.getElem?_drop, Nat.add_zero, List.getElem?_eq_getElem h]
  rfl
theorem nint_set {l : List Int} {k : Nat} (h : k < l.length) : (ints ((l.take k).map notL ++ l.drop k)).set k (.int .i64 (notL l[k])) = ints ((l.take (k + 1)).map notL ++ l.drop (k + 1)) := by
  have e := mid_set ((l.take k).map notL) l k (by simp; omega) h (notL l[k])
  unfold ints
  rw [← List.map_set (f := fun z : Int => Value.int .i64 z), e, take_snoc' h]
  simp only [List.map_append, List.append_assoc, List.map_cons, List.map_nil]
theorem nint_len {l : List Int} {k : Nat} (h : k < l.length) : (ints ((l.take k).map notL ++ l.drop k)).length = l.length := by
  unfold ints
  simp
  omega

theorem ints_map_succ {l : List It} {k : Nat} (h : k < l.length) : ints ((l.take (k + 1)).map trI) = ints ((l.take k).map trI) ++ [.int .i64 (trI l[k])] := by
  rw [take_snoc' h, List.map_append, show ints (List.map trI (l.take k) ++ List.map trI [l[k]]) = ints (List.map trI (l.take k)) ++ ints (List.map trI [l[k]]) from List.map_append]
  rfl

set_option maxRecDepth 20000 in
set_option maxHeartbeats 4000000 in
theorem spec_l5log (k : Int) (is : List It) (v2 v3 v4 v6 v7 : Value) (Ai Al : Option Addr) (ci cl : Nat) (ls : List ByteArray) (w : World) (h1 : Sl w 3 Ai is.length (itc is)) (hle : is.length ≤ 40) (hit : ∀ x ∈ is, itB k ls x = true) :
    Calls Try.prog 109 #[.agg #[.int .i64 k, .slice Ai is.length ci, v2, v3, v4, .slice Al ls.length cl, v6, v7]] w fun e w' =>
      ∃ A n c, e = .returned (.tuple #[.slice A n c, .bool (l5B k ls.length)]) ∧ n = (if l5B k ls.length then is.map trI else []).length ∧ Own w [row 3 1 (.slice A n c) n (ints (if l5B k ls.length then is.map trI else []))] w' := by
  cases hB : l5B k ls.length
  · have CN := fun u => spec_nums_no k v2 v3 v4 v6 v7 Ai Al is.length ci ls.length cl u hB
    simp only [Bool.false_eq_true, if_false]
    go_enter Try.func109, Try.ntmps109
    have hO := Own.nil w
    go_wp2_with (first
      | ((with_reducible refine wpl_box ?_); refine wpList_box_own rfl (by rfl) hO rfl rfl (fun b => by simp only [Act.put, zA, zB, zC]; rfl) ?_; (refine nm 0 rfl ?_; clear hO; intro b0 u hO); simp only [zL, zK] at hO)
      | ((with_reducible refine wpl_load ?_); refine wpList_load_box rfl (by rfl) hO rfl _ (by exact at0) (by rfl) (by simp only [Act.put, zA, zB, zC]; rfl) ?_)
      | ((with_reducible refine wpl_build ?_); refine wpList_build_row0 hO rfl (by rfl) rfl (fun b => by simp only [Act.put, zA, zB, zC]; rfl) ?_; clear hO; intro bb u hO; simp only [zL, zK] at hO)
      | fail)
    refine (CN _).mono ?_
    rintro e u ⟨bb2, rfl, hb⟩
    replace hO := hO.step hb
    clear hb CN hit hB
    go_wp2_with (first
      | ((with_reducible refine wpl_alloc ?_); refine wpList_alloc_own rfl (by rfl) hO rfl (fun b => by simp only [Act.put, zA, zB, zC]; rfl) ?_; (first | (refine nm 0 rfl ?_; clear hO; intro b0 u hO) | (refine nm 1 rfl ?_; clear hO; intro b1 u hO) | (refine nm 2 rfl ?_; clear hO; intro b2 u hO)); simp only [zL, zK] at hO)
      | ((with_reducible refine wpl_box ?_); refine wpList_box_own rfl (by rfl) hO rfl rfl (fun b => by simp only [Act.put, zA, zB, zC]; rfl) ?_; (first | (refine nm 0 rfl ?_; clear hO; intro b0 u hO) | (refine nm 1 rfl ?_; clear hO; intro b1 u hO) | (refine nm 2 rfl ?_; clear hO; intro b2 u hO)); simp only [zL, zK] at hO)
      | ((with_reducible refine wpl_load ?_); refine wpList_load_box rfl (by (first | rfl | (simp only [Region.wanted, yielded, *]; go_simp; done) | (simp [Region.wanted, yielded, *]; done) | fail)) hO rfl _ (by (first | exact at0 | exact at1 | exact at2)) (by rfl) (by simp only [Act.put, zA, zB, zC]; rfl) ?_)
      | ((with_reducible refine wpl_load ?_); refine wpList_load_field rfl (by (first | rfl | (simp only [Region.wanted, yielded, *]; go_simp; done) | (simp [Region.wanted, yielded, *]; done) | fail)) hO rfl _ (by (first | exact at0 | exact at1 | exact at2)) (by rfl) (by simp only [Act.put, zA, zB, zC]; rfl) ?_)
      | ((with_reducible refine wpl_store ?_); refine wpList_store_box rfl (by rfl) hO rfl _ (by (first | exact at0 | exact at1 | exact at2)) rfl (by rfl) (by rfl) (by rfl) (by rfl) (by rfl) ?_; clear hO; intro u hO; simp only [zC, zB] at hO)
      | ((with_reducible refine wpl_store ?_); refine wpList_store_field rfl (by rfl) hO rfl _ (by (first | exact at0 | exact at1 | exact at2)) (zM rfl) (by simp only [Act.eval, zJ, zF, zD, zE, zP]; rfl) (by rfl) (by rfl) (by rfl) ?_; clear hO; intro u hO; simp only [zC, zB] at hO)
      | ((with_reducible refine wpl_call ?_); refine wpList_append_str hO rfl (by rfl) rfl rfl _ (by (first | exact at0 | exact at1 | exact at2)) (by omega) rfl (fun A' c' => by simp only [Act.put, zA, zB, zC]; rfl) ?_; clear hO; intro A' c' u hO; simp only [zC, zB] at hO)
      | ((with_reducible refine wpl_call ?_); refine wpList_append_lit hO rfl (by rfl) rfl rfl _ (by (first | exact at0 | exact at1 | exact at2)) (by rfl) (by simp [Value.oneCell']) (by omega) (by omega) rfl (fun A' c' => by simp only [Act.put, zA, zB, zC]; rfl) ?_; clear hO; intro A' c' u hO; simp only [zC, zB] at hO)
      | ((with_reducible refine wpl_build ?_); refine wpList_build_row0 hO rfl (by rfl) rfl (fun b => by simp only [Act.put, zA, zB, zC]; rfl) ?_; clear hO; intro bb u hO; simp only [zL, zK] at hO)
      | ((with_reducible refine wpl_build ?_); refine wpList_build_list (cs := []) hO rfl (by rfl) [] (by rfl) (by rfl) rfl (zM rfl) (by rfl) rfl (fun b => by simp only [Act.put, zA, zB, zC]; rfl) ?_; clear hO; intro bb u hO; simp only [zL, zK] at hO)
      | ((with_reducible refine wpl_build ?_); refine wpList_build_list (cs := [.int .i64 (2)]) hO rfl (by rfl) [.int .i64 (2)] (by rfl) (by rfl) rfl (zM rfl) (by rfl) rfl (fun b => by simp only [Act.put, zA, zB, zC]; rfl) ?_; clear hO; intro bb u hO; simp only [zL, zK] at hO)
      | ((with_reducible refine wpl_append ?_); refine wpList_append_box hO rfl (by rfl) rfl rfl _ (by (first | exact at0 | exact at1 | exact at2 | exact at3)) _ (by (first | exact at0 | exact at1 | exact at2 | exact at3)) (by rfl) (by simp [Value.oneCell']) (by omega) (by omega) rfl (fun A' c' => by simp only [Act.put, zA, zB, zC]; rfl) ?_; clear hO; intro A' c' u hO; simp only [zC, zB] at hO)
      | fail)
    go_loopw [4, 7] (fun s i u => i = .int .i64 0 ∧ ∃ A c, s = .slice A 0 c ∧ Own w [box b0 29 [.int .i64 k, .slice Ai is.length ci, v2, v3, v4, .slice Al ls.length cl, v6, v7], row 3 1 (.slice A 0 c) 0 []] u) (fun _ _ _ => 0)
    case atStart => exact ⟨rfl, _, _, rfl, hO⟩
    case round =>
      clear hO
      obtain ⟨rfl, A, c, rfl, hO⟩ := hrel
      go_wp2_with fail
      go_ret2
      exact ⟨_, _, _, rfl, rfl, hO.pick [1] (by decide)⟩
  · have CN := fun u => spec_nums_yes k v2 v3 v4 v6 v7 Ai Al is.length ci ls.length cl u hB
    have hk : k ≤ 2 := by
      unfold l5B at hB
      simp only [Bool.and_eq_true, decide_eq_true_eq] at hB
      exact hB.1
    have HI := Lib.hid (fun x hx => it_num (hit x hx) hk)
    simp only [if_true]
    clear hit hB hk
    go_enter Try.func109, Try.ntmps109
    have hO := Own.nil w
    go_wp2_with (first
      | ((with_reducible refine (CN _).mono ?_); rintro e u ⟨rfl, hb⟩; (replace hO := hO.step hb; clear hb))
      | ((with_reducible refine wpl_box ?_); refine wpList_box_own rfl (by rfl) hO rfl rfl (fun b => by simp only [Act.put, zA, zB, zC]; rfl) ?_; (refine nm 0 rfl ?_; clear hO; intro b0 u hO); simp only [zL, zK] at hO)
      | ((with_reducible refine wpl_load ?_); refine wpList_load_box rfl (by rfl) hO rfl _ (by exact at0) (by rfl) (by simp only [Act.put, zA, zB, zC]; rfl) ?_)
      | ((with_reducible refine wpl_build ?_); refine wpList_build_row0 hO rfl (by rfl) rfl (fun b => by simp only [Act.put, zA, zB, zC]; rfl) ?_; clear hO; intro bb u hO; simp only [zL, zK] at hO)
      | fail)
    clear CN
    go_loopw [4, 7] (fun s i u => ∃ (m : Nat) (A : Option Addr) (c : Nat), m ≤ is.length ∧ i = .int .i64 m ∧ s = .slice A m c ∧ Own w [box b0 29 [.int .i64 k, .slice Ai is.length ci, v2, v3, v4, .slice Al ls.length cl, v6, v7], row 3 1 (.slice A m c) m (ints ((is.take m).map trI))] u) (fun _ i _ => is.length - (intOf i).toNat)
    case atStart => exact ⟨0, _, _, Nat.zero_le _, rfl, rfl, hO⟩
    case round =>
      clear hO
      obtain ⟨m, A, c, hm, rfl, rfl, hO⟩ := hrel
      by_cases hlt : m < is.length
      · have HSS := Lib.hid (ints_map_succ hlt)
        have hx0 := HI.out _ (List.getElem_mem hlt)
        obtain ⟨x, hx⟩ : ∃ x, is[m] = x := ⟨_, rfl⟩
        obtain ⟨b, off, rfl, hb, d0, d1, d2⟩ := h1.it hO.below hlt hx
        rw [hx] at HSS hx0
        clear hx
        obtain ⟨xn, xd, xt⟩ := x
        obtain ⟨hmis, hn1, hn2⟩ := hx0
        simp only at d0 d1 d2 hmis hn1 hn2
        have i1 : (0 : Int) ≤ (m : Int) := by omega
        have i2 : (m : Int) < (is.length : Int) := by omega
        by_cases hd : xd = 0
        · have HT : Hid (trI ⟨xn, xd, xt⟩ = 2) := Lib.hid (by unfold trI; rw [hmis, decide_eq_true hd]; rfl)
          have qd : (xd == 0) = true := by simp [hd]
          rw [HT.out] at HSS
          clear hd hmis HT d0 d2
          go_wp2_with (first
            | ((with_reducible refine wpl_build ?_); refine wpList_build_list (cs := [.int .i64 (2)]) hO rfl (by rfl) [.int .i64 (2)] (by rfl) (by rfl) rfl (zM rfl) (by rfl) rfl (fun b => by simp only [Act.put, zA, zB, zC]; rfl) ?_; clear hO; intro bb u hO; simp only [zL, zK] at hO)
            | ((with_reducible refine wpl_append ?_); refine wpList_append_box hO rfl (by rfl) rfl rfl _ (by exact at1) _ (by exact at2) (by rfl) (by simp [Value.oneCell']) (by omega) (by omega) rfl (fun A' c' => by simp only [Act.put, zA, zB, zC]; rfl) ?_; clear hO; intro A' c' u hO; simp only [zC, zB] at hO)
            | fail)
          replace hO := hO.pick [0, 1] (by decide)
          simp only [zN, zO, zE, zD] at hO
          rw [← HSS.out] at hO
          go_roundw
          case rel => exact ⟨m + 1, _, _, by omega, by go_num, rfl, hO⟩
          case measure => simp [intOf]; omega
        · have qd : (xd == 0) = false := by simp [hd]
          by_cases hn : xn = 0
          · have HT : Hid (trI ⟨xn, xd, xt⟩ = 0) := Lib.hid (by unfold trI; rw [hmis, decide_eq_false hd]; simp [hn])
            rw [HT.out] at HSS
            subst hn
            clear hd hmis HT d2
            go_wp2_with (first
              | ((with_reducible refine (spec_abs _ _ (by omega)).mono ?_); rintro e u ⟨rfl, hb⟩; subst hb)
              | ((with_reducible refine wpl_build ?_); refine wpList_build_one (cs := [.int .i64 0]) hO rfl (by rfl) (by simp only [Act.eval, zJ, zF, zD, zE, zP]; rfl) rfl rfl (zM rfl) rfl (fun b => by simp only [Act.put, zA, zB, zC]; rfl) ?_; clear hO; intro bb u hO; simp only [zL, zK] at hO)
              | ((with_reducible refine wpl_append ?_); refine wpList_append_box hO rfl (by rfl) rfl rfl _ (by exact at1) _ (by exact at2) (by rfl) (by simp [Value.oneCell']) (by omega) (by omega) rfl (fun A' c' => by simp only [Act.put, zA, zB, zC]; rfl) ?_; clear hO; intro A' c' u hO; simp only [zC, zB] at hO)
              | fail)
            replace hO := hO.pick [0, 1] (by decide)
            simp only [zN, zO, zE, zD] at hO
            rw [← HSS.out] at hO
            go_roundw
            case rel => exact ⟨m + 1, _, _, by omega, by go_num, rfl, hO⟩
            case measure => simp [intOf]; omega
          · have HT : Hid (trI ⟨xn, xd, xt⟩ = 1) := Lib.hid (by unfold trI; rw [hmis, decide_eq_false hd]; simp [hn])
            rw [HT.out] at HSS
            clear hd hmis HT d2
            go_wp2_with (first
              | ((with_reducible refine (spec_abs _ _ (by omega)).mono ?_); rintro e u ⟨rfl, hb⟩; subst hb)
              | ((with_reducible refine wpl_build ?_); refine wpList_build_one (cs := [.int .i64 1]) hO rfl (by rfl) (by simp only [Act.eval, zJ, zF, zD, zE, zP]; rfl) rfl rfl (zM rfl) rfl (fun b => by simp only [Act.put, zA, zB, zC]; rfl) ?_; clear hO; intro bb u hO; simp only [zL, zK] at hO)
              | ((with_reducible refine wpl_append ?_); refine wpList_append_box hO rfl (by rfl) rfl rfl _ (by exact at1) _ (by exact at2) (by rfl) (by simp [Value.oneCell']) (by omega) (by omega) rfl (fun A' c' => by simp only [Act.put, zA, zB, zC]; rfl) ?_; clear hO; intro A' c' u hO; simp only [zC, zB] at hO)
              | fail)
            replace hO := hO.pick [0, 1] (by decide)
            simp only [zN, zO, zE, zD] at hO
            rw [← HSS.out] at hO
            go_roundw
            case rel => exact ⟨m + 1, _, _, by omega, by go_num, rfl, hO⟩
            case measure => simp [intOf]; omega
      · have hmn : m = is.length := by omega
        subst hmn
        rw [List.take_length] at hO
        go_wp2_with fail
        go_ret2
        exact ⟨_, _, _, rfl, by simp, hO.pick [1] (by decide)⟩

end

end Go.Proofs.Ytmofcbpabdbjlaa
