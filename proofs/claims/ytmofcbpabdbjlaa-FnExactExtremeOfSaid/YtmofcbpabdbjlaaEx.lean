/-
  What is proved: what ExtremeOf (of the program) returns.
  Condition: vectors of size at most 1048576.
-/
import Derived.Test.YtmofcbpabdbjlaaExA
import Derived.Test.YtmofcbpabdbjlaaNvA
namespace Go.Proofs.Ytmofcbpabdbjlaa
set_option maxRecDepth 8000
open Go.RowKit Go.ChangeShapes Go.WideShapes Go.Deep
set_option linter.unusedVariables false
set_option linter.unusedSimpArgs false

set_option maxRecDepth 20000 in
set_option maxHeartbeats 4000000 in
theorem impl_numbers (t : VT) (d : Bool) (vs : List Value) (w : World) (hv : RdV w t vs) (hz : szV t ≤ 1048576) : Calls Try.prog 101 #[.agg vs.toArray, .bool d] w (RetIS (numL t d) (numS t) w) := by
  have CA := fun u (hb : Below w.heap.size w u) => impl_isVec t _ u (hv.grow hb) hz
  obtain ⟨k, is, ps, ns, cs, ls, c, e⟩ := t
  have HE : Hid (numL (.mk k is ps ns cs ls c e) d = if isV (.mk k is ps ns cs ls c e) then (if cntK k ls.length then is.filter (keepB d) else []) else []) := Lib.hid rfl
  have HS : Hid (numS (.mk k is ps ns cs ls c e) = if isV (.mk k is ps ns cs ls c e) then (if cntK k ls.length then ⟨#[]⟩ else nonNumS) else badS) := Lib.hid rfl
  have HK := Lib.hid (fun h => isV_items (k := k) (is := is) (ps := ps) (ns := ns) (cs := cs) (ls := ls) (c := c) (e := e) h)
  obtain ⟨q, hq⟩ : ∃ q, isV (.mk k is ps ns cs ls c e) = q := ⟨_, rfl⟩
  rw [hq] at CA HE HS HK
  obtain ⟨Ai, Ap, An, Ac, Al, ci, cp, cn, cc, cl, pvs, rfl, h1, h2, h3, h4, h5⟩ := hv.open
  have CC := fun u => impl_counts k (.slice Ai is.length ci) (.slice Ap ps.length cp) (.slice An ns.length cn) (.slice Ac cs.length cc) (.int .i64 c) (.int .i64 e) Al ls.length cl u
  obtain ⟨r, hr⟩ : ∃ r, cntK k ls.length = r := ⟨_, rfl⟩
  rw [hr] at CC HE HS
  clear hv hz hq hr
  cases q with
  | false =>
    have HF : Hid (numL (.mk k is ps ns cs ls c e) d = []) := Lib.hid (by rw [HE.out]; rfl)
    have HG : Hid (numS (.mk k is ps ns cs ls c e) = badS) := Lib.hid (by rw [HS.out]; rfl)
    go_enter Try.func101, Try.ntmps101
    have hO := Own.nil w
    go_wp2_with (first
      | ((with_reducible refine (CA _ hO.below).mono ?_); rintro e u ⟨rfl, hb⟩; (replace hO := hO.step hb; clear hb))
      | ((with_reducible refine wpl_box ?_); refine wpList_box_own rfl (by rfl) hO rfl rfl (fun b => by simp only [Act.put, zA, zB, zC]; rfl) ?_; (refine nm 0 rfl ?_; clear hO; intro b0 u hO); simp only [zL, zK] at hO)
      | ((with_reducible refine wpl_load ?_); refine wpList_load_box rfl (by rfl) hO rfl _ (by exact at0) (by rfl) (by simp only [Act.put, zA, zB, zC]; rfl) ?_)
      | fail)
    replace hO := hO.addNil 83 3
    go_ret2
    refine ⟨none, 0, by rw [HF.out, HG.out]; rfl, ?_⟩
    rw [HF.out]
    exact hO.pick [1] (by decide)
  | true =>
  cases r with
  | false =>
    have HF : Hid (numL (.mk k is ps ns cs ls c e) d = []) := Lib.hid (by rw [HE.out]; rfl)
    have HG : Hid (numS (.mk k is ps ns cs ls c e) = nonNumS) := Lib.hid (by rw [HS.out]; rfl)
    go_enter Try.func101, Try.ntmps101
    have hO := Own.nil w
    go_wp2_with (first
      | ((with_reducible refine (CA _ hO.below).mono ?_); rintro e u ⟨rfl, hb⟩; (replace hO := hO.step hb; clear hb))
      | ((with_reducible refine (CC _).mono ?_); rintro e u ⟨rfl, hb⟩; (replace hO := hO.step hb; clear hb))
      | ((with_reducible refine wpl_box ?_); refine wpList_box_own rfl (by rfl) hO rfl rfl (fun b => by simp only [Act.put, zA, zB, zC]; rfl) ?_; (refine nm 0 rfl ?_; clear hO; intro b0 u hO); simp only [zL, zK] at hO)
      | ((with_reducible refine wpl_load ?_); refine wpList_load_box rfl (by rfl) hO rfl _ (by exact at0) (by rfl) (by simp only [Act.put, zA, zB, zC]; rfl) ?_)
      | fail)
    replace hO := hO.addNil 83 3
    go_ret2
    refine ⟨none, 0, by rw [HF.out, HG.out]; rfl, ?_⟩
    rw [HF.out]
    exact hO.pick [1] (by decide)
  | true =>
    have HF : Hid (numL (.mk k is ps ns cs ls c e) d = is.filter (keepB d)) := Lib.hid (by rw [HE.out]; rfl)
    have HG : Hid (numS (.mk k is ps ns cs ls c e) = ⟨#[]⟩) := Lib.hid (by rw [HS.out]; rfl)
    have hle := HK.out rfl
    clear HE HS HK h2 h3 h4 h5
    go_enter Try.func101, Try.ntmps101
    have hO := Own.nil w
    go_wp2_with (first
      | ((with_reducible refine (CA _ hO.below).mono ?_); rintro e u ⟨rfl, hb⟩; (replace hO := hO.step hb; clear hb))
      | ((with_reducible refine (CC _).mono ?_); rintro e u ⟨rfl, hb⟩; (replace hO := hO.step hb; clear hb))
      | ((with_reducible refine wpl_box ?_); refine wpList_box_own rfl (by rfl) hO rfl rfl (fun b => by simp only [Act.put, zA, zB, zC]; rfl) ?_; (refine nm 0 rfl ?_; clear hO; intro b0 u hO); simp only [zL, zK] at hO)
      | ((with_reducible refine wpl_load ?_); refine wpList_load_box rfl (by rfl) hO rfl _ (by exact at0) (by rfl) (by simp only [Act.put, zA, zB, zC]; rfl) ?_)
      | ((with_reducible refine wpl_load ?_); refine wpList_load_field rfl (by rfl) hO rfl _ (by exact at0) (by rfl) (by simp only [Act.put, zA, zB, zC]; rfl) ?_)
      | fail)
    clear CA CC
    replace hO := hO.addNil 83 3
    simp only [List.cons_append, List.nil_append] at hO
    go_loopw [6, 18] (fun s i u => ∃ (m : Nat) (n : Nat) (A' : Option Addr) (c' : Nat), m ≤ is.length ∧ i = .int .i64 m ∧ s = .slice A' n c' ∧ n ≤ m ∧ Hid (n = ((is.take m).filter (keepB d)).length) ∧ Own w [box b0 29 [.int .i64 k, .slice Ai is.length ci, .slice Ap ps.length cp, .slice An ns.length cn, .slice Ac cs.length cc, .slice Al ls.length cl, .int .i64 c, .int .i64 e], row 83 3 (.slice A' n c') n (itc ((is.take m).filter (keepB d)))] u) (fun _ i _ => is.length - (intOf i).toNat)
    case atStart => exact ⟨0, 0, none, 0, Nat.zero_le _, rfl, rfl, Nat.le_refl _, Lib.hid rfl, hO⟩
    case round =>
      clear hO
      obtain ⟨m, n, A', c', hm, rfl, rfl, hnm, hn, hO⟩ := hrel
      by_cases hlt : m < is.length
      · have HSS := Lib.hid (filter_take (keepB d) hlt)
        obtain ⟨x, hx⟩ : ∃ x, is[m] = x := ⟨_, rfl⟩
        obtain ⟨b, off, rfl, hb, d0, d1, d2⟩ := h1.it hO.below hlt hx
        rw [hx] at HSS
        clear hx
        obtain ⟨xn, xd, xt⟩ := x
        have CM := fun u => impl_isMissing xn xd xt u
        obtain ⟨y, hy⟩ : ∃ y, misB ⟨xn, xd, xt⟩ = y := ⟨_, rfl⟩
        rw [hy] at CM
        by_cases hk : keepB d ⟨xn, xd, xt⟩ = true
        · rw [if_pos hk] at HSS
          have HI : Hid (itc ((is.take (m + 1)).filter (keepB d)) = itc ((is.take m).filter (keepB d)) ++ [.int .i64 xn, .int .i64 xd, .string xt]) := Lib.hid (by rw [HSS.out, itc_app]; rfl)
          have HN : Hid (n + 1 = ((is.take (m + 1)).filter (keepB d)).length) := Lib.hid (by rw [HSS.out, List.length_append, ← hn.out]; rfl)
          unfold keepB at hk
          rw [hy] at hk
          clear hy HSS
          cases d with
          | false =>
            clear hk CM
            go_wp2_with (first
              | ((with_reducible refine wpl_alloc ?_); refine wpList_alloc_own rfl (by rfl) hO rfl (fun b => by simp only [Act.put, zA, zB, zC]; rfl) ?_; (refine nm 2 rfl ?_; clear hO; intro b2 u hO); simp only [zL, zK] at hO)
              | ((with_reducible refine wpl_load ?_); refine wpList_load_box rfl (by rfl) hO rfl _ (by (first | exact at0 | exact at2 | fail)) (by rfl) (by simp only [Act.put, zA, zB, zC]; rfl) ?_)
              | ((with_reducible refine wpl_store ?_); refine wpList_store_box rfl (by rfl) hO rfl _ (by exact at2) rfl (by rfl) (by rfl) (by rfl) (by rfl) (by rfl) ?_; clear hO; intro u hO; simp only [zC, zB] at hO)
              | ((with_reducible refine wpl_build ?_); refine wpList_build_one (cs := [.int .i64 xn, .int .i64 xd, .string xt]) hO rfl (by rfl) (by simp only [Act.eval, zJ, zF, zD, zE, zP]; rfl) rfl rfl (zM rfl) rfl (fun b => by simp only [Act.put, zA, zB, zC]; rfl) ?_; clear hO; intro bb u hO; simp only [zL, zK] at hO)
              | ((with_reducible refine wpl_append ?_); refine wpList_append_box hO rfl (by rfl) rfl rfl _ (by exact at1) _ (by exact at3) (by rfl) (by simp [Value.oneCell']) (by omega) (by omega) rfl (fun A' c' => by simp only [Act.put, zA, zB, zC]; rfl) ?_; clear hO; intro A' c' u hO; simp only [zC, zB] at hO)
              | fail)
            replace hO := hO.pick [0, 1] (by decide)
            simp only [zN, zO, zE, zD] at hO
            rw [← HI.out] at hO
            go_roundw
            case rel => exact ⟨m + 1, n + 1, _, _, by omega, by go_num, rfl, by omega, HN, hO⟩
            case measure => simp [intOf]; omega
          | true =>
            have hy : y = false := by cases y <;> simp_all
            subst hy
            clear hk
            go_wp2_with (first
              | ((with_reducible refine (CM _).mono ?_); rintro e u ⟨rfl, hb⟩; (replace hO := hO.step hb; clear hb))
              | ((with_reducible refine wpl_alloc ?_); refine wpList_alloc_own rfl (by rfl) hO rfl (fun b => by simp only [Act.put, zA, zB, zC]; rfl) ?_; (refine nm 2 rfl ?_; clear hO; intro b2 u hO); simp only [zL, zK] at hO)
              | ((with_reducible refine wpl_load ?_); refine wpList_load_box rfl (by rfl) hO rfl _ (by (first | exact at0 | exact at2 | fail)) (by rfl) (by simp only [Act.put, zA, zB, zC]; rfl) ?_)
              | ((with_reducible refine wpl_store ?_); refine wpList_store_box rfl (by rfl) hO rfl _ (by exact at2) rfl (by rfl) (by rfl) (by rfl) (by rfl) (by rfl) ?_; clear hO; intro u hO; simp only [zC, zB] at hO)
              | ((with_reducible refine wpl_build ?_); refine wpList_build_one (cs := [.int .i64 xn, .int .i64 xd, .string xt]) hO rfl (by rfl) (by simp only [Act.eval, zJ, zF, zD, zE, zP]; rfl) rfl rfl (zM rfl) rfl (fun b => by simp only [Act.put, zA, zB, zC]; rfl) ?_; clear hO; intro bb u hO; simp only [zL, zK] at hO)
              | ((with_reducible refine wpl_append ?_); refine wpList_append_box hO rfl (by rfl) rfl rfl _ (by exact at1) _ (by exact at3) (by rfl) (by simp [Value.oneCell']) (by omega) (by omega) rfl (fun A' c' => by simp only [Act.put, zA, zB, zC]; rfl) ?_; clear hO; intro A' c' u hO; simp only [zC, zB] at hO)
              | fail)
            replace hO := hO.pick [0, 1] (by decide)
            simp only [zN, zO, zE, zD] at hO
            rw [← HI.out] at hO
            go_roundw
            case rel => exact ⟨m + 1, n + 1, _, _, by omega, by go_num, rfl, by omega, HN, hO⟩
            case measure => simp [intOf]; omega
        · rw [if_neg hk, List.append_nil] at HSS
          have HN : Hid (n = ((is.take (m + 1)).filter (keepB d)).length) := Lib.hid (by rw [HSS.out, ← hn.out])
          unfold keepB at hk
          rw [hy] at hk
          have hd : d = true := by cases d <;> simp_all
          have hy' : y = true := by cases y <;> simp_all
          subst hd hy'
          clear hk hy
          go_wp2_with (first
            | ((with_reducible refine (CM _).mono ?_); rintro e u ⟨rfl, hb⟩; (replace hO := hO.step hb; clear hb))
            | ((with_reducible refine wpl_alloc ?_); refine wpList_alloc_own rfl (by rfl) hO rfl (fun b => by simp only [Act.put, zA, zB, zC]; rfl) ?_; (refine nm 2 rfl ?_; clear hO; intro b2 u hO); simp only [zL, zK] at hO)
            | ((with_reducible refine wpl_load ?_); refine wpList_load_box rfl (by rfl) hO rfl _ (by (first | exact at0 | exact at2 | fail)) (by rfl) (by simp only [Act.put, zA, zB, zC]; rfl) ?_)
            | ((with_reducible refine wpl_store ?_); refine wpList_store_box rfl (by rfl) hO rfl _ (by exact at2) rfl (by rfl) (by rfl) (by rfl) (by rfl) (by rfl) ?_; clear hO; intro u hO; simp only [zC, zB] at hO)
            | fail)
          replace hO := hO.pick [0, 1] (by decide)
          simp only [zN, zO, zE, zD] at hO
          rw [← HSS.out] at hO
          go_roundw
          case rel => exact ⟨m + 1, n, _, _, by omega, by go_num, rfl, by omega, HN, hO⟩
          case measure => simp [intOf]; omega
      · have hmn : m = is.length := by omega
        subst hmn
        rw [List.take_length] at hO hn
        go_wp2_with (first
          | ((with_reducible refine wpl_alloc ?_); refine wpList_alloc_own rfl (by rfl) hO rfl (fun b => by simp only [Act.put, zA, zB, zC]; rfl) ?_; (first | (refine nm 0 rfl ?_; clear hO; intro b0 u hO) | (refine nm 1 rfl ?_; clear hO; intro b1 u hO) | (refine nm 2 rfl ?_; clear hO; intro b2 u hO) | (refine nm 3 rfl ?_; clear hO; intro b3 u hO)); simp only [zL, zK] at hO)
          | ((with_reducible refine wpl_box ?_); refine wpList_box_own rfl (by rfl) hO rfl rfl (fun b => by simp only [Act.put, zA, zB, zC]; rfl) ?_; (first | (refine nm 0 rfl ?_; clear hO; intro b0 u hO) | (refine nm 1 rfl ?_; clear hO; intro b1 u hO) | (refine nm 2 rfl ?_; clear hO; intro b2 u hO) | (refine nm 3 rfl ?_; clear hO; intro b3 u hO)); simp only [zL, zK] at hO)
          | ((with_reducible refine wpl_load ?_); refine wpList_load_box rfl (by (first | rfl | (simp only [Region.wanted, yielded, *]; go_simp; done) | (simp [Region.wanted, yielded, *]; done) | fail)) hO rfl _ (by (first | exact at0 | exact at1 | exact at2 | exact at3)) (by rfl) (by simp only [Act.put, zA, zB, zC]; rfl) ?_)
          | ((with_reducible refine wpl_load ?_); refine wpList_load_field rfl (by (first | rfl | (simp only [Region.wanted, yielded, *]; go_simp; done) | (simp [Region.wanted, yielded, *]; done) | fail)) hO rfl _ (by (first | exact at0 | exact at1 | exact at2 | exact at3)) (by rfl) (by simp only [Act.put, zA, zB, zC]; rfl) ?_)
          | ((with_reducible refine wpl_store ?_); refine wpList_store_box rfl (by rfl) hO rfl _ (by (first | exact at0 | exact at1 | exact at2 | exact at3)) rfl (by rfl) (by rfl) (by rfl) (by rfl) (by rfl) ?_; clear hO; intro u hO; simp only [zC, zB] at hO)
          | ((with_reducible refine wpl_store ?_); refine wpList_store_field rfl (by rfl) hO rfl _ (by (first | exact at0 | exact at1 | exact at2 | exact at3)) (zM rfl) (by simp only [Act.eval, zJ, zF, zD, zE, zP]; rfl) (by rfl) (by rfl) (by rfl) ?_; clear hO; intro u hO; simp only [zC, zB] at hO)
          | fail)
        go_ret2
        have hq := hn.out
        subst hq
        refine ⟨_, _, by rw [HF.out, HG.out]; rfl, ?_⟩
        rw [HF.out]
        exact hO.pick [1] (by decide)

theorem impl_one (n d : Int) (t : ByteArray) (w : World) : Calls Try.prog 102 #[.agg #[.int .i64 n, .int .i64 d, .string t]] w (RetV (vecI 2 [⟨n, d, t⟩]) w) := by
  go_enter Try.func102, Try.ntmps102
  have hO := Own.nil w
  go_wp2_with (first
    | ((with_reducible refine wpl_alloc ?_); refine wpList_alloc_own rfl (by rfl) hO rfl (fun b => by simp only [Act.put, zA, zB, zC]; rfl) ?_; (refine nm 1 rfl ?_; clear hO; intro b1 u hO); simp only [zL, zK] at hO)
    | ((with_reducible refine wpl_box ?_); refine wpList_box_own rfl (by rfl) hO rfl rfl (fun b => by simp only [Act.put, zA, zB, zC]; rfl) ?_; (refine nm 0 rfl ?_; clear hO; intro b0 u hO); simp only [zL, zK] at hO)
    | ((with_reducible refine wpl_load ?_); refine wpList_load_box rfl (by rfl) hO rfl _ (by exact at0) (by rfl) (by simp only [Act.put, zA, zB, zC]; rfl) ?_)
    | ((with_reducible refine wpl_store ?_); refine wpList_store_box rfl (by rfl) hO rfl _ (by exact at1) rfl (by rfl) (by rfl) (by rfl) (by rfl) (by rfl) ?_; clear hO; intro u hO; simp only [zC, zB] at hO)
    | ((with_reducible refine wpl_build ?_); refine wpList_build_one (cs := [.int .i64 n, .int .i64 d, .string t]) hO rfl (by rfl) (by simp only [Act.eval, zJ, zF, zD, zE, zP]; rfl) rfl rfl (zM rfl) rfl (fun b => by simp only [Act.put, zA, zB, zC]; rfl) ?_; clear hO; intro bb u hO; simp only [zL, zK] at hO)
    | fail)
  have hR := (hO.pick [2] (by decide))
  simp only [List.filterMap_cons, List.filterMap_nil, List.getElem?_cons_zero, List.getElem?_cons_succ] at hR
  replace hR := hR.box_row 3 1 rfl (by decide)
  obtain ⟨F, hvo, hF⟩ := Own.vecI (is := [⟨n, d, t⟩]) hR 2
  exact ret_box rfl hO rfl 1 at1 rfl rfl ⟨_, _, rfl, hvo, hF⟩

set_option maxRecDepth 20000 in
set_option maxHeartbeats 4000000 in
theorem impl_ex (t : VT) (d lg : Bool) (vs : List Value) (w : World) (hv : RdV w t vs) (hz : szV t ≤ 1048576) : Calls Try.prog 36 #[.agg vs.toArray, .bool d, .bool lg] w (RetVS (exT t d lg) (exS t d) w) := by
  have CN := fun u (hb : Below w.heap.size w u) => impl_numbers t d vs u (hv.grow hb) hz
  have HT : Hid (exT t d lg = if isV t && cntK t.kind t.levels.length && !(numL t d).isEmpty then vecI 2 [exI lg (numL t d)] else vecI 0 []) := Lib.hid rfl
  have HS : Hid (exS t d = if isV t && cntK t.kind t.levels.length then (if (numL t d).isEmpty then noElS else ⟨#[]⟩) else numS t) := Lib.hid rfl
  have HB : Hid ((isV t && cntK t.kind t.levels.length) = false → numS t = badS ∨ numS t = nonNumS) := Lib.hid (by
    unfold numS
    intro h
    split
    · rename_i h1; rw [h1, Bool.true_and] at h; rw [h]; exact .inr rfl
    · exact .inl rfl)
  have HB2 : Hid ((isV t && cntK t.kind t.levels.length) = true → numS t = ⟨#[]⟩) := Lib.hid (by
    unfold numS
    intro h
    rw [Bool.and_eq_true] at h
    rw [h.1, h.2]
    rfl)
  have HLN : Hid ((numL t d).length ≤ 40) := Lib.hid (by
    unfold numL
    split
    · rename_i h1
      obtain ⟨k, is, ps, ns, cs, ls, c, e⟩ := t
      split
      · exact Nat.le_trans (List.length_filter_le ..) (isV_items h1)
      · simp
    · simp)
  obtain ⟨q, hq⟩ : ∃ q, (isV t && cntK t.kind t.levels.length) = q := ⟨_, rfl⟩
  rw [hq] at HT HS HB HB2
  clear hq
  obtain ⟨L, hL⟩ : ∃ L, numL t d = L := ⟨_, rfl⟩
  rw [hL] at CN HT HS HLN
  obtain ⟨s, hs⟩ : ∃ s, numS t = s := ⟨_, rfl⟩
  rw [hs] at CN HS HB HB2
  obtain ⟨X, hX⟩ : ∃ X, exT t d lg = X := ⟨_, rfl⟩
  obtain ⟨Y, hY⟩ : ∃ Y, exS t d = Y := ⟨_, rfl⟩
  rw [hX] at HT
  rw [hY] at HS
  rw [hX, hY]
  clear hL hs hX hY
  obtain ⟨k, is, ps, ns, cs, ls, c, e⟩ := t
  obtain ⟨Ai, Ap, An, Ac, Al, ci, cp, cn, cc, cl, pvs, rfl, h1, h2, h3, h4, h5⟩ := hv.open
  clear hv hz h1 h2 h3 h4 h5
  cases q with
  | false =>
    have HF : Hid (X = vecI 0 []) := Lib.hid (by rw [HT.out]; rfl)
    have HG : Hid (Y = s) := Lib.hid (by rw [HS.out]; rfl)
    have qb : (!badS.toList.isEmpty) = true := by rw [ByteArray.toList_eq]; rfl
    have qc : (!nonNumS.toList.isEmpty) = true := by rw [ByteArray.toList_eq]; rfl
    rcases HB.out rfl with hs | hs
    · subst hs
      clear HT HS HB HB2
      go_enter Try.func36, Try.ntmps36
      have hO := Own.nil w
      go_wp2_with (first
        | ((with_reducible refine wpl_alloc ?_); refine wpList_alloc_own rfl (by rfl) hO rfl (fun b => by simp only [Act.put, zA, zB, zC]; rfl) ?_; (refine nm 1 rfl ?_; clear hO; intro b1 u hO); simp only [zL, zK] at hO)
        | ((with_reducible refine wpl_box ?_); refine wpList_box_own rfl (by rfl) hO rfl rfl (fun b => by simp only [Act.put, zA, zB, zC]; rfl) ?_; (refine nm 0 rfl ?_; clear hO; intro b0 u hO); simp only [zL, zK] at hO)
        | ((with_reducible refine wpl_load ?_); refine wpList_load_box rfl (by rfl) hO rfl _ (by exact at0) (by rfl) (by simp only [Act.put, zA, zB, zC]; rfl) ?_)
        | fail)
      refine (CN _ hO.below).mono ?_
      rintro e u ⟨A, n, rfl, hb⟩
      replace hO := hO.call hb
      clear hb CN
      simp only [List.cons_append, List.nil_append] at hO
      go_wp2_with (first
        | ((with_reducible refine wpl_store ?_); refine wpList_store_box rfl (by rfl) hO rfl _ (by exact at2) rfl (by rfl) (by rfl) (by rfl) (by rfl) (by rfl) ?_; clear hO; intro u hO; simp only [zC, zB] at hO)
        | fail)
      obtain ⟨F, hvo, hF⟩ := Own.vec0 u 0
      exact ret_box2 rfl hO rfl 2 at2 rfl rfl rfl ⟨_, _, by rw [HG.out]; rfl, by rw [HF.out]; exact hvo, (hO.call hF).pick [0] (by decide)⟩
    · subst hs
      clear HT HS HB HB2
      go_enter Try.func36, Try.ntmps36
      have hO := Own.nil w
      go_wp2_with (first
        | ((with_reducible refine wpl_alloc ?_); refine wpList_alloc_own rfl (by rfl) hO rfl (fun b => by simp only [Act.put, zA, zB, zC]; rfl) ?_; (refine nm 1 rfl ?_; clear hO; intro b1 u hO); simp only [zL, zK] at hO)
        | ((with_reducible refine wpl_box ?_); refine wpList_box_own rfl (by rfl) hO rfl rfl (fun b => by simp only [Act.put, zA, zB, zC]; rfl) ?_; (refine nm 0 rfl ?_; clear hO; intro b0 u hO); simp only [zL, zK] at hO)
        | ((with_reducible refine wpl_load ?_); refine wpList_load_box rfl (by rfl) hO rfl _ (by exact at0) (by rfl) (by simp only [Act.put, zA, zB, zC]; rfl) ?_)
        | fail)
      refine (CN _ hO.below).mono ?_
      rintro e u ⟨A, n, rfl, hb⟩
      replace hO := hO.call hb
      clear hb CN
      simp only [List.cons_append, List.nil_append] at hO
      go_wp2_with (first
        | ((with_reducible refine wpl_store ?_); refine wpList_store_box rfl (by rfl) hO rfl _ (by exact at2) rfl (by rfl) (by rfl) (by rfl) (by rfl) (by rfl) ?_; clear hO; intro u hO; simp only [zC, zB] at hO)
        | fail)
      obtain ⟨F, hvo, hF⟩ := Own.vec0 u 0
      exact ret_box2 rfl hO rfl 2 at2 rfl rfl rfl ⟨_, _, by rw [HG.out]; rfl, by rw [HF.out]; exact hvo, (hO.call hF).pick [0] (by decide)⟩
  | true =>
    have hs := HB2.out rfl
    subst hs
    by_cases hl0 : L = []
    · subst hl0
      have HF : Hid (X = vecI 0 []) := Lib.hid (by rw [HT.out]; rfl)
      have HG : Hid (Y = noElS) := Lib.hid (by rw [HS.out]; rfl)
      clear HT HS HB HB2
      go_enter Try.func36, Try.ntmps36
      have hO := Own.nil w
      go_wp2_with (first
        | ((with_reducible refine wpl_alloc ?_); refine wpList_alloc_own rfl (by rfl) hO rfl (fun b => by simp only [Act.put, zA, zB, zC]; rfl) ?_; (refine nm 1 rfl ?_; clear hO; intro b1 u hO); simp only [zL, zK] at hO)
        | ((with_reducible refine wpl_box ?_); refine wpList_box_own rfl (by rfl) hO rfl rfl (fun b => by simp only [Act.put, zA, zB, zC]; rfl) ?_; (refine nm 0 rfl ?_; clear hO; intro b0 u hO); simp only [zL, zK] at hO)
        | ((with_reducible refine wpl_load ?_); refine wpList_load_box rfl (by rfl) hO rfl _ (by exact at0) (by rfl) (by simp only [Act.put, zA, zB, zC]; rfl) ?_)
        | fail)
      refine (CN _ hO.below).mono ?_
      rintro e u ⟨A, n, rfl, hb⟩
      replace hO := hO.call hb
      clear hb CN
      simp only [List.cons_append, List.nil_append, List.length_nil] at hO
      go_wp2_with (first
        | ((with_reducible refine wpl_store ?_); refine wpList_store_box rfl (by rfl) hO rfl _ (by exact at2) rfl (by rfl) (by rfl) (by rfl) (by rfl) (by rfl) ?_; clear hO; intro u hO; simp only [zC, zB] at hO)
        | fail)
      obtain ⟨F, hvo, hF⟩ := Own.vec0 u 0
      exact ret_box2 rfl hO rfl 2 at2 rfl rfl rfl ⟨_, _, by rw [HG.out]; rfl, by rw [HF.out]; exact hvo, (hO.call hF).pick [0] (by decide)⟩
    · have hlp : 0 < L.length := by cases L with | nil => exact absurd rfl hl0 | cons x l => exact Nat.succ_pos _
      have HF : Hid (X = vecI 2 [exI lg L]) := Lib.hid (by
        rw [HT.out]
        cases L with | nil => exact absurd rfl hl0 | cons x l => rfl)
      have HG : Hid (Y = ⟨#[]⟩) := Lib.hid (by
        rw [HS.out]
        cases L with | nil => exact absurd rfl hl0 | cons x l => rfl)
      have hl40 := HLN.out
      have qn : ((L.length : Int) == 0) = false := by simp; omega
      clear HT HS HB HB2 hl0
      go_enter Try.func36, Try.ntmps36
      have hO := Own.nil w
      go_wp2_with (first
        | ((with_reducible refine wpl_alloc ?_); refine wpList_alloc_own rfl (by rfl) hO rfl (fun b => by simp only [Act.put, zA, zB, zC]; rfl) ?_; (refine nm 1 rfl ?_; clear hO; intro b1 u hO); simp only [zL, zK] at hO)
        | ((with_reducible refine wpl_box ?_); refine wpList_box_own rfl (by rfl) hO rfl rfl (fun b => by simp only [Act.put, zA, zB, zC]; rfl) ?_; (refine nm 0 rfl ?_; clear hO; intro b0 u hO); simp only [zL, zK] at hO)
        | ((with_reducible refine wpl_load ?_); refine wpList_load_box rfl (by rfl) hO rfl _ (by exact at0) (by rfl) (by simp only [Act.put, zA, zB, zC]; rfl) ?_)
        | fail)
      refine (CN _ hO.below).mono ?_
      rintro e u ⟨A, n, rfl, hb⟩
      replace hO := hO.call hb
      clear hb CN
      simp only [List.cons_append, List.nil_append] at hO
      have HZ := Lib.hid (fo_zero lg hlp)
      obtain ⟨x, hx⟩ : ∃ x, L[0] = x := ⟨_, rfl⟩
      obtain ⟨b, off, rfl, hb, d0, d1, d2⟩ := (hO.row_sl 0 rfl).it (Below.refl _ _) hlp hx
      rw [hx] at HZ
      clear hx
      obtain ⟨xn, xd, xt⟩ := x
      simp only [Nat.zero_mul, Nat.add_zero] at d0 d1 d2
      go_wp2_with (first
        | ((with_reducible refine wpl_alloc ?_); refine wpList_alloc_own rfl (by rfl) hO rfl (fun b => by simp only [Act.put, zA, zB, zC]; rfl) ?_; (refine nm 3 rfl ?_; clear hO; intro b3 u hO); simp only [zL, zK] at hO)
        | ((with_reducible refine wpl_store ?_); refine wpList_store_box rfl (by rfl) hO rfl _ (by exact at3) rfl (by rfl) (by rfl) (by rfl) (by rfl) (by rfl) ?_; clear hO; intro u hO; simp only [zC, zB] at hO)
        | fail)
      clear d0 d1 d2
      have HC := Lib.hid (fun (x : It) (h : misB x = false) => h)
      go_loopw [33] (fun i u => ∃ (m : Nat), m ≤ L.length ∧ i = .int .i64 m ∧ Hid ((L.take m).any misB = false) ∧ Own w [row 83 3 (.slice (some ⟨b, off, none⟩) L.length n) L.length (itc L), box b0 29 [.int .i64 k, .slice Ai is.length ci, .slice Ap ps.length cp, .slice An ns.length cn, .slice Ac cs.length cc, .slice Al ls.length cl, .int .i64 c, .int .i64 e], box b1 29 [.int .i64 0, .slice none 0 0, .slice none 0 0, .slice none 0 0, .slice none 0 0, .slice none 0 0, .int .i64 0, .int .i64 0], box b3 83 (itc1 (fo lg L m))] u) (fun i _ => L.length - (intOf i).toNat)
      case atStart => exact ⟨0, Nat.zero_le _, rfl, Lib.hid rfl, by rw [HZ.out]; exact hO⟩
      case round =>
        clear hO
        obtain ⟨m, hm, rfl, hany, hO⟩ := hrel
        by_cases hlt : m < L.length
        · have HFO := Lib.hid (fo_succ lg hlt)
          have HA := Lib.hid (any_take hlt)
          have HM := Lib.hid (fun h => any_mem hlt h)
          obtain ⟨y, hy⟩ : ∃ y, L[m] = y := ⟨_, rfl⟩
          obtain ⟨b', off', e0, hb', d0, d1, d2⟩ := (hO.row_sl 0 rfl).it (Below.refl _ _) hlt hy
          simp only [Option.some.injEq, Addr.mk.injEq, and_true] at e0
          obtain ⟨rfl, rfl⟩ := e0
          rw [hy] at HFO HA HM
          clear hy
          obtain ⟨o, ho⟩ : ∃ o, fo lg L m = o := ⟨_, rfl⟩
          rw [ho] at hO HFO
          clear ho
          obtain ⟨yn, yd, yt⟩ := y
          obtain ⟨on, od, ot⟩ := o
          simp only [itc1] at hO
          have CM := fun u => impl_isMissing yn yd yt u
          cases hq : misB ⟨yn, yd, yt⟩ with
          | true =>
            rw [hq] at CM
            have HX : Hid (exI lg L = zItm) := Lib.hid (by unfold exI; rw [HM.out hq, if_pos rfl])
            clear hq HFO HA HM
            go_wp2_with (first
              | ((with_reducible refine (CM _).mono ?_); rintro e u ⟨rfl, hb⟩; (replace hO := hO.step hb; clear hb))
              | ((with_reducible refine wpl_alloc ?_); refine wpList_alloc_own rfl (by rfl) hO rfl (fun b => by simp only [Act.put, zA, zB, zC]; rfl) ?_; (refine nm 4 rfl ?_; clear hO; intro b4 u hO); simp only [zL, zK] at hO)
              | ((with_reducible refine wpl_load ?_); refine wpList_load_box rfl (by rfl) hO rfl _ (by (first | exact at1 | exact at4 | fail)) (by rfl) (by simp only [Act.put, zA, zB, zC]; rfl) ?_)
              | ((with_reducible refine wpl_store ?_); refine wpList_store_box rfl (by rfl) hO rfl _ (by exact at4) rfl (by rfl) (by rfl) (by rfl) (by rfl) (by rfl) ?_; clear hO; intro u hO; simp only [zC, zB] at hO)
              | fail)
            refine ((impl_one 0 0 ⟨#[]⟩ _).mono fun e' w' h => RetV.exC h).mono ?_
            rintro e u ⟨Ci, Cp, Cn, Cc, Cl, ri, rp, rn, rc, rl, F, rfl, hvo, hb2⟩
            replace hO := hO.call hb2
            clear hb2
            simp only [List.cons_append, List.nil_append] at hO
            go_wp2_with (first
              | ((with_reducible refine wpl_store ?_); refine wpList_store_box rfl (by rfl) hO rfl _ (by exact at3) rfl (by rfl) (by rfl) (by rfl) (by rfl) (by rfl) ?_; clear hO; intro u hO; simp only [zC, zB] at hO)
              | fail)
            exact ret_box2 rfl hO rfl 3 at3 rfl rfl rfl ⟨_, _, by rw [HG.out]; rfl, by rw [HF.out, HX.out]; exact hvo, hO.pick [0] (by decide)⟩
          | false =>
            rw [hq] at CM
            have HA2 : Hid ((L.take (m + 1)).any misB = false) := Lib.hid (by rw [HA.out, hany.out, hq]; rfl)
            have CP := fun u => impl_cmp yn yd on od yt ot u
            obtain ⟨cv, hcv⟩ : ∃ z, cmpI yn yd yt on od ot = z := ⟨_, rfl⟩
            rw [hcv] at CP
            have hst : stp lg ⟨on, od, ot⟩ ⟨yn, yd, yt⟩ = if (lg && decide (cv = 1)) || (!lg && decide (cv = -1)) then ⟨yn, yd, yt⟩ else ⟨on, od, ot⟩ := by rw [← hcv]; rfl
            rw [hst] at HFO
            clear hq HA HM hcv hst
            cases lg with
            | true =>
              by_cases h1 : cv = 1
              · subst h1
                have HO : Hid (fo true L (m + 1) = ⟨yn, yd, yt⟩) := Lib.hid (by rw [HFO.out]; rfl)
                clear HFO
                go_wp2_with (first
                  | ((with_reducible refine (CM _).mono ?_); rintro e u ⟨rfl, hb⟩; (replace hO := hO.step hb; clear hb))
                  | ((with_reducible refine (CP _).mono ?_); rintro e u ⟨rfl, hb⟩; (replace hO := hO.step hb; clear hb))
                  | ((with_reducible refine wpl_alloc ?_); refine wpList_alloc_own rfl (by rfl) hO rfl (fun b => by simp only [Act.put, zA, zB, zC]; rfl) ?_; (refine nm 4 rfl ?_; clear hO; intro b4 u hO); simp only [zL, zK] at hO)
                  | ((with_reducible refine wpl_load ?_); refine wpList_load_box rfl (by rfl) hO rfl _ (by (first | exact at1 | exact at3 | exact at4 | fail)) (by rfl) (by simp only [Act.put, zA, zB, zC]; rfl) ?_)
                  | ((with_reducible refine wpl_store ?_); refine wpList_store_box rfl (by rfl) hO rfl _ (by (first | exact at3 | exact at4 | fail)) rfl (by rfl) (by rfl) (by rfl) (by rfl) (by rfl) ?_; clear hO; intro u hO; simp only [zC, zB] at hO)
                  | fail)
                replace hO := hO.pick [0, 1, 2, 3] (by decide)
                simp only [zN, zO, zE, zD] at hO
                go_roundw
                case rel => exact ⟨m + 1, by omega, by go_num, HA2, by rw [HO.out]; exact hO⟩
                case measure => simp [intOf]; omega
              · have q1 : (cv == 1) = false := by simpa using h1
                have HO : Hid (fo true L (m + 1) = ⟨on, od, ot⟩) := Lib.hid (by rw [HFO.out]; simp [h1])
                clear HFO h1
                go_wp2_with (first
                  | ((with_reducible refine (CM _).mono ?_); rintro e u ⟨rfl, hb⟩; (replace hO := hO.step hb; clear hb))
                  | ((with_reducible refine (CP _).mono ?_); rintro e u ⟨rfl, hb⟩; (replace hO := hO.step hb; clear hb))
                  | ((with_reducible refine wpl_alloc ?_); refine wpList_alloc_own rfl (by rfl) hO rfl (fun b => by simp only [Act.put, zA, zB, zC]; rfl) ?_; (refine nm 4 rfl ?_; clear hO; intro b4 u hO); simp only [zL, zK] at hO)
                  | ((with_reducible refine wpl_load ?_); refine wpList_load_box rfl (by rfl) hO rfl _ (by (first | exact at1 | exact at3 | exact at4 | fail)) (by rfl) (by simp only [Act.put, zA, zB, zC]; rfl) ?_)
                  | ((with_reducible refine wpl_store ?_); refine wpList_store_box rfl (by rfl) hO rfl _ (by exact at4) rfl (by rfl) (by rfl) (by rfl) (by rfl) (by rfl) ?_; clear hO; intro u hO; simp only [zC, zB] at hO)
                  | fail)
                replace hO := hO.pick [0, 1, 2, 3] (by decide)
                simp only [zN, zO, zE, zD] at hO
                go_roundw
                case rel => exact ⟨m + 1, by omega, by go_num, HA2, by rw [HO.out]; exact hO⟩
                case measure => simp [intOf]; omega
            | false =>
              by_cases h1 : cv = -1
              · subst h1
                have HO : Hid (fo false L (m + 1) = ⟨yn, yd, yt⟩) := Lib.hid (by rw [HFO.out]; rfl)
                clear HFO
                go_wp2_with (first
                  | ((with_reducible refine (CM _).mono ?_); rintro e u ⟨rfl, hb⟩; (replace hO := hO.step hb; clear hb))
                  | ((with_reducible refine (CP _).mono ?_); rintro e u ⟨rfl, hb⟩; (replace hO := hO.step hb; clear hb))
                  | ((with_reducible refine wpl_alloc ?_); refine wpList_alloc_own rfl (by rfl) hO rfl (fun b => by simp only [Act.put, zA, zB, zC]; rfl) ?_; (refine nm 4 rfl ?_; clear hO; intro b4 u hO); simp only [zL, zK] at hO)
                  | ((with_reducible refine wpl_load ?_); refine wpList_load_box rfl (by rfl) hO rfl _ (by (first | exact at1 | exact at3 | exact at4 | fail)) (by rfl) (by simp only [Act.put, zA, zB, zC]; rfl) ?_)
                  | ((with_reducible refine wpl_store ?_); refine wpList_store_box rfl (by rfl) hO rfl _ (by (first | exact at3 | exact at4 | fail)) rfl (by rfl) (by rfl) (by rfl) (by rfl) (by rfl) ?_; clear hO; intro u hO; simp only [zC, zB] at hO)
                  | fail)
                replace hO := hO.pick [0, 1, 2, 3] (by decide)
                simp only [zN, zO, zE, zD] at hO
                go_roundw
                case rel => exact ⟨m + 1, by omega, by go_num, HA2, by rw [HO.out]; exact hO⟩
                case measure => simp [intOf]; omega
              · have q1 : (cv == -1) = false := by simpa using h1
                have HO : Hid (fo false L (m + 1) = ⟨on, od, ot⟩) := Lib.hid (by rw [HFO.out]; simp [h1])
                clear HFO h1
                go_wp2_with (first
                  | ((with_reducible refine (CM _).mono ?_); rintro e u ⟨rfl, hb⟩; (replace hO := hO.step hb; clear hb))
                  | ((with_reducible refine (CP _).mono ?_); rintro e u ⟨rfl, hb⟩; (replace hO := hO.step hb; clear hb))
                  | ((with_reducible refine wpl_alloc ?_); refine wpList_alloc_own rfl (by rfl) hO rfl (fun b => by simp only [Act.put, zA, zB, zC]; rfl) ?_; (refine nm 4 rfl ?_; clear hO; intro b4 u hO); simp only [zL, zK] at hO)
                  | ((with_reducible refine wpl_load ?_); refine wpList_load_box rfl (by rfl) hO rfl _ (by (first | exact at1 | exact at3 | exact at4 | fail)) (by rfl) (by simp only [Act.put, zA, zB, zC]; rfl) ?_)
                  | ((with_reducible refine wpl_store ?_); refine wpList_store_box rfl (by rfl) hO rfl _ (by exact at4) rfl (by rfl) (by rfl) (by rfl) (by rfl) (by rfl) ?_; clear hO; intro u hO; simp only [zC, zB] at hO)
                  | fail)
                replace hO := hO.pick [0, 1, 2, 3] (by decide)
                simp only [zN, zO, zE, zD] at hO
                go_roundw
                case rel => exact ⟨m + 1, by omega, by go_num, HA2, by rw [HO.out]; exact hO⟩
                case measure => simp [intOf]; omega
        · have hmn : m = L.length := by omega
          subst hmn
          rw [List.take_length] at hany
          have HX : Hid (exI lg L = fo lg L L.length) := Lib.hid (by unfold exI; rw [hany.out, if_neg (by decide), fo_all])
          obtain ⟨o, ho⟩ : ∃ o, fo lg L L.length = o := ⟨_, rfl⟩
          rw [ho] at hO HX
          clear ho
          obtain ⟨on, od, ot⟩ := o
          simp only [itc1] at hO
          go_wp2_with (first
            | ((with_reducible refine wpl_load ?_); refine wpList_load_box rfl (by rfl) hO rfl _ (by exact at3) (by rfl) (by simp only [Act.put, zA, zB, zC]; rfl) ?_)
            | fail)
          refine ((impl_one on od ot _).mono fun e' w' h => RetV.exC h).mono ?_
          rintro e u ⟨Ci, Cp, Cn, Cc, Cl, ri, rp, rn, rc, rl, F, rfl, hvo, hb2⟩
          replace hO := hO.call hb2
          clear hb2
          simp only [List.cons_append, List.nil_append] at hO
          go_wp2_with (first
            | ((with_reducible refine wpl_store ?_); refine wpList_store_box rfl (by rfl) hO rfl _ (by exact at3) rfl (by rfl) (by rfl) (by rfl) (by rfl) (by rfl) ?_; clear hO; intro u hO; simp only [zC, zB] at hO)
            | fail)
          exact ret_box2 rfl hO rfl 3 at3 rfl rfl rfl ⟨_, _, by rw [HG.out]; rfl, by rw [HF.out, HX.out]; exact hvo, hO.pick [0] (by decide)⟩

end Go.Proofs.Ytmofcbpabdbjlaa
