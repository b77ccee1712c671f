/-
  What is proved: what the reference's ExtremeOf returns.
  Condition: vectors of size at most 1048576.
-/
import Derived.Test.YtmofcbpabdbjlaaExA
import Derived.Test.YtmofcbpabdbjlaaNvA
import Derived.Test.YtmofcbpabdbjlaaMiA
import Derived.Deep.Cut
namespace Go.Proofs.Ytmofcbpabdbjlaa
set_option maxRecDepth 8000
open Go.RowKit Go.ChangeShapes Go.WideShapes Go.Deep
set_option linter.unusedVariables false
set_option linter.unusedSimpArgs false

theorem Sl.it3 {u : World} {b off : Nat} {l : List It} (h : Sl u 3 (some ⟨b, off, none⟩) l.length (itc l)) {i : Nat} (hi : i < l.length) {n d : Int} {t : ByteArray} (hx : l[i]'hi = ⟨n, d, t⟩) :
    u.cell? ⟨b, off + i * 3, none⟩ = some (.int .i64 n) ∧ u.cell? ⟨b, off + i * 3 + 1, none⟩ = some (.int .i64 d) ∧ u.cell? ⟨b, off + i * 3 + 2, none⟩ = some (.string t) := by
  obtain ⟨b', off', e, _, d0, d1, d2⟩ := h.it (Below.refl _ _) hi hx
  simp only [Option.some.injEq, Addr.mk.injEq, and_true] at e
  obtain ⟨rfl, rfl⟩ := e
  exact ⟨d0, d1, d2⟩

/-- the reference's best of the first m -/
def bst (lg : Bool) (l : List It) (m : Nat) : It := if (l.take m).any misB then zItm else fo lg l m
theorem bst_one (lg : Bool) {l : List It} (h : 0 < l.length) : bst lg l 1 = l[0] := by
  unfold bst
  rw [any_take h, fo_one lg h]
  cases hq : misB l[0] with
  | false => rfl
  | true => rw [mis_zero hq]; rfl
theorem bst_all (lg : Bool) (l : List It) : bst lg l l.length = exI lg l := by
  unfold bst exI
  rw [List.take_length, fo_all]
theorem mis_z : misB zItm = true := by
  unfold misB zItm
  rw [ByteArray.toList_eq]
  rfl
theorem bst_succ (lg : Bool) {l : List It} {m : Nat} (HV : ∀ x ∈ l, misB x = false → isNumT x.num x.den x.text = true) (h0 : 0 < m) (hm : m < l.length) :
    bst lg l (m + 1) = if cmpT l[m] (bst lg l m) = 2 then zItm else stp lg (bst lg l m) l[m] := by
  unfold bst
  rw [any_take hm]
  cases ha : (l.take m).any misB with
  | true =>
    rw [Bool.true_or, if_pos rfl, if_pos rfl, if_pos (cmpT_two (.inr mis_z))]
  | false =>
    rw [Bool.false_or]
    cases hq : misB l[m] with
    | true =>
      simp only [Bool.false_eq_true, if_true, if_false]
      rw [if_pos (cmpT_two (.inl hq))]
    | false =>
      simp only [Bool.false_eq_true, if_false]
      rw [if_neg, fo_succ lg hm]
      have hall : ∀ y ∈ l.take m, misB y = false := fun y hy => by
        cases h : misB y with
        | false => rfl
        | true => rw [List.any_eq_true.2 ⟨y, hy, h⟩] at ha; cases ha
      refine cmpT_ne (HV _ (List.getElem_mem hm) hq) ?_
      rcases fo_mem lg (m := m) (show 0 < l.length by omega) with h | h
      · rw [h]
        refine HV _ (List.getElem_mem _) (hall _ ?_)
        exact List.mem_take_iff_getElem.2 ⟨0, by omega, rfl⟩
      · exact HV _ (List.mem_of_mem_take h) (hall _ h)
theorem num_valid {t : VT} {d : Bool} : ∀ x ∈ numL t d, misB x = false → isNumT x.num x.den x.text = true := by
  intro x hx hm
  unfold numL at hx
  split at hx
  · rename_i h1
    obtain ⟨k, is, ps, ns, cs, ls, c, e⟩ := t
    split at hx
    · rename_i h2
      have h3 := (isV_facts h1).2.2.2.2.2.2.2.1 x (List.mem_filter.1 hx).1
      refine it_isnum h3 ?_ hm
      have h4 : cntK k ls.length = true := h2
      unfold cntK at h4
      simp only [Bool.or_eq_true, Bool.and_eq_true, decide_eq_true_eq] at h4
      omega
    · cases hx
  · cases hx

set_option maxRecDepth 20000 in
set_option maxHeartbeats 4000000 in
theorem spec_take (t : VT) (d : Bool) (vs : List Value) (w : World) (hv : RdV w t vs) (hz : szV t ≤ 1048576) : Calls Try.prog 98 #[.agg vs.toArray, .bool d] w (RetIS (numL t d) (numS t) w) := by
  have CA := fun u (hb : Below w.heap.size w u) => spec_isVec t _ u (hv.grow hb) hz
  obtain ⟨k, is, ps, ns, cs, ls, c, e⟩ := t
  have HE : Hid (numL (.mk k is ps ns cs ls c e) d = if isV (.mk k is ps ns cs ls c e) then (if cntK k ls.length then is.filter (keepB d) else []) else []) := Lib.hid rfl
  have HS : Hid (numS (.mk k is ps ns cs ls c e) = if isV (.mk k is ps ns cs ls c e) then (if cntK k ls.length then ⟨#[]⟩ else nonNumS) else badS) := Lib.hid rfl
  have HK := Lib.hid (fun h => isV_items (k := k) (is := is) (ps := ps) (ns := ns) (cs := cs) (ls := ls) (c := c) (e := e) h)
  have HI := Lib.hid (fun h => isV_item (k := k) (is := is) (ps := ps) (ns := ns) (cs := cs) (ls := ls) (c := c) (e := e) h)
  have HC := Lib.hid (fun h => l5_cnt (k := k) (is := is) (ps := ps) (ns := ns) (cs := cs) (ls := ls) (c := c) (e := e) h)
  obtain ⟨q, hq⟩ : ∃ q, isV (.mk k is ps ns cs ls c e) = q := ⟨_, rfl⟩
  rw [hq] at CA HE HS HK HI HC
  obtain ⟨Ai, Ap, An, Ac, Al, ci, cp, cn, cc, cl, pvs, rfl, h1, h2, h3, h4, h5⟩ := hv.open
  clear hv hz hq
  cases q with
  | false =>
    have HF : Hid (numL (.mk k is ps ns cs ls c e) d = []) := Lib.hid (by rw [HE.out]; rfl)
    have HG : Hid (numS (.mk k is ps ns cs ls c e) = badS) := Lib.hid (by rw [HS.out]; rfl)
    go_enter Try.func98, Try.ntmps98
    have hO := Own.nil w
    go_wp2_with (first
      | ((with_reducible refine (CA _ hO.below).mono ?_); rintro e u ⟨rfl, hb⟩; (replace hO := hO.step hb; clear hb))
      | ((with_reducible refine wpl_box ?_); refine wpList_box_own rfl (by rfl) hO rfl rfl (fun b => by simp only [Act.put, zA, zB, zC]; rfl) ?_; (refine nm 0 rfl ?_; clear hO; intro b0 u hO); simp only [zL, zK] at hO)
      | ((with_reducible refine wpl_load ?_); refine wpList_load_box rfl (by rfl) hO rfl _ (by exact at0) (by rfl) (by simp only [Act.put, zA, zB, zC]; rfl) ?_)
      | ((with_reducible refine wpl_build ?_); refine wpList_build_row0 hO rfl (by rfl) rfl (fun b => by simp only [Act.put, zA, zB, zC]; rfl) ?_; clear hO; intro bb u hO; simp only [zL, zK] at hO)
      | fail)
    go_ret2
    refine ⟨_, 0, by rw [HF.out, HG.out]; rfl, ?_⟩
    rw [HF.out]
    exact hO.pick [1] (by decide)
  | true =>
  have hc := HC.out rfl
  obtain ⟨r, hr⟩ : ∃ r, cntK k ls.length = r := ⟨_, rfl⟩
  rw [hr] at HE HS hc
  clear hr
  cases r with
  | false =>
    have HF : Hid (numL (.mk k is ps ns cs ls c e) d = []) := Lib.hid (by rw [HE.out]; rfl)
    have HG : Hid (numS (.mk k is ps ns cs ls c e) = nonNumS) := Lib.hid (by rw [HS.out]; rfl)
    go_enter Try.func98, Try.ntmps98
    have hO := Own.nil w
    go_wp2_with (first
      | ((with_reducible refine (CA _ hO.below).mono ?_); rintro e u ⟨rfl, hb⟩; (replace hO := hO.step hb; clear hb))
      | ((with_reducible refine wpl_box ?_); refine wpList_box_own rfl (by rfl) hO rfl rfl (fun b => by simp only [Act.put, zA, zB, zC]; rfl) ?_; (refine nm 0 rfl ?_; clear hO; intro b0 u hO); simp only [zL, zK] at hO)
      | ((with_reducible refine wpl_load ?_); refine wpList_load_box rfl (by rfl) hO rfl _ (by exact at0) (by rfl) (by simp only [Act.put, zA, zB, zC]; rfl) ?_)
      | fail)
    refine (spec_nums_no k (.slice Ap ps.length cp) (.slice An ns.length cn) (.slice Ac cs.length cc) (.int .i64 c) (.int .i64 e) Ai Al is.length ci ls.length cl _ hc).mono ?_
    rintro e u ⟨b, rfl, hb⟩
    replace hO := hO.step hb
    clear hb
    go_wp2_with (first
      | ((with_reducible refine wpl_build ?_); refine wpList_build_row0 hO rfl (by rfl) rfl (fun b => by simp only [Act.put, zA, zB, zC]; rfl) ?_; clear hO; intro bb u hO; simp only [zL, zK] at hO)
      | fail)
    go_ret2
    refine ⟨_, 0, by rw [HF.out, HG.out]; rfl, ?_⟩
    rw [HF.out]
    exact hO.pick [1] (by decide)
  | true =>
    have HF : Hid (numL (.mk k is ps ns cs ls c e) d = is.filter (keepB d)) := Lib.hid (by rw [HE.out]; rfl)
    have HG : Hid (numS (.mk k is ps ns cs ls c e) = ⟨#[]⟩) := Lib.hid (by rw [HS.out]; rfl)
    have hle := HK.out rfl
    have HI' := Lib.hid (HI.out rfl)
    have CN := fun u => spec_nums_yes k (.slice Ap ps.length cp) (.slice An ns.length cn) (.slice Ac cs.length cc) (.int .i64 c) (.int .i64 e) Ai Al is.length ci ls.length cl u hc
    clear HE HS HK HI HC hc h2 h3 h4 h5
    go_enter Try.func98, Try.ntmps98
    have hO := Own.nil w
    go_wp2_with (first
      | ((with_reducible refine (CA _ hO.below).mono ?_); rintro e u ⟨rfl, hb⟩; (replace hO := hO.step hb; clear hb))
      | ((with_reducible refine (CN _).mono ?_); rintro e u ⟨rfl, hb⟩; (replace hO := hO.step hb; clear hb))
      | ((with_reducible refine wpl_box ?_); refine wpList_box_own rfl (by rfl) hO rfl rfl (fun b => by simp only [Act.put, zA, zB, zC]; rfl) ?_; (refine nm 0 rfl ?_; clear hO; intro b0 u hO); simp only [zL, zK] at hO)
      | ((with_reducible refine wpl_load ?_); refine wpList_load_box rfl (by rfl) hO rfl _ (by exact at0) (by rfl) (by simp only [Act.put, zA, zB, zC]; rfl) ?_)
      | ((with_reducible refine wpl_build ?_); refine wpList_build_row0 hO rfl (by rfl) rfl (fun b => by simp only [Act.put, zA, zB, zC]; rfl) ?_; clear hO; intro bb u hO; simp only [zL, zK] at hO)
      | fail)
    clear CA CN
    go_loopw [8, 9] (fun s i u => ∃ (m : Nat) (n : Nat) (A' : Option Addr) (c' : Nat), m ≤ is.length ∧ i = .int .i64 m ∧ s = .slice A' n c' ∧ n ≤ m ∧ Hid (n = ((is.take m).filter (keepB d)).length) ∧ Own w [box b0 29 [.int .i64 k, .slice Ai is.length ci, .slice Ap ps.length cp, .slice An ns.length cn, .slice Ac cs.length cc, .slice Al ls.length cl, .int .i64 c, .int .i64 e], row 83 3 (.slice A' n c') n (itc ((is.take m).filter (keepB d)))] u) (fun _ i _ => is.length - (intOf i).toNat)
    case atStart => exact ⟨0, 0, _, 0, Nat.zero_le _, rfl, rfl, Nat.le_refl _, Lib.hid rfl, hO⟩
    case round =>
      clear hO
      obtain ⟨m, n, A', c', hm, rfl, rfl, hnm, hn, hO⟩ := hrel
      by_cases hlt : m < is.length
      · have HSS := Lib.hid (filter_take (keepB d) hlt)
        have hmis := HI'.out _ (List.getElem_mem hlt)
        obtain ⟨x, hx⟩ : ∃ x, is[m] = x := ⟨_, rfl⟩
        obtain ⟨b, off, rfl, hb, d0, d1, d2⟩ := h1.it hO.below hlt hx
        rw [hx] at HSS hmis
        clear hx
        obtain ⟨xn, xd, xt⟩ := x
        simp only at d0 d1 d2 hmis
        by_cases hk : keepB d ⟨xn, xd, xt⟩ = true
        · rw [if_pos hk] at HSS
          have HJ : Hid (itc ((is.take (m + 1)).filter (keepB d)) = itc ((is.take m).filter (keepB d)) ++ [.int .i64 xn, .int .i64 xd, .string xt]) := Lib.hid (by rw [HSS.out, itc_app]; rfl)
          have HN : Hid (n + 1 = ((is.take (m + 1)).filter (keepB d)).length) := Lib.hid (by rw [HSS.out, List.length_append, ← hn.out]; rfl)
          unfold keepB at hk
          rw [hmis] at hk
          clear hmis HSS
          by_cases hd : xd = 0
          · have qd : (xd != 0) = false := by simp [hd]
            have hdd : d = false := by cases d <;> simp_all
            subst hdd
            clear hk hd
            go_wp2_with (first
              | ((with_reducible refine wpl_build ?_); refine wpList_build_one (cs := [.int .i64 xn, .int .i64 xd, .string xt]) hO rfl (by rfl) (by simp only [Act.eval, zJ, zF, zD, zE, zP]; rfl) rfl rfl (zM rfl) rfl (fun b => by simp only [Act.put, zA, zB, zC]; rfl) ?_; clear hO; intro bb u hO; simp only [zL, zK] at hO)
              | ((with_reducible refine wpl_append ?_); refine wpList_append_box hO rfl (by rfl) rfl rfl _ (by exact at1) _ (by exact at2) (by rfl) (by simp [Value.oneCell']) (by omega) (by omega) rfl (fun A' c' => by simp only [Act.put, zA, zB, zC]; rfl) ?_; clear hO; intro A' c' u hO; simp only [zC, zB] at hO)
              | fail)
            replace hO := hO.pick [0, 1] (by decide)
            simp only [zN, zO, zE, zD] at hO
            rw [← HJ.out] at hO
            go_roundw
            case rel => exact ⟨m + 1, n + 1, _, _, by omega, by go_num, rfl, by omega, HN, hO⟩
            case measure => simp [intOf]; omega
          · have qd : (xd != 0) = true := by simp [hd]
            clear hk hd
            go_wp2_with (first
              | ((with_reducible refine wpl_build ?_); refine wpList_build_one (cs := [.int .i64 xn, .int .i64 xd, .string xt]) hO rfl (by rfl) (by simp only [Act.eval, zJ, zF, zD, zE, zP]; rfl) rfl rfl (zM rfl) rfl (fun b => by simp only [Act.put, zA, zB, zC]; rfl) ?_; clear hO; intro bb u hO; simp only [zL, zK] at hO)
              | ((with_reducible refine wpl_append ?_); refine wpList_append_box hO rfl (by rfl) rfl rfl _ (by exact at1) _ (by exact at2) (by rfl) (by simp [Value.oneCell']) (by omega) (by omega) rfl (fun A' c' => by simp only [Act.put, zA, zB, zC]; rfl) ?_; clear hO; intro A' c' u hO; simp only [zC, zB] at hO)
              | fail)
            replace hO := hO.pick [0, 1] (by decide)
            simp only [zN, zO, zE, zD] at hO
            rw [← HJ.out] at hO
            go_roundw
            case rel => exact ⟨m + 1, n + 1, _, _, by omega, by go_num, rfl, by omega, HN, hO⟩
            case measure => simp [intOf]; omega
        · rw [if_neg hk, List.append_nil] at HSS
          have HN : Hid (n = ((is.take (m + 1)).filter (keepB d)).length) := Lib.hid (by rw [HSS.out, ← hn.out])
          unfold keepB at hk
          rw [hmis] at hk
          have hdd : d = true := by cases d <;> simp_all
          have hd : xd = 0 := by
            subst hdd
            simpa using hk
          subst hdd hd
          clear hk hmis
          go_wp2_with fail
          replace hO := hO.pick [0, 1] (by decide)
          simp only [zN, zO, zE, zD] at hO
          rw [← HSS.out] at hO
          go_roundw
          case rel => exact ⟨m + 1, n, _, _, by omega, by go_num, rfl, by omega, HN, hO⟩
          case measure => simp [intOf]; omega
      · have hmn : m = is.length := by omega
        subst hmn
        rw [List.take_length] at hO hn
        go_wp2_with (first
          | ((with_reducible refine wpl_alloc ?_); refine wpList_alloc_own rfl (by rfl) hO rfl (fun b => by simp only [Act.put, zA, zB, zC]; rfl) ?_; (first | (refine nm 0 rfl ?_; clear hO; intro b0 u hO) | (refine nm 1 rfl ?_; clear hO; intro b1 u hO) | (refine nm 2 rfl ?_; clear hO; intro b2 u hO) | (refine nm 3 rfl ?_; clear hO; intro b3 u hO)); simp only [zL, zK] at hO)
          | ((with_reducible refine wpl_box ?_); refine wpList_box_own rfl (by rfl) hO rfl rfl (fun b => by simp only [Act.put, zA, zB, zC]; rfl) ?_; (first | (refine nm 0 rfl ?_; clear hO; intro b0 u hO) | (refine nm 1 rfl ?_; clear hO; intro b1 u hO) | (refine nm 2 rfl ?_; clear hO; intro b2 u hO) | (refine nm 3 rfl ?_; clear hO; intro b3 u hO)); simp only [zL, zK] at hO)
          | ((with_reducible refine wpl_load ?_); refine wpList_load_box rfl (by (first | rfl | (simp only [Region.wanted, yielded, *]; go_simp; done) | (simp [Region.wanted, yielded, *]; done) | fail)) hO rfl _ (by (first | exact at0 | exact at1 | exact at2 | exact at3)) (by rfl) (by simp only [Act.put, zA, zB, zC]; rfl) ?_)
          | ((with_reducible refine wpl_load ?_); refine wpList_load_field rfl (by (first | rfl | (simp only [Region.wanted, yielded, *]; go_simp; done) | (simp [Region.wanted, yielded, *]; done) | fail)) hO rfl _ (by (first | exact at0 | exact at1 | exact at2 | exact at3)) (by rfl) (by simp only [Act.put, zA, zB, zC]; rfl) ?_)
          | ((with_reducible refine wpl_store ?_); refine wpList_store_box rfl (by rfl) hO rfl _ (by (first | exact at0 | exact at1 | exact at2 | exact at3)) rfl (by rfl) (by rfl) (by rfl) (by rfl) (by rfl) ?_; clear hO; intro u hO; simp only [zC, zB] at hO)
          | ((with_reducible refine wpl_store ?_); refine wpList_store_field rfl (by rfl) hO rfl _ (by (first | exact at0 | exact at1 | exact at2 | exact at3)) (zM rfl) (by simp only [Act.eval, zJ, zF, zD, zE, zP]; rfl) (by rfl) (by rfl) (by rfl) ?_; clear hO; intro u hO; simp only [zC, zB] at hO)
          | ((with_reducible refine wpl_call ?_); refine wpList_append_str hO rfl (by rfl) rfl rfl _ (by (first | exact at0 | exact at1 | exact at2 | exact at3)) (by omega) rfl (fun A' c' => by simp only [Act.put, zA, zB, zC]; rfl) ?_; clear hO; intro A' c' u hO; simp only [zC, zB] at hO)
          | ((with_reducible refine wpl_call ?_); refine wpList_append_lit hO rfl (by rfl) rfl rfl _ (by (first | exact at0 | exact at1 | exact at2 | exact at3)) (by rfl) (by simp [Value.oneCell']) (by omega) (by omega) rfl (fun A' c' => by simp only [Act.put, zA, zB, zC]; rfl) ?_; clear hO; intro A' c' u hO; simp only [zC, zB] at hO)
          | fail)
        go_ret2
        have hq := hn.out
        subst hq
        refine ⟨_, _, by rw [HF.out, HG.out]; rfl, ?_⟩
        rw [HF.out]
        exact hO.pick [1] (by decide)

theorem spec_one (n d : Int) (t : ByteArray) (w : World) : Calls Try.prog 100 #[.agg #[.int .i64 n, .int .i64 d, .string t]] w (RetV (vecI 2 [⟨n, d, t⟩]) w) := by
  go_enter Try.func100, Try.ntmps100
  have hO := Own.nil w
  go_wp2_with (first
    | ((with_reducible refine wpl_alloc ?_); refine wpList_alloc_own rfl (by rfl) hO rfl (fun b => by simp only [Act.put, zA, zB, zC]; rfl) ?_; (refine nm 1 rfl ?_; clear hO; intro b1 u hO); simp only [zL, zK] at hO)
    | ((with_reducible refine wpl_box ?_); refine wpList_box_own rfl (by rfl) hO rfl rfl (fun b => by simp only [Act.put, zA, zB, zC]; rfl) ?_; (refine nm 0 rfl ?_; clear hO; intro b0 u hO); simp only [zL, zK] at hO)
    | ((with_reducible refine wpl_load ?_); refine wpList_load_box rfl (by rfl) hO rfl _ (by exact at0) (by rfl) (by simp only [Act.put, zA, zB, zC]; rfl) ?_)
    | ((with_reducible refine wpl_store ?_); refine wpList_store_box rfl (by rfl) hO rfl _ (by exact at1) rfl (by rfl) (by rfl) (by rfl) (by rfl) (by rfl) ?_; clear hO; intro u hO; simp only [zC, zB] at hO)
    | ((with_reducible refine wpl_build ?_); refine wpList_build_one (cs := [.int .i64 n, .int .i64 d, .string t]) hO rfl (by rfl) (by simp only [Act.eval, zJ, zF, zD, zE, zP]; rfl) rfl rfl (zM rfl) rfl (fun b => by simp only [Act.put, zA, zB, zC]; rfl) ?_; clear hO; intro bb u hO; simp only [zL, zK] at hO)
    | fail)
  have hR := (hO.pick [2] (by decide))
  simp only [List.filterMap_cons, List.filterMap_nil, List.getElem?_cons_zero, List.getElem?_cons_succ] at hR
  replace hR := hR.box_row 3 1 rfl (by decide)
  obtain ⟨F, hvo, hF⟩ := Own.vecI (is := [⟨n, d, t⟩]) hR 2
  exact ret_box rfl hO rfl 1 at1 rfl rfl ⟨_, _, rfl, hvo, hF⟩

set_option maxRecDepth 20000 in
set_option maxHeartbeats 4000000 in
theorem spec_ex (t : VT) (d lg : Bool) (vs : List Value) (w : World) (hv : RdV w t vs) (hz : szV t ≤ 1048576) : Calls Try.prog 35 #[.agg vs.toArray, .bool d, .bool lg] w (RetVS (exT t d lg) (exS t d) w) := by
  have CN := fun u (hb : Below w.heap.size w u) => spec_take t d vs u (hv.grow hb) hz
  have HT : Hid (exT t d lg = if isV t && cntK t.kind t.levels.length && !(numL t d).isEmpty then vecI 2 [exI lg (numL t d)] else vecI 0 []) := Lib.hid rfl
  have HS : Hid (exS t d = if isV t && cntK t.kind t.levels.length then (if (numL t d).isEmpty then noElS else ⟨#[]⟩) else numS t) := Lib.hid rfl
  have HB : Hid ((isV t && cntK t.kind t.levels.length) = false → numS t = badS ∨ numS t = nonNumS) := Lib.hid (by
    unfold numS
    intro h
    split
    · rename_i h1; rw [h1, Bool.true_and] at h; rw [h]; exact .inr rfl
    · exact .inl rfl)
  have HB2 : Hid ((isV t && cntK t.kind t.levels.length) = true → numS t = ⟨#[]⟩) := Lib.hid (by
    unfold numS
    intro h
    rw [Bool.and_eq_true] at h
    rw [h.1, h.2]
    rfl)
  have HLN : Hid ((numL t d).length ≤ 40) := Lib.hid (by
    unfold numL
    split
    · rename_i h1
      obtain ⟨k, is, ps, ns, cs, ls, c, e⟩ := t
      split
      · exact Nat.le_trans (List.length_filter_le ..) (isV_items h1)
      · simp
    · simp)
  obtain ⟨q, hq⟩ : ∃ q, (isV t && cntK t.kind t.levels.length) = q := ⟨_, rfl⟩
  rw [hq] at HT HS HB HB2
  clear hq
  have HV := Lib.hid (num_valid (t := t) (d := d))
  obtain ⟨L, hL⟩ : ∃ L, numL t d = L := ⟨_, rfl⟩
  rw [hL] at CN HT HS HLN HV
  obtain ⟨s, hs⟩ : ∃ s, numS t = s := ⟨_, rfl⟩
  rw [hs] at CN HS HB HB2
  obtain ⟨X, hX⟩ : ∃ X, exT t d lg = X := ⟨_, rfl⟩
  obtain ⟨Y, hY⟩ : ∃ Y, exS t d = Y := ⟨_, rfl⟩
  rw [hX] at HT
  rw [hY] at HS
  rw [hX, hY]
  clear hL hs hX hY
  obtain ⟨k, is, ps, ns, cs, ls, c, e⟩ := t
  obtain ⟨Ai, Ap, An, Ac, Al, ci, cp, cn, cc, cl, pvs, rfl, h1, h2, h3, h4, h5⟩ := hv.open
  clear hv hz h1 h2 h3 h4 h5
  cases q with
  | false =>
    have HF : Hid (X = vecI 0 []) := Lib.hid (by rw [HT.out]; rfl)
    have HG : Hid (Y = s) := Lib.hid (by rw [HS.out]; rfl)
    have qb : (!badS.toList.isEmpty) = true := by rw [ByteArray.toList_eq]; rfl
    have qc : (!nonNumS.toList.isEmpty) = true := by rw [ByteArray.toList_eq]; rfl
    rcases HB.out rfl with hs | hs
    · subst hs
      clear HT HS HB HB2
      go_enter Try.func35, Try.ntmps35
      have hO := Own.nil w
      go_wp2_with (first
        | ((with_reducible refine wpl_alloc ?_); refine wpList_alloc_own rfl (by rfl) hO rfl (fun b => by simp only [Act.put, zA, zB, zC]; rfl) ?_; (refine nm 1 rfl ?_; clear hO; intro b1 u hO); simp only [zL, zK] at hO)
        | ((with_reducible refine wpl_box ?_); refine wpList_box_own rfl (by rfl) hO rfl rfl (fun b => by simp only [Act.put, zA, zB, zC]; rfl) ?_; (refine nm 0 rfl ?_; clear hO; intro b0 u hO); simp only [zL, zK] at hO)
        | ((with_reducible refine wpl_load ?_); refine wpList_load_box rfl (by rfl) hO rfl _ (by exact at0) (by rfl) (by simp only [Act.put, zA, zB, zC]; rfl) ?_)
        | fail)
      refine (CN _ hO.below).mono ?_
      rintro e u ⟨A, n, rfl, hb⟩
      replace hO := hO.call hb
      clear hb CN
      simp only [List.cons_append, List.nil_append] at hO
      go_wp2_with (first
        | ((with_reducible refine wpl_store ?_); refine wpList_store_box rfl (by rfl) hO rfl _ (by exact at2) rfl (by rfl) (by rfl) (by rfl) (by rfl) (by rfl) ?_; clear hO; intro u hO; simp only [zC, zB] at hO)
        | fail)
      obtain ⟨F, hvo, hF⟩ := Own.vec0 u 0
      exact ret_box2 rfl hO rfl 2 at2 rfl rfl rfl ⟨_, _, by rw [HG.out]; rfl, by rw [HF.out]; exact hvo, (hO.call hF).pick [0] (by decide)⟩
    · subst hs
      clear HT HS HB HB2
      go_enter Try.func35, Try.ntmps35
      have hO := Own.nil w
      go_wp2_with (first
        | ((with_reducible refine wpl_alloc ?_); refine wpList_alloc_own rfl (by rfl) hO rfl (fun b => by simp only [Act.put, zA, zB, zC]; rfl) ?_; (refine nm 1 rfl ?_; clear hO; intro b1 u hO); simp only [zL, zK] at hO)
        | ((with_reducible refine wpl_box ?_); refine wpList_box_own rfl (by rfl) hO rfl rfl (fun b => by simp only [Act.put, zA, zB, zC]; rfl) ?_; (refine nm 0 rfl ?_; clear hO; intro b0 u hO); simp only [zL, zK] at hO)
        | ((with_reducible refine wpl_load ?_); refine wpList_load_box rfl (by rfl) hO rfl _ (by exact at0) (by rfl) (by simp only [Act.put, zA, zB, zC]; rfl) ?_)
        | fail)
      refine (CN _ hO.below).mono ?_
      rintro e u ⟨A, n, rfl, hb⟩
      replace hO := hO.call hb
      clear hb CN
      simp only [List.cons_append, List.nil_append] at hO
      go_wp2_with (first
        | ((with_reducible refine wpl_store ?_); refine wpList_store_box rfl (by rfl) hO rfl _ (by exact at2) rfl (by rfl) (by rfl) (by rfl) (by rfl) (by rfl) ?_; clear hO; intro u hO; simp only [zC, zB] at hO)
        | fail)
      obtain ⟨F, hvo, hF⟩ := Own.vec0 u 0
      exact ret_box2 rfl hO rfl 2 at2 rfl rfl rfl ⟨_, _, by rw [HG.out]; rfl, by rw [HF.out]; exact hvo, (hO.call hF).pick [0] (by decide)⟩
  | true =>
    have hs := HB2.out rfl
    subst hs
    by_cases hl0 : L = []
    · subst hl0
      have HF : Hid (X = vecI 0 []) := Lib.hid (by rw [HT.out]; rfl)
      have HG : Hid (Y = noElS) := Lib.hid (by rw [HS.out]; rfl)
      clear HT HS HB HB2
      go_enter Try.func35, Try.ntmps35
      have hO := Own.nil w
      go_wp2_with (first
        | ((with_reducible refine wpl_alloc ?_); refine wpList_alloc_own rfl (by rfl) hO rfl (fun b => by simp only [Act.put, zA, zB, zC]; rfl) ?_; (refine nm 1 rfl ?_; clear hO; intro b1 u hO); simp only [zL, zK] at hO)
        | ((with_reducible refine wpl_box ?_); refine wpList_box_own rfl (by rfl) hO rfl rfl (fun b => by simp only [Act.put, zA, zB, zC]; rfl) ?_; (refine nm 0 rfl ?_; clear hO; intro b0 u hO); simp only [zL, zK] at hO)
        | ((with_reducible refine wpl_load ?_); refine wpList_load_box rfl (by rfl) hO rfl _ (by exact at0) (by rfl) (by simp only [Act.put, zA, zB, zC]; rfl) ?_)
        | fail)
      refine (CN _ hO.below).mono ?_
      rintro e u ⟨A, n, rfl, hb⟩
      replace hO := hO.call hb
      clear hb CN
      simp only [List.cons_append, List.nil_append, List.length_nil] at hO
      go_wp2_with (first
        | ((with_reducible refine wpl_store ?_); refine wpList_store_box rfl (by rfl) hO rfl _ (by exact at2) rfl (by rfl) (by rfl) (by rfl) (by rfl) (by rfl) ?_; clear hO; intro u hO; simp only [zC, zB] at hO)
        | fail)
      obtain ⟨F, hvo, hF⟩ := Own.vec0 u 0
      exact ret_box2 rfl hO rfl 2 at2 rfl rfl rfl ⟨_, _, by rw [HG.out]; rfl, by rw [HF.out]; exact hvo, (hO.call hF).pick [0] (by decide)⟩
    · have hlp : 0 < L.length := by cases L with | nil => exact absurd rfl hl0 | cons x l => exact Nat.succ_pos _
      have HF : Hid (X = vecI 2 [exI lg L]) := Lib.hid (by
        rw [HT.out]
        cases L with | nil => exact absurd rfl hl0 | cons x l => rfl)
      have HG : Hid (Y = ⟨#[]⟩) := Lib.hid (by
        rw [HS.out]
        cases L with | nil => exact absurd rfl hl0 | cons x l => rfl)
      have hl40 := HLN.out
      have qn : ((L.length : Int) == 0) = false := by simp; omega
      clear HT HS HB HB2 hl0
      go_enter Try.func35, Try.ntmps35
      have hO := Own.nil w
      go_wp2_with (first
        | ((with_reducible refine wpl_alloc ?_); refine wpList_alloc_own rfl (by rfl) hO rfl (fun b => by simp only [Act.put, zA, zB, zC]; rfl) ?_; (refine nm 1 rfl ?_; clear hO; intro b1 u hO); simp only [zL, zK] at hO)
        | ((with_reducible refine wpl_box ?_); refine wpList_box_own rfl (by rfl) hO rfl rfl (fun b => by simp only [Act.put, zA, zB, zC]; rfl) ?_; (refine nm 0 rfl ?_; clear hO; intro b0 u hO); simp only [zL, zK] at hO)
        | ((with_reducible refine wpl_load ?_); refine wpList_load_box rfl (by rfl) hO rfl _ (by exact at0) (by rfl) (by simp only [Act.put, zA, zB, zC]; rfl) ?_)
        | fail)
      refine (CN _ hO.below).mono ?_
      rintro e u ⟨A, n, rfl, hb⟩
      replace hO := hO.call hb
      clear hb CN
      simp only [List.cons_append, List.nil_append] at hO
      have HZ := Lib.hid (bst_one lg hlp)
      obtain ⟨x, hx⟩ : ∃ x, L[0] = x := ⟨_, rfl⟩
      obtain ⟨b, off, rfl, hb, d0, d1, d2⟩ := (hO.row_sl 0 rfl).it (Below.refl _ _) hlp hx
      rw [hx] at HZ
      clear hx
      obtain ⟨xn, xd, xt⟩ := x
      simp only [Nat.zero_mul, Nat.add_zero] at d0 d1 d2
      go_wp2_with (first
        | ((with_reducible refine wpl_alloc ?_); refine wpList_alloc_own rfl (by rfl) hO rfl (fun b => by simp only [Act.put, zA, zB, zC]; rfl) ?_; (refine nm 3 rfl ?_; clear hO; intro b3 u hO); simp only [zL, zK] at hO)
        | ((with_reducible refine wpl_store ?_); refine wpList_store_box rfl (by rfl) hO rfl _ (by exact at3) rfl (by rfl) (by rfl) (by rfl) (by rfl) (by rfl) ?_; clear hO; intro u hO; simp only [zC, zB] at hO)
        | fail)
      clear d0 d1 d2
      go_loopw [11, 12] (fun i cw u => ∃ (m : Nat), 1 ≤ m ∧ m ≤ L.length ∧ i = .int .i64 m ∧ Own w [row 83 3 (.slice (some ⟨b, off, none⟩) L.length n) L.length (itc L), box b0 29 [.int .i64 k, .slice Ai is.length ci, .slice Ap ps.length cp, .slice An ns.length cn, .slice Ac cs.length cc, .slice Al ls.length cl, .int .i64 c, .int .i64 e], box b1 29 [.int .i64 0, .slice none 0 0, .slice none 0 0, .slice none 0 0, .slice none 0 0, .slice none 0 0, .int .i64 0, .int .i64 0], box b3 83 (itc1 (bst lg L m))] u) (fun i _ _ => L.length - (intOf i).toNat)
      case atStart => exact ⟨1, Nat.le_refl _, hlp, rfl, by rw [HZ.out]; exact hO⟩
      case round =>
        clear hO
        obtain ⟨m, hm0, hm, rfl, hO⟩ := hrel
        by_cases hlt : m < L.length
        · have HFO := Lib.hid (bst_succ lg HV.out hm0 hlt)
          obtain ⟨y, hy⟩ : ∃ y, L[m] = y := ⟨_, rfl⟩
          obtain ⟨yn, yd, yt⟩ := y
          have CR := fun u (h : Sl u 3 (some ⟨b, off, none⟩) L.length (itc L)) => Sl.it3 h hlt hy
          rw [hy] at HFO
          clear hy
          obtain ⟨o, ho⟩ : ∃ o, bst lg L m = o := ⟨_, rfl⟩
          rw [ho] at hO HFO
          clear ho
          obtain ⟨on, od, ot⟩ := o
          simp only [itc1] at hO
          have CP := fun u => spec_cmp yn yd on od yt ot u
          obtain ⟨cv, hcv⟩ : ∃ z, cmpI yn yd yt on od ot = z := ⟨_, rfl⟩
          rw [hcv] at CP
          have hst : (if cmpT ⟨yn, yd, yt⟩ ⟨on, od, ot⟩ = 2 then zItm else stp lg ⟨on, od, ot⟩ ⟨yn, yd, yt⟩) = if cv = 2 then zItm else if (lg && decide (cv = 1)) || (!lg && decide (cv = -1)) then ⟨yn, yd, yt⟩ else ⟨on, od, ot⟩ := by rw [← hcv]; rfl
          rw [hst] at HFO
          clear hcv hst
          have i2 : (m : Int) < (L.length : Int) := by omega
          by_cases c2 : cv = 2
          · subst c2
            have HO : Hid (bst lg L (m + 1) = zItm) := Lib.hid (by rw [HFO.out, if_pos rfl])
            clear HFO
            go_wp2_with (first
              | ((with_reducible refine wpl_alloc ?_); refine wpList_alloc_own rfl (by rfl) hO rfl (fun b => by simp only [Act.put, zA, zB, zC]; rfl) ?_; (first | (refine nm 0 rfl ?_; clear hO; intro b0 u hO) | (refine nm 1 rfl ?_; clear hO; intro b1 u hO) | (refine nm 2 rfl ?_; clear hO; intro b2 u hO) | (refine nm 3 rfl ?_; clear hO; intro b3 u hO) | (refine nm 4 rfl ?_; clear hO; intro b4 u hO) | (refine nm 5 rfl ?_; clear hO; intro b5 u hO) | (refine nm 6 rfl ?_; clear hO; intro b6 u hO) | (refine nm 7 rfl ?_; clear hO; intro b7 u hO)); simp only [zL, zK] at hO)
              | ((with_reducible refine wpl_box ?_); refine wpList_box_own rfl (by rfl) hO rfl rfl (fun b => by simp only [Act.put, zA, zB, zC]; rfl) ?_; (first | (refine nm 0 rfl ?_; clear hO; intro b0 u hO) | (refine nm 1 rfl ?_; clear hO; intro b1 u hO) | (refine nm 2 rfl ?_; clear hO; intro b2 u hO) | (refine nm 3 rfl ?_; clear hO; intro b3 u hO) | (refine nm 4 rfl ?_; clear hO; intro b4 u hO) | (refine nm 5 rfl ?_; clear hO; intro b5 u hO) | (refine nm 6 rfl ?_; clear hO; intro b6 u hO) | (refine nm 7 rfl ?_; clear hO; intro b7 u hO)); simp only [zL, zK] at hO)
              | ((with_reducible refine wpl_load ?_); refine wpList_load_box rfl (by (first | rfl | (simp only [Region.wanted, yielded, *]; go_simp; done) | (simp [Region.wanted, yielded, *]; done) | fail)) hO rfl _ (by (first | exact at0 | exact at1 | exact at2 | exact at3 | exact at4 | exact at5 | exact at6 | exact at7)) (by rfl) (by simp only [Act.put, zA, zB, zC]; rfl) ?_)
              | ((with_reducible refine wpl_load ?_); refine wpList_load_field rfl (by (first | rfl | (simp only [Region.wanted, yielded, *]; go_simp; done) | (simp [Region.wanted, yielded, *]; done) | fail)) hO rfl _ (by (first | exact at0 | exact at1 | exact at2 | exact at3 | exact at4 | exact at5 | exact at6 | exact at7)) (by rfl) (by simp only [Act.put, zA, zB, zC]; rfl) ?_)
              | ((with_reducible refine wpl_store ?_); refine wpList_store_box rfl (by rfl) hO rfl _ (by (first | exact at0 | exact at1 | exact at2 | exact at3 | exact at4 | exact at5 | exact at6 | exact at7)) rfl (by rfl) (by rfl) (by rfl) (by rfl) (by rfl) ?_; clear hO; intro u hO; simp only [zC, zB] at hO)
              | ((with_reducible refine wpl_store ?_); refine wpList_store_field rfl (by rfl) hO rfl _ (by (first | exact at0 | exact at1 | exact at2 | exact at3 | exact at4 | exact at5 | exact at6 | exact at7)) (zM rfl) (by simp only [Act.eval, zJ, zF, zD, zE, zP]; rfl) (by rfl) (by rfl) (by rfl) ?_; clear hO; intro u hO; simp only [zC, zB] at hO)
              | fail)
            refine J.wp_region_c (n := 64) [0, 1, 2, 3, 4, 5, 6] [] (deps := fun i => [[], [], [0, 1], [0, 1, 2], [], [0, 1, 2, 3, 4], [0, 1, 2, 3, 4, 5]].getD i []) (fun _ _ _ => True) (r := 0) (lst := #[true, true, true, true, true, true, true]) (by kernel_rfl) (by kernel_rfl) (by kernel_rfl) rfl (by decide) (by kernel_rfl) hO ?_
            refine J.Chain.cons (by rfl) (by rfl) (fun M u hO K hK => by (simp only [wp_at_zero, wp_at_succ]; go_step; exact hK _ hO)) (by simp only [J.putL, zI, zG, zH, J.dstOf, zF, zD, zE, zS, zQ, zR, Act.put, zA, zB, zC]; rfl) ?_
            refine J.Chain.cons (by rfl) (by rfl) (fun M u hO K hK => by (simp only [wp_at_zero, wp_at_succ]; go_step; exact hK _ hO)) (by simp only [J.putL, zI, zG, zH, J.dstOf, zF, zD, zE, zS, zQ, zR, Act.put, zA, zB, zC]; rfl) ?_
            refine J.Chain.cons (by rfl) (by rfl) (fun M u hO K hK => by (simp only [wp_at_zero, wp_at_succ]; go_step; exact hK _ hO)) (by simp only [J.putL, zI, zG, zH, J.dstOf, zF, zD, zE, zS, zQ, zR, Act.put, zA, zB, zC]; rfl) ?_
            refine J.Chain.cons (by rfl) (by rfl) (fun M u hO K hK => by ((obtain ⟨e0, e1, e2⟩ := CR _ (hO.row_sl 0 rfl); simp only [wp_at_zero, wp_at_succ]; go_step; exact hK _ hO))) (by simp only [J.putL, zI, zG, zH, J.dstOf, zF, zD, zE, zS, zQ, zR, Act.put, zA, zB, zC]; rfl) ?_
            refine J.Chain.cons (by rfl) (by rfl) (fun M u hO K hK => by (exact wp_load_box hO rfl rfl _ (by exact at3) (by rfl) (by rfl) (hK _ hO))) (by simp only [J.putL, zI, zG, zH, J.dstOf, zF, zD, zE, zS, zQ, zR, Act.put, zA, zB, zC]; rfl) ?_
            refine J.Chain.cons (by rfl) (by rfl) (fun M u hO K hK => by (simp only [wp_at_zero, wp_at_succ]; go_step; refine (CP _).mono ?_; rintro e u ⟨rfl, hb⟩; exact hK _ (hO.step hb))) (by simp only [J.putL, zI, zG, zH, J.dstOf, zF, zD, zE, zS, zQ, zR, Act.put, zA, zB, zC]; rfl) ?_
            refine J.Chain.cons (by rfl) (by rfl) (fun M u hO K hK => by (simp only [wp_at_zero, wp_at_succ]; go_step; exact hK _ hO)) (by simp only [J.putL, zI, zG, zH, J.dstOf, zF, zD, zE, zS, zQ, zR, Act.put, zA, zB, zC]; rfl) ?_
            refine J.Chain.nil ⟨?_, ?_⟩
            · exact J.Each.nil
            intro vs u hO hF
            clear hF
            simp only [List.flatMap_cons, List.flatMap_nil, List.append_nil, zL, zK] at hO
            simp only [J.putL]
            clear vs
            refine wpAny_done (by kernel_rfl) ?_ _
            go_wp2_with (first
              | ((with_reducible refine wpl_store ?_); refine wpList_store_box rfl (by rfl) hO rfl _ (by exact at3) rfl (by rfl) (by rfl) (by rfl) (by rfl) (by rfl) ?_; clear hO; intro u hO; simp only [zC, zB] at hO)
              | fail)
            replace hO := hO.pick [0, 1, 2, 3] (by decide)
            simp only [zN, zO, zE, zD] at hO
            go_roundw
            case rel => exact ⟨m + 1, by omega, by omega, by go_num, by rw [HO.out]; exact hO⟩
            case measure => simp [intOf]; omega
          · have q2 : (cv == 2) = false := by simpa using c2
            rw [if_neg c2] at HFO
            clear c2
            cases lg with
            | true =>
              by_cases h1 : cv = 1
              · subst h1
                have HO : Hid (bst true L (m + 1) = ⟨yn, yd, yt⟩) := Lib.hid (by rw [HFO.out]; rfl)
                clear HFO
                go_wp2_with (first
                  | ((with_reducible refine wpl_alloc ?_); refine wpList_alloc_own rfl (by rfl) hO rfl (fun b => by simp only [Act.put, zA, zB, zC]; rfl) ?_; (first | (refine nm 0 rfl ?_; clear hO; intro b0 u hO) | (refine nm 1 rfl ?_; clear hO; intro b1 u hO) | (refine nm 2 rfl ?_; clear hO; intro b2 u hO) | (refine nm 3 rfl ?_; clear hO; intro b3 u hO) | (refine nm 4 rfl ?_; clear hO; intro b4 u hO) | (refine nm 5 rfl ?_; clear hO; intro b5 u hO) | (refine nm 6 rfl ?_; clear hO; intro b6 u hO) | (refine nm 7 rfl ?_; clear hO; intro b7 u hO)); simp only [zL, zK] at hO)
                  | ((with_reducible refine wpl_box ?_); refine wpList_box_own rfl (by rfl) hO rfl rfl (fun b => by simp only [Act.put, zA, zB, zC]; rfl) ?_; (first | (refine nm 0 rfl ?_; clear hO; intro b0 u hO) | (refine nm 1 rfl ?_; clear hO; intro b1 u hO) | (refine nm 2 rfl ?_; clear hO; intro b2 u hO) | (refine nm 3 rfl ?_; clear hO; intro b3 u hO) | (refine nm 4 rfl ?_; clear hO; intro b4 u hO) | (refine nm 5 rfl ?_; clear hO; intro b5 u hO) | (refine nm 6 rfl ?_; clear hO; intro b6 u hO) | (refine nm 7 rfl ?_; clear hO; intro b7 u hO)); simp only [zL, zK] at hO)
                  | ((with_reducible refine wpl_load ?_); refine wpList_load_box rfl (by (first | rfl | (simp only [Region.wanted, yielded, *]; go_simp; done) | (simp [Region.wanted, yielded, *]; done) | fail)) hO rfl _ (by (first | exact at0 | exact at1 | exact at2 | exact at3 | exact at4 | exact at5 | exact at6 | exact at7)) (by rfl) (by simp only [Act.put, zA, zB, zC]; rfl) ?_)
                  | ((with_reducible refine wpl_load ?_); refine wpList_load_field rfl (by (first | rfl | (simp only [Region.wanted, yielded, *]; go_simp; done) | (simp [Region.wanted, yielded, *]; done) | fail)) hO rfl _ (by (first | exact at0 | exact at1 | exact at2 | exact at3 | exact at4 | exact at5 | exact at6 | exact at7)) (by rfl) (by simp only [Act.put, zA, zB, zC]; rfl) ?_)
                  | ((with_reducible refine wpl_store ?_); refine wpList_store_box rfl (by rfl) hO rfl _ (by (first | exact at0 | exact at1 | exact at2 | exact at3 | exact at4 | exact at5 | exact at6 | exact at7)) rfl (by rfl) (by rfl) (by rfl) (by rfl) (by rfl) ?_; clear hO; intro u hO; simp only [zC, zB] at hO)
                  | ((with_reducible refine wpl_store ?_); refine wpList_store_field rfl (by rfl) hO rfl _ (by (first | exact at0 | exact at1 | exact at2 | exact at3 | exact at4 | exact at5 | exact at6 | exact at7)) (zM rfl) (by simp only [Act.eval, zJ, zF, zD, zE, zP]; rfl) (by rfl) (by rfl) (by rfl) ?_; clear hO; intro u hO; simp only [zC, zB] at hO)
                  | fail)
                refine J.wp_region_c (n := 64) [0, 1, 2, 3, 4, 5, 6] [] (deps := fun i => [[], [], [0, 1], [0, 1, 2], [], [0, 1, 2, 3, 4], [0, 1, 2, 3, 4, 5]].getD i []) (fun _ _ _ => True) (r := 0) (lst := #[true, true, true, true, true, true, true]) (by kernel_rfl) (by kernel_rfl) (by kernel_rfl) rfl (by decide) (by kernel_rfl) hO ?_
                refine J.Chain.cons (by rfl) (by rfl) (fun M u hO K hK => by (simp only [wp_at_zero, wp_at_succ]; go_step; exact hK _ hO)) (by simp only [J.putL, zI, zG, zH, J.dstOf, zF, zD, zE, zS, zQ, zR, Act.put, zA, zB, zC]; rfl) ?_
                refine J.Chain.cons (by rfl) (by rfl) (fun M u hO K hK => by (simp only [wp_at_zero, wp_at_succ]; go_step; exact hK _ hO)) (by simp only [J.putL, zI, zG, zH, J.dstOf, zF, zD, zE, zS, zQ, zR, Act.put, zA, zB, zC]; rfl) ?_
                refine J.Chain.cons (by rfl) (by rfl) (fun M u hO K hK => by (simp only [wp_at_zero, wp_at_succ]; go_step; exact hK _ hO)) (by simp only [J.putL, zI, zG, zH, J.dstOf, zF, zD, zE, zS, zQ, zR, Act.put, zA, zB, zC]; rfl) ?_
                refine J.Chain.cons (by rfl) (by rfl) (fun M u hO K hK => by ((obtain ⟨e0, e1, e2⟩ := CR _ (hO.row_sl 0 rfl); simp only [wp_at_zero, wp_at_succ]; go_step; exact hK _ hO))) (by simp only [J.putL, zI, zG, zH, J.dstOf, zF, zD, zE, zS, zQ, zR, Act.put, zA, zB, zC]; rfl) ?_
                refine J.Chain.cons (by rfl) (by rfl) (fun M u hO K hK => by (exact wp_load_box hO rfl rfl _ (by exact at3) (by rfl) (by rfl) (hK _ hO))) (by simp only [J.putL, zI, zG, zH, J.dstOf, zF, zD, zE, zS, zQ, zR, Act.put, zA, zB, zC]; rfl) ?_
                refine J.Chain.cons (by rfl) (by rfl) (fun M u hO K hK => by (simp only [wp_at_zero, wp_at_succ]; go_step; refine (CP _).mono ?_; rintro e u ⟨rfl, hb⟩; exact hK _ (hO.step hb))) (by simp only [J.putL, zI, zG, zH, J.dstOf, zF, zD, zE, zS, zQ, zR, Act.put, zA, zB, zC]; rfl) ?_
                refine J.Chain.cons (by rfl) (by rfl) (fun M u hO K hK => by (simp only [wp_at_zero, wp_at_succ]; go_step; exact hK _ hO)) (by simp only [J.putL, zI, zG, zH, J.dstOf, zF, zD, zE, zS, zQ, zR, Act.put, zA, zB, zC]; rfl) ?_
                refine J.Chain.nil ⟨?_, ?_⟩
                · exact J.Each.nil
                intro vs u hO hF
                clear hF
                simp only [List.flatMap_cons, List.flatMap_nil, List.append_nil, zL, zK] at hO
                simp only [J.putL]
                clear vs
                refine wpAny_done (by kernel_rfl) ?_ _
                go_upto_region 14 with (first
                  | ((with_reducible refine wpl_alloc ?_); refine wpList_alloc_own rfl (by rfl) hO rfl (fun b => by simp only [Act.put, zA, zB, zC]; rfl) ?_; (first | (refine nm 0 rfl ?_; clear hO; intro b0 u hO) | (refine nm 1 rfl ?_; clear hO; intro b1 u hO) | (refine nm 2 rfl ?_; clear hO; intro b2 u hO) | (refine nm 3 rfl ?_; clear hO; intro b3 u hO) | (refine nm 4 rfl ?_; clear hO; intro b4 u hO) | (refine nm 5 rfl ?_; clear hO; intro b5 u hO) | (refine nm 6 rfl ?_; clear hO; intro b6 u hO) | (refine nm 7 rfl ?_; clear hO; intro b7 u hO)); simp only [zL, zK] at hO)
                  | ((with_reducible refine wpl_box ?_); refine wpList_box_own rfl (by rfl) hO rfl rfl (fun b => by simp only [Act.put, zA, zB, zC]; rfl) ?_; (first | (refine nm 0 rfl ?_; clear hO; intro b0 u hO) | (refine nm 1 rfl ?_; clear hO; intro b1 u hO) | (refine nm 2 rfl ?_; clear hO; intro b2 u hO) | (refine nm 3 rfl ?_; clear hO; intro b3 u hO) | (refine nm 4 rfl ?_; clear hO; intro b4 u hO) | (refine nm 5 rfl ?_; clear hO; intro b5 u hO) | (refine nm 6 rfl ?_; clear hO; intro b6 u hO) | (refine nm 7 rfl ?_; clear hO; intro b7 u hO)); simp only [zL, zK] at hO)
                  | ((with_reducible refine wpl_load ?_); refine wpList_load_box rfl (by (first | rfl | (simp only [Region.wanted, yielded, *]; go_simp; done) | (simp [Region.wanted, yielded, *]; done) | fail)) hO rfl _ (by (first | exact at0 | exact at1 | exact at2 | exact at3 | exact at4 | exact at5 | exact at6 | exact at7)) (by rfl) (by simp only [Act.put, zA, zB, zC]; rfl) ?_)
                  | ((with_reducible refine wpl_load ?_); refine wpList_load_field rfl (by (first | rfl | (simp only [Region.wanted, yielded, *]; go_simp; done) | (simp [Region.wanted, yielded, *]; done) | fail)) hO rfl _ (by (first | exact at0 | exact at1 | exact at2 | exact at3 | exact at4 | exact at5 | exact at6 | exact at7)) (by rfl) (by simp only [Act.put, zA, zB, zC]; rfl) ?_)
                  | ((with_reducible refine wpl_store ?_); refine wpList_store_box rfl (by rfl) hO rfl _ (by (first | exact at0 | exact at1 | exact at2 | exact at3 | exact at4 | exact at5 | exact at6 | exact at7)) rfl (by rfl) (by rfl) (by rfl) (by rfl) (by rfl) ?_; clear hO; intro u hO; simp only [zC, zB] at hO)
                  | ((with_reducible refine wpl_store ?_); refine wpList_store_field rfl (by rfl) hO rfl _ (by (first | exact at0 | exact at1 | exact at2 | exact at3 | exact at4 | exact at5 | exact at6 | exact at7)) (zM rfl) (by simp only [Act.eval, zJ, zF, zD, zE, zP]; rfl) (by rfl) (by rfl) (by rfl) ?_; clear hO; intro u hO; simp only [zC, zB] at hO)
                  | fail)
                obtain ⟨e0, e1, e2⟩ := CR _ (hO.row_sl 0 rfl)
                go_wp2_with (first
                  | ((with_reducible refine wpl_store ?_); refine wpList_store_box rfl (by rfl) hO rfl _ (by exact at3) rfl (by rfl) (by rfl) (by rfl) (by rfl) (by rfl) ?_; clear hO; intro u hO; simp only [zC, zB] at hO)
                  | fail)
                clear e0 e1 e2
                replace hO := hO.pick [0, 1, 2, 3] (by decide)
                simp only [zN, zO, zE, zD] at hO
                go_roundw
                case rel => exact ⟨m + 1, by omega, by omega, by go_num, by rw [HO.out]; exact hO⟩
                case measure => simp [intOf]; omega
              · have q1 : (cv == 1) = false := by simpa using h1
                have HO : Hid (bst true L (m + 1) = ⟨on, od, ot⟩) := Lib.hid (by rw [HFO.out]; simp [h1])
                clear HFO h1
                by_cases h3 : cv = -1
                · subst h3
                  go_wp2_with (first
                    | ((with_reducible refine wpl_alloc ?_); refine wpList_alloc_own rfl (by rfl) hO rfl (fun b => by simp only [Act.put, zA, zB, zC]; rfl) ?_; (first | (refine nm 0 rfl ?_; clear hO; intro b0 u hO) | (refine nm 1 rfl ?_; clear hO; intro b1 u hO) | (refine nm 2 rfl ?_; clear hO; intro b2 u hO) | (refine nm 3 rfl ?_; clear hO; intro b3 u hO) | (refine nm 4 rfl ?_; clear hO; intro b4 u hO) | (refine nm 5 rfl ?_; clear hO; intro b5 u hO) | (refine nm 6 rfl ?_; clear hO; intro b6 u hO) | (refine nm 7 rfl ?_; clear hO; intro b7 u hO)); simp only [zL, zK] at hO)
                    | ((with_reducible refine wpl_box ?_); refine wpList_box_own rfl (by rfl) hO rfl rfl (fun b => by simp only [Act.put, zA, zB, zC]; rfl) ?_; (first | (refine nm 0 rfl ?_; clear hO; intro b0 u hO) | (refine nm 1 rfl ?_; clear hO; intro b1 u hO) | (refine nm 2 rfl ?_; clear hO; intro b2 u hO) | (refine nm 3 rfl ?_; clear hO; intro b3 u hO) | (refine nm 4 rfl ?_; clear hO; intro b4 u hO) | (refine nm 5 rfl ?_; clear hO; intro b5 u hO) | (refine nm 6 rfl ?_; clear hO; intro b6 u hO) | (refine nm 7 rfl ?_; clear hO; intro b7 u hO)); simp only [zL, zK] at hO)
                    | ((with_reducible refine wpl_load ?_); refine wpList_load_box rfl (by (first | rfl | (simp only [Region.wanted, yielded, *]; go_simp; done) | (simp [Region.wanted, yielded, *]; done) | fail)) hO rfl _ (by (first | exact at0 | exact at1 | exact at2 | exact at3 | exact at4 | exact at5 | exact at6 | exact at7)) (by rfl) (by simp only [Act.put, zA, zB, zC]; rfl) ?_)
                    | ((with_reducible refine wpl_load ?_); refine wpList_load_field rfl (by (first | rfl | (simp only [Region.wanted, yielded, *]; go_simp; done) | (simp [Region.wanted, yielded, *]; done) | fail)) hO rfl _ (by (first | exact at0 | exact at1 | exact at2 | exact at3 | exact at4 | exact at5 | exact at6 | exact at7)) (by rfl) (by simp only [Act.put, zA, zB, zC]; rfl) ?_)
                    | ((with_reducible refine wpl_store ?_); refine wpList_store_box rfl (by rfl) hO rfl _ (by (first | exact at0 | exact at1 | exact at2 | exact at3 | exact at4 | exact at5 | exact at6 | exact at7)) rfl (by rfl) (by rfl) (by rfl) (by rfl) (by rfl) ?_; clear hO; intro u hO; simp only [zC, zB] at hO)
                    | ((with_reducible refine wpl_store ?_); refine wpList_store_field rfl (by rfl) hO rfl _ (by (first | exact at0 | exact at1 | exact at2 | exact at3 | exact at4 | exact at5 | exact at6 | exact at7)) (zM rfl) (by simp only [Act.eval, zJ, zF, zD, zE, zP]; rfl) (by rfl) (by rfl) (by rfl) ?_; clear hO; intro u hO; simp only [zC, zB] at hO)
                    | fail)
                  refine J.wp_region_c (n := 64) [0, 1, 2, 3, 4, 5, 6] [] (deps := fun i => [[], [], [0, 1], [0, 1, 2], [], [0, 1, 2, 3, 4], [0, 1, 2, 3, 4, 5]].getD i []) (fun _ _ _ => True) (r := 0) (lst := #[true, true, true, true, true, true, true]) (by kernel_rfl) (by kernel_rfl) (by kernel_rfl) rfl (by decide) (by kernel_rfl) hO ?_
                  refine J.Chain.cons (by rfl) (by rfl) (fun M u hO K hK => by (simp only [wp_at_zero, wp_at_succ]; go_step; exact hK _ hO)) (by simp only [J.putL, zI, zG, zH, J.dstOf, zF, zD, zE, zS, zQ, zR, Act.put, zA, zB, zC]; rfl) ?_
                  refine J.Chain.cons (by rfl) (by rfl) (fun M u hO K hK => by (simp only [wp_at_zero, wp_at_succ]; go_step; exact hK _ hO)) (by simp only [J.putL, zI, zG, zH, J.dstOf, zF, zD, zE, zS, zQ, zR, Act.put, zA, zB, zC]; rfl) ?_
                  refine J.Chain.cons (by rfl) (by rfl) (fun M u hO K hK => by (simp only [wp_at_zero, wp_at_succ]; go_step; exact hK _ hO)) (by simp only [J.putL, zI, zG, zH, J.dstOf, zF, zD, zE, zS, zQ, zR, Act.put, zA, zB, zC]; rfl) ?_
                  refine J.Chain.cons (by rfl) (by rfl) (fun M u hO K hK => by ((obtain ⟨e0, e1, e2⟩ := CR _ (hO.row_sl 0 rfl); simp only [wp_at_zero, wp_at_succ]; go_step; exact hK _ hO))) (by simp only [J.putL, zI, zG, zH, J.dstOf, zF, zD, zE, zS, zQ, zR, Act.put, zA, zB, zC]; rfl) ?_
                  refine J.Chain.cons (by rfl) (by rfl) (fun M u hO K hK => by (exact wp_load_box hO rfl rfl _ (by exact at3) (by rfl) (by rfl) (hK _ hO))) (by simp only [J.putL, zI, zG, zH, J.dstOf, zF, zD, zE, zS, zQ, zR, Act.put, zA, zB, zC]; rfl) ?_
                  refine J.Chain.cons (by rfl) (by rfl) (fun M u hO K hK => by (simp only [wp_at_zero, wp_at_succ]; go_step; refine (CP _).mono ?_; rintro e u ⟨rfl, hb⟩; exact hK _ (hO.step hb))) (by simp only [J.putL, zI, zG, zH, J.dstOf, zF, zD, zE, zS, zQ, zR, Act.put, zA, zB, zC]; rfl) ?_
                  refine J.Chain.cons (by rfl) (by rfl) (fun M u hO K hK => by (simp only [wp_at_zero, wp_at_succ]; go_step; exact hK _ hO)) (by simp only [J.putL, zI, zG, zH, J.dstOf, zF, zD, zE, zS, zQ, zR, Act.put, zA, zB, zC]; rfl) ?_
                  refine J.Chain.nil ⟨?_, ?_⟩
                  · exact J.Each.nil
                  intro vs u hO hF
                  clear hF
                  simp only [List.flatMap_cons, List.flatMap_nil, List.append_nil, zL, zK] at hO
                  simp only [J.putL]
                  clear vs
                  refine wpAny_done (by kernel_rfl) ?_ _
                  go_wp2_with (first
                    | ((with_reducible refine wpl_alloc ?_); refine wpList_alloc_own rfl (by rfl) hO rfl (fun b => by simp only [Act.put, zA, zB, zC]; rfl) ?_; (first | (refine nm 0 rfl ?_; clear hO; intro b0 u hO) | (refine nm 1 rfl ?_; clear hO; intro b1 u hO) | (refine nm 2 rfl ?_; clear hO; intro b2 u hO) | (refine nm 3 rfl ?_; clear hO; intro b3 u hO) | (refine nm 4 rfl ?_; clear hO; intro b4 u hO) | (refine nm 5 rfl ?_; clear hO; intro b5 u hO) | (refine nm 6 rfl ?_; clear hO; intro b6 u hO) | (refine nm 7 rfl ?_; clear hO; intro b7 u hO)); simp only [zL, zK] at hO)
                    | ((with_reducible refine wpl_box ?_); refine wpList_box_own rfl (by rfl) hO rfl rfl (fun b => by simp only [Act.put, zA, zB, zC]; rfl) ?_; (first | (refine nm 0 rfl ?_; clear hO; intro b0 u hO) | (refine nm 1 rfl ?_; clear hO; intro b1 u hO) | (refine nm 2 rfl ?_; clear hO; intro b2 u hO) | (refine nm 3 rfl ?_; clear hO; intro b3 u hO) | (refine nm 4 rfl ?_; clear hO; intro b4 u hO) | (refine nm 5 rfl ?_; clear hO; intro b5 u hO) | (refine nm 6 rfl ?_; clear hO; intro b6 u hO) | (refine nm 7 rfl ?_; clear hO; intro b7 u hO)); simp only [zL, zK] at hO)
                    | ((with_reducible refine wpl_load ?_); refine wpList_load_box rfl (by (first | rfl | (simp only [Region.wanted, yielded, *]; go_simp; done) | (simp [Region.wanted, yielded, *]; done) | fail)) hO rfl _ (by (first | exact at0 | exact at1 | exact at2 | exact at3 | exact at4 | exact at5 | exact at6 | exact at7)) (by rfl) (by simp only [Act.put, zA, zB, zC]; rfl) ?_)
                    | ((with_reducible refine wpl_load ?_); refine wpList_load_field rfl (by (first | rfl | (simp only [Region.wanted, yielded, *]; go_simp; done) | (simp [Region.wanted, yielded, *]; done) | fail)) hO rfl _ (by (first | exact at0 | exact at1 | exact at2 | exact at3 | exact at4 | exact at5 | exact at6 | exact at7)) (by rfl) (by simp only [Act.put, zA, zB, zC]; rfl) ?_)
                    | ((with_reducible refine wpl_store ?_); refine wpList_store_box rfl (by rfl) hO rfl _ (by (first | exact at0 | exact at1 | exact at2 | exact at3 | exact at4 | exact at5 | exact at6 | exact at7)) rfl (by rfl) (by rfl) (by rfl) (by rfl) (by rfl) ?_; clear hO; intro u hO; simp only [zC, zB] at hO)
                    | ((with_reducible refine wpl_store ?_); refine wpList_store_field rfl (by rfl) hO rfl _ (by (first | exact at0 | exact at1 | exact at2 | exact at3 | exact at4 | exact at5 | exact at6 | exact at7)) (zM rfl) (by simp only [Act.eval, zJ, zF, zD, zE, zP]; rfl) (by rfl) (by rfl) (by rfl) ?_; clear hO; intro u hO; simp only [zC, zB] at hO)
                    | fail)
                  replace hO := hO.pick [0, 1, 2, 3] (by decide)
                  simp only [zN, zO, zE, zD] at hO
                  go_roundw
                  case rel => exact ⟨m + 1, by omega, by omega, by go_num, by rw [HO.out]; exact hO⟩
                  case measure => simp [intOf]; omega
                · have q3 : (cv == -1) = false := by simpa using h3
                  clear h3
                  go_wp2_with (first
                    | ((with_reducible refine wpl_alloc ?_); refine wpList_alloc_own rfl (by rfl) hO rfl (fun b => by simp only [Act.put, zA, zB, zC]; rfl) ?_; (first | (refine nm 0 rfl ?_; clear hO; intro b0 u hO) | (refine nm 1 rfl ?_; clear hO; intro b1 u hO) | (refine nm 2 rfl ?_; clear hO; intro b2 u hO) | (refine nm 3 rfl ?_; clear hO; intro b3 u hO) | (refine nm 4 rfl ?_; clear hO; intro b4 u hO) | (refine nm 5 rfl ?_; clear hO; intro b5 u hO) | (refine nm 6 rfl ?_; clear hO; intro b6 u hO) | (refine nm 7 rfl ?_; clear hO; intro b7 u hO)); simp only [zL, zK] at hO)
                    | ((with_reducible refine wpl_box ?_); refine wpList_box_own rfl (by rfl) hO rfl rfl (fun b => by simp only [Act.put, zA, zB, zC]; rfl) ?_; (first | (refine nm 0 rfl ?_; clear hO; intro b0 u hO) | (refine nm 1 rfl ?_; clear hO; intro b1 u hO) | (refine nm 2 rfl ?_; clear hO; intro b2 u hO) | (refine nm 3 rfl ?_; clear hO; intro b3 u hO) | (refine nm 4 rfl ?_; clear hO; intro b4 u hO) | (refine nm 5 rfl ?_; clear hO; intro b5 u hO) | (refine nm 6 rfl ?_; clear hO; intro b6 u hO) | (refine nm 7 rfl ?_; clear hO; intro b7 u hO)); simp only [zL, zK] at hO)
                    | ((with_reducible refine wpl_load ?_); refine wpList_load_box rfl (by (first | rfl | (simp only [Region.wanted, yielded, *]; go_simp; done) | (simp [Region.wanted, yielded, *]; done) | fail)) hO rfl _ (by (first | exact at0 | exact at1 | exact at2 | exact at3 | exact at4 | exact at5 | exact at6 | exact at7)) (by rfl) (by simp only [Act.put, zA, zB, zC]; rfl) ?_)
                    | ((with_reducible refine wpl_load ?_); refine wpList_load_field rfl (by (first | rfl | (simp only [Region.wanted, yielded, *]; go_simp; done) | (simp [Region.wanted, yielded, *]; done) | fail)) hO rfl _ (by (first | exact at0 | exact at1 | exact at2 | exact at3 | exact at4 | exact at5 | exact at6 | exact at7)) (by rfl) (by simp only [Act.put, zA, zB, zC]; rfl) ?_)
                    | ((with_reducible refine wpl_store ?_); refine wpList_store_box rfl (by rfl) hO rfl _ (by (first | exact at0 | exact at1 | exact at2 | exact at3 | exact at4 | exact at5 | exact at6 | exact at7)) rfl (by rfl) (by rfl) (by rfl) (by rfl) (by rfl) ?_; clear hO; intro u hO; simp only [zC, zB] at hO)
                    | ((with_reducible refine wpl_store ?_); refine wpList_store_field rfl (by rfl) hO rfl _ (by (first | exact at0 | exact at1 | exact at2 | exact at3 | exact at4 | exact at5 | exact at6 | exact at7)) (zM rfl) (by simp only [Act.eval, zJ, zF, zD, zE, zP]; rfl) (by rfl) (by rfl) (by rfl) ?_; clear hO; intro u hO; simp only [zC, zB] at hO)
                    | fail)
                  refine J.wp_region_c (n := 64) [0, 1, 2, 3, 4, 5, 6] [] (deps := fun i => [[], [], [0, 1], [0, 1, 2], [], [0, 1, 2, 3, 4], [0, 1, 2, 3, 4, 5]].getD i []) (fun _ _ _ => True) (r := 0) (lst := #[true, true, true, true, true, true, true]) (by kernel_rfl) (by kernel_rfl) (by kernel_rfl) rfl (by decide) (by kernel_rfl) hO ?_
                  refine J.Chain.cons (by rfl) (by rfl) (fun M u hO K hK => by (simp only [wp_at_zero, wp_at_succ]; go_step; exact hK _ hO)) (by simp only [J.putL, zI, zG, zH, J.dstOf, zF, zD, zE, zS, zQ, zR, Act.put, zA, zB, zC]; rfl) ?_
                  refine J.Chain.cons (by rfl) (by rfl) (fun M u hO K hK => by (simp only [wp_at_zero, wp_at_succ]; go_step; exact hK _ hO)) (by simp only [J.putL, zI, zG, zH, J.dstOf, zF, zD, zE, zS, zQ, zR, Act.put, zA, zB, zC]; rfl) ?_
                  refine J.Chain.cons (by rfl) (by rfl) (fun M u hO K hK => by (simp only [wp_at_zero, wp_at_succ]; go_step; exact hK _ hO)) (by simp only [J.putL, zI, zG, zH, J.dstOf, zF, zD, zE, zS, zQ, zR, Act.put, zA, zB, zC]; rfl) ?_
                  refine J.Chain.cons (by rfl) (by rfl) (fun M u hO K hK => by ((obtain ⟨e0, e1, e2⟩ := CR _ (hO.row_sl 0 rfl); simp only [wp_at_zero, wp_at_succ]; go_step; exact hK _ hO))) (by simp only [J.putL, zI, zG, zH, J.dstOf, zF, zD, zE, zS, zQ, zR, Act.put, zA, zB, zC]; rfl) ?_
                  refine J.Chain.cons (by rfl) (by rfl) (fun M u hO K hK => by (exact wp_load_box hO rfl rfl _ (by exact at3) (by rfl) (by rfl) (hK _ hO))) (by simp only [J.putL, zI, zG, zH, J.dstOf, zF, zD, zE, zS, zQ, zR, Act.put, zA, zB, zC]; rfl) ?_
                  refine J.Chain.cons (by rfl) (by rfl) (fun M u hO K hK => by (simp only [wp_at_zero, wp_at_succ]; go_step; refine (CP _).mono ?_; rintro e u ⟨rfl, hb⟩; exact hK _ (hO.step hb))) (by simp only [J.putL, zI, zG, zH, J.dstOf, zF, zD, zE, zS, zQ, zR, Act.put, zA, zB, zC]; rfl) ?_
                  refine J.Chain.cons (by rfl) (by rfl) (fun M u hO K hK => by (simp only [wp_at_zero, wp_at_succ]; go_step; exact hK _ hO)) (by simp only [J.putL, zI, zG, zH, J.dstOf, zF, zD, zE, zS, zQ, zR, Act.put, zA, zB, zC]; rfl) ?_
                  refine J.Chain.nil ⟨?_, ?_⟩
                  · exact J.Each.nil
                  intro vs u hO hF
                  clear hF
                  simp only [List.flatMap_cons, List.flatMap_nil, List.append_nil, zL, zK] at hO
                  simp only [J.putL]
                  clear vs
                  refine wpAny_done (by kernel_rfl) ?_ _
                  go_wp2_with (first
                    | ((with_reducible refine wpl_alloc ?_); refine wpList_alloc_own rfl (by rfl) hO rfl (fun b => by simp only [Act.put, zA, zB, zC]; rfl) ?_; (first | (refine nm 0 rfl ?_; clear hO; intro b0 u hO) | (refine nm 1 rfl ?_; clear hO; intro b1 u hO) | (refine nm 2 rfl ?_; clear hO; intro b2 u hO) | (refine nm 3 rfl ?_; clear hO; intro b3 u hO) | (refine nm 4 rfl ?_; clear hO; intro b4 u hO) | (refine nm 5 rfl ?_; clear hO; intro b5 u hO) | (refine nm 6 rfl ?_; clear hO; intro b6 u hO) | (refine nm 7 rfl ?_; clear hO; intro b7 u hO)); simp only [zL, zK] at hO)
                    | ((with_reducible refine wpl_box ?_); refine wpList_box_own rfl (by rfl) hO rfl rfl (fun b => by simp only [Act.put, zA, zB, zC]; rfl) ?_; (first | (refine nm 0 rfl ?_; clear hO; intro b0 u hO) | (refine nm 1 rfl ?_; clear hO; intro b1 u hO) | (refine nm 2 rfl ?_; clear hO; intro b2 u hO) | (refine nm 3 rfl ?_; clear hO; intro b3 u hO) | (refine nm 4 rfl ?_; clear hO; intro b4 u hO) | (refine nm 5 rfl ?_; clear hO; intro b5 u hO) | (refine nm 6 rfl ?_; clear hO; intro b6 u hO) | (refine nm 7 rfl ?_; clear hO; intro b7 u hO)); simp only [zL, zK] at hO)
                    | ((with_reducible refine wpl_load ?_); refine wpList_load_box rfl (by (first | rfl | (simp only [Region.wanted, yielded, *]; go_simp; done) | (simp [Region.wanted, yielded, *]; done) | fail)) hO rfl _ (by (first | exact at0 | exact at1 | exact at2 | exact at3 | exact at4 | exact at5 | exact at6 | exact at7)) (by rfl) (by simp only [Act.put, zA, zB, zC]; rfl) ?_)
                    | ((with_reducible refine wpl_load ?_); refine wpList_load_field rfl (by (first | rfl | (simp only [Region.wanted, yielded, *]; go_simp; done) | (simp [Region.wanted, yielded, *]; done) | fail)) hO rfl _ (by (first | exact at0 | exact at1 | exact at2 | exact at3 | exact at4 | exact at5 | exact at6 | exact at7)) (by rfl) (by simp only [Act.put, zA, zB, zC]; rfl) ?_)
                    | ((with_reducible refine wpl_store ?_); refine wpList_store_box rfl (by rfl) hO rfl _ (by (first | exact at0 | exact at1 | exact at2 | exact at3 | exact at4 | exact at5 | exact at6 | exact at7)) rfl (by rfl) (by rfl) (by rfl) (by rfl) (by rfl) ?_; clear hO; intro u hO; simp only [zC, zB] at hO)
                    | ((with_reducible refine wpl_store ?_); refine wpList_store_field rfl (by rfl) hO rfl _ (by (first | exact at0 | exact at1 | exact at2 | exact at3 | exact at4 | exact at5 | exact at6 | exact at7)) (zM rfl) (by simp only [Act.eval, zJ, zF, zD, zE, zP]; rfl) (by rfl) (by rfl) (by rfl) ?_; clear hO; intro u hO; simp only [zC, zB] at hO)
                    | fail)
                  replace hO := hO.pick [0, 1, 2, 3] (by decide)
                  simp only [zN, zO, zE, zD] at hO
                  go_roundw
                  case rel => exact ⟨m + 1, by omega, by omega, by go_num, by rw [HO.out]; exact hO⟩
                  case measure => simp [intOf]; omega
            | false =>
              by_cases h1 : cv = -1
              · subst h1
                have HO : Hid (bst false L (m + 1) = ⟨yn, yd, yt⟩) := Lib.hid (by rw [HFO.out]; rfl)
                clear HFO
                go_wp2_with (first
                  | ((with_reducible refine wpl_alloc ?_); refine wpList_alloc_own rfl (by rfl) hO rfl (fun b => by simp only [Act.put, zA, zB, zC]; rfl) ?_; (first | (refine nm 0 rfl ?_; clear hO; intro b0 u hO) | (refine nm 1 rfl ?_; clear hO; intro b1 u hO) | (refine nm 2 rfl ?_; clear hO; intro b2 u hO) | (refine nm 3 rfl ?_; clear hO; intro b3 u hO) | (refine nm 4 rfl ?_; clear hO; intro b4 u hO) | (refine nm 5 rfl ?_; clear hO; intro b5 u hO) | (refine nm 6 rfl ?_; clear hO; intro b6 u hO) | (refine nm 7 rfl ?_; clear hO; intro b7 u hO)); simp only [zL, zK] at hO)
                  | ((with_reducible refine wpl_box ?_); refine wpList_box_own rfl (by rfl) hO rfl rfl (fun b => by simp only [Act.put, zA, zB, zC]; rfl) ?_; (first | (refine nm 0 rfl ?_; clear hO; intro b0 u hO) | (refine nm 1 rfl ?_; clear hO; intro b1 u hO) | (refine nm 2 rfl ?_; clear hO; intro b2 u hO) | (refine nm 3 rfl ?_; clear hO; intro b3 u hO) | (refine nm 4 rfl ?_; clear hO; intro b4 u hO) | (refine nm 5 rfl ?_; clear hO; intro b5 u hO) | (refine nm 6 rfl ?_; clear hO; intro b6 u hO) | (refine nm 7 rfl ?_; clear hO; intro b7 u hO)); simp only [zL, zK] at hO)
                  | ((with_reducible refine wpl_load ?_); refine wpList_load_box rfl (by (first | rfl | (simp only [Region.wanted, yielded, *]; go_simp; done) | (simp [Region.wanted, yielded, *]; done) | fail)) hO rfl _ (by (first | exact at0 | exact at1 | exact at2 | exact at3 | exact at4 | exact at5 | exact at6 | exact at7)) (by rfl) (by simp only [Act.put, zA, zB, zC]; rfl) ?_)
                  | ((with_reducible refine wpl_load ?_); refine wpList_load_field rfl (by (first | rfl | (simp only [Region.wanted, yielded, *]; go_simp; done) | (simp [Region.wanted, yielded, *]; done) | fail)) hO rfl _ (by (first | exact at0 | exact at1 | exact at2 | exact at3 | exact at4 | exact at5 | exact at6 | exact at7)) (by rfl) (by simp only [Act.put, zA, zB, zC]; rfl) ?_)
                  | ((with_reducible refine wpl_store ?_); refine wpList_store_box rfl (by rfl) hO rfl _ (by (first | exact at0 | exact at1 | exact at2 | exact at3 | exact at4 | exact at5 | exact at6 | exact at7)) rfl (by rfl) (by rfl) (by rfl) (by rfl) (by rfl) ?_; clear hO; intro u hO; simp only [zC, zB] at hO)
                  | ((with_reducible refine wpl_store ?_); refine wpList_store_field rfl (by rfl) hO rfl _ (by (first | exact at0 | exact at1 | exact at2 | exact at3 | exact at4 | exact at5 | exact at6 | exact at7)) (zM rfl) (by simp only [Act.eval, zJ, zF, zD, zE, zP]; rfl) (by rfl) (by rfl) (by rfl) ?_; clear hO; intro u hO; simp only [zC, zB] at hO)
                  | fail)
                refine J.wp_region_c (n := 64) [0, 1, 2, 3, 4, 5, 6] [] (deps := fun i => [[], [], [0, 1], [0, 1, 2], [], [0, 1, 2, 3, 4], [0, 1, 2, 3, 4, 5]].getD i []) (fun _ _ _ => True) (r := 0) (lst := #[true, true, true, true, true, true, true]) (by kernel_rfl) (by kernel_rfl) (by kernel_rfl) rfl (by decide) (by kernel_rfl) hO ?_
                refine J.Chain.cons (by rfl) (by rfl) (fun M u hO K hK => by (simp only [wp_at_zero, wp_at_succ]; go_step; exact hK _ hO)) (by simp only [J.putL, zI, zG, zH, J.dstOf, zF, zD, zE, zS, zQ, zR, Act.put, zA, zB, zC]; rfl) ?_
                refine J.Chain.cons (by rfl) (by rfl) (fun M u hO K hK => by (simp only [wp_at_zero, wp_at_succ]; go_step; exact hK _ hO)) (by simp only [J.putL, zI, zG, zH, J.dstOf, zF, zD, zE, zS, zQ, zR, Act.put, zA, zB, zC]; rfl) ?_
                refine J.Chain.cons (by rfl) (by rfl) (fun M u hO K hK => by (simp only [wp_at_zero, wp_at_succ]; go_step; exact hK _ hO)) (by simp only [J.putL, zI, zG, zH, J.dstOf, zF, zD, zE, zS, zQ, zR, Act.put, zA, zB, zC]; rfl) ?_
                refine J.Chain.cons (by rfl) (by rfl) (fun M u hO K hK => by ((obtain ⟨e0, e1, e2⟩ := CR _ (hO.row_sl 0 rfl); simp only [wp_at_zero, wp_at_succ]; go_step; exact hK _ hO))) (by simp only [J.putL, zI, zG, zH, J.dstOf, zF, zD, zE, zS, zQ, zR, Act.put, zA, zB, zC]; rfl) ?_
                refine J.Chain.cons (by rfl) (by rfl) (fun M u hO K hK => by (exact wp_load_box hO rfl rfl _ (by exact at3) (by rfl) (by rfl) (hK _ hO))) (by simp only [J.putL, zI, zG, zH, J.dstOf, zF, zD, zE, zS, zQ, zR, Act.put, zA, zB, zC]; rfl) ?_
                refine J.Chain.cons (by rfl) (by rfl) (fun M u hO K hK => by (simp only [wp_at_zero, wp_at_succ]; go_step; refine (CP _).mono ?_; rintro e u ⟨rfl, hb⟩; exact hK _ (hO.step hb))) (by simp only [J.putL, zI, zG, zH, J.dstOf, zF, zD, zE, zS, zQ, zR, Act.put, zA, zB, zC]; rfl) ?_
                refine J.Chain.cons (by rfl) (by rfl) (fun M u hO K hK => by (simp only [wp_at_zero, wp_at_succ]; go_step; exact hK _ hO)) (by simp only [J.putL, zI, zG, zH, J.dstOf, zF, zD, zE, zS, zQ, zR, Act.put, zA, zB, zC]; rfl) ?_
                refine J.Chain.nil ⟨?_, ?_⟩
                · exact J.Each.nil
                intro vs u hO hF
                clear hF
                simp only [List.flatMap_cons, List.flatMap_nil, List.append_nil, zL, zK] at hO
                simp only [J.putL]
                clear vs
                refine wpAny_done (by kernel_rfl) ?_ _
                go_upto_region 14 with (first
                  | ((with_reducible refine wpl_alloc ?_); refine wpList_alloc_own rfl (by rfl) hO rfl (fun b => by simp only [Act.put, zA, zB, zC]; rfl) ?_; (first | (refine nm 0 rfl ?_; clear hO; intro b0 u hO) | (refine nm 1 rfl ?_; clear hO; intro b1 u hO) | (refine nm 2 rfl ?_; clear hO; intro b2 u hO) | (refine nm 3 rfl ?_; clear hO; intro b3 u hO) | (refine nm 4 rfl ?_; clear hO; intro b4 u hO) | (refine nm 5 rfl ?_; clear hO; intro b5 u hO) | (refine nm 6 rfl ?_; clear hO; intro b6 u hO) | (refine nm 7 rfl ?_; clear hO; intro b7 u hO)); simp only [zL, zK] at hO)
                  | ((with_reducible refine wpl_box ?_); refine wpList_box_own rfl (by rfl) hO rfl rfl (fun b => by simp only [Act.put, zA, zB, zC]; rfl) ?_; (first | (refine nm 0 rfl ?_; clear hO; intro b0 u hO) | (refine nm 1 rfl ?_; clear hO; intro b1 u hO) | (refine nm 2 rfl ?_; clear hO; intro b2 u hO) | (refine nm 3 rfl ?_; clear hO; intro b3 u hO) | (refine nm 4 rfl ?_; clear hO; intro b4 u hO) | (refine nm 5 rfl ?_; clear hO; intro b5 u hO) | (refine nm 6 rfl ?_; clear hO; intro b6 u hO) | (refine nm 7 rfl ?_; clear hO; intro b7 u hO)); simp only [zL, zK] at hO)
                  | ((with_reducible refine wpl_load ?_); refine wpList_load_box rfl (by (first | rfl | (simp only [Region.wanted, yielded, *]; go_simp; done) | (simp [Region.wanted, yielded, *]; done) | fail)) hO rfl _ (by (first | exact at0 | exact at1 | exact at2 | exact at3 | exact at4 | exact at5 | exact at6 | exact at7)) (by rfl) (by simp only [Act.put, zA, zB, zC]; rfl) ?_)
                  | ((with_reducible refine wpl_load ?_); refine wpList_load_field rfl (by (first | rfl | (simp only [Region.wanted, yielded, *]; go_simp; done) | (simp [Region.wanted, yielded, *]; done) | fail)) hO rfl _ (by (first | exact at0 | exact at1 | exact at2 | exact at3 | exact at4 | exact at5 | exact at6 | exact at7)) (by rfl) (by simp only [Act.put, zA, zB, zC]; rfl) ?_)
                  | ((with_reducible refine wpl_store ?_); refine wpList_store_box rfl (by rfl) hO rfl _ (by (first | exact at0 | exact at1 | exact at2 | exact at3 | exact at4 | exact at5 | exact at6 | exact at7)) rfl (by rfl) (by rfl) (by rfl) (by rfl) (by rfl) ?_; clear hO; intro u hO; simp only [zC, zB] at hO)
                  | ((with_reducible refine wpl_store ?_); refine wpList_store_field rfl (by rfl) hO rfl _ (by (first | exact at0 | exact at1 | exact at2 | exact at3 | exact at4 | exact at5 | exact at6 | exact at7)) (zM rfl) (by simp only [Act.eval, zJ, zF, zD, zE, zP]; rfl) (by rfl) (by rfl) (by rfl) ?_; clear hO; intro u hO; simp only [zC, zB] at hO)
                  | fail)
                obtain ⟨e0, e1, e2⟩ := CR _ (hO.row_sl 0 rfl)
                go_wp2_with (first
                  | ((with_reducible refine wpl_store ?_); refine wpList_store_box rfl (by rfl) hO rfl _ (by exact at3) rfl (by rfl) (by rfl) (by rfl) (by rfl) (by rfl) ?_; clear hO; intro u hO; simp only [zC, zB] at hO)
                  | fail)
                clear e0 e1 e2
                replace hO := hO.pick [0, 1, 2, 3] (by decide)
                simp only [zN, zO, zE, zD] at hO
                go_roundw
                case rel => exact ⟨m + 1, by omega, by omega, by go_num, by rw [HO.out]; exact hO⟩
                case measure => simp [intOf]; omega
              · have q1 : (cv == -1) = false := by simpa using h1
                have HO : Hid (bst false L (m + 1) = ⟨on, od, ot⟩) := Lib.hid (by rw [HFO.out]; simp [h1])
                clear HFO h1
                by_cases h3 : cv = 1
                · subst h3
                  go_wp2_with (first
                    | ((with_reducible refine wpl_alloc ?_); refine wpList_alloc_own rfl (by rfl) hO rfl (fun b => by simp only [Act.put, zA, zB, zC]; rfl) ?_; (first | (refine nm 0 rfl ?_; clear hO; intro b0 u hO) | (refine nm 1 rfl ?_; clear hO; intro b1 u hO) | (refine nm 2 rfl ?_; clear hO; intro b2 u hO) | (refine nm 3 rfl ?_; clear hO; intro b3 u hO) | (refine nm 4 rfl ?_; clear hO; intro b4 u hO) | (refine nm 5 rfl ?_; clear hO; intro b5 u hO) | (refine nm 6 rfl ?_; clear hO; intro b6 u hO) | (refine nm 7 rfl ?_; clear hO; intro b7 u hO)); simp only [zL, zK] at hO)
                    | ((with_reducible refine wpl_box ?_); refine wpList_box_own rfl (by rfl) hO rfl rfl (fun b => by simp only [Act.put, zA, zB, zC]; rfl) ?_; (first | (refine nm 0 rfl ?_; clear hO; intro b0 u hO) | (refine nm 1 rfl ?_; clear hO; intro b1 u hO) | (refine nm 2 rfl ?_; clear hO; intro b2 u hO) | (refine nm 3 rfl ?_; clear hO; intro b3 u hO) | (refine nm 4 rfl ?_; clear hO; intro b4 u hO) | (refine nm 5 rfl ?_; clear hO; intro b5 u hO) | (refine nm 6 rfl ?_; clear hO; intro b6 u hO) | (refine nm 7 rfl ?_; clear hO; intro b7 u hO)); simp only [zL, zK] at hO)
                    | ((with_reducible refine wpl_load ?_); refine wpList_load_box rfl (by (first | rfl | (simp only [Region.wanted, yielded, *]; go_simp; done) | (simp [Region.wanted, yielded, *]; done) | fail)) hO rfl _ (by (first | exact at0 | exact at1 | exact at2 | exact at3 | exact at4 | exact at5 | exact at6 | exact at7)) (by rfl) (by simp only [Act.put, zA, zB, zC]; rfl) ?_)
                    | ((with_reducible refine wpl_load ?_); refine wpList_load_field rfl (by (first | rfl | (simp only [Region.wanted, yielded, *]; go_simp; done) | (simp [Region.wanted, yielded, *]; done) | fail)) hO rfl _ (by (first | exact at0 | exact at1 | exact at2 | exact at3 | exact at4 | exact at5 | exact at6 | exact at7)) (by rfl) (by simp only [Act.put, zA, zB, zC]; rfl) ?_)
                    | ((with_reducible refine wpl_store ?_); refine wpList_store_box rfl (by rfl) hO rfl _ (by (first | exact at0 | exact at1 | exact at2 | exact at3 | exact at4 | exact at5 | exact at6 | exact at7)) rfl (by rfl) (by rfl) (by rfl) (by rfl) (by rfl) ?_; clear hO; intro u hO; simp only [zC, zB] at hO)
                    | ((with_reducible refine wpl_store ?_); refine wpList_store_field rfl (by rfl) hO rfl _ (by (first | exact at0 | exact at1 | exact at2 | exact at3 | exact at4 | exact at5 | exact at6 | exact at7)) (zM rfl) (by simp only [Act.eval, zJ, zF, zD, zE, zP]; rfl) (by rfl) (by rfl) (by rfl) ?_; clear hO; intro u hO; simp only [zC, zB] at hO)
                    | fail)
                  refine J.wp_region_c (n := 64) [0, 1, 2, 3, 4, 5, 6] [] (deps := fun i => [[], [], [0, 1], [0, 1, 2], [], [0, 1, 2, 3, 4], [0, 1, 2, 3, 4, 5]].getD i []) (fun _ _ _ => True) (r := 0) (lst := #[true, true, true, true, true, true, true]) (by kernel_rfl) (by kernel_rfl) (by kernel_rfl) rfl (by decide) (by kernel_rfl) hO ?_
                  refine J.Chain.cons (by rfl) (by rfl) (fun M u hO K hK => by (simp only [wp_at_zero, wp_at_succ]; go_step; exact hK _ hO)) (by simp only [J.putL, zI, zG, zH, J.dstOf, zF, zD, zE, zS, zQ, zR, Act.put, zA, zB, zC]; rfl) ?_
                  refine J.Chain.cons (by rfl) (by rfl) (fun M u hO K hK => by (simp only [wp_at_zero, wp_at_succ]; go_step; exact hK _ hO)) (by simp only [J.putL, zI, zG, zH, J.dstOf, zF, zD, zE, zS, zQ, zR, Act.put, zA, zB, zC]; rfl) ?_
                  refine J.Chain.cons (by rfl) (by rfl) (fun M u hO K hK => by (simp only [wp_at_zero, wp_at_succ]; go_step; exact hK _ hO)) (by simp only [J.putL, zI, zG, zH, J.dstOf, zF, zD, zE, zS, zQ, zR, Act.put, zA, zB, zC]; rfl) ?_
                  refine J.Chain.cons (by rfl) (by rfl) (fun M u hO K hK => by ((obtain ⟨e0, e1, e2⟩ := CR _ (hO.row_sl 0 rfl); simp only [wp_at_zero, wp_at_succ]; go_step; exact hK _ hO))) (by simp only [J.putL, zI, zG, zH, J.dstOf, zF, zD, zE, zS, zQ, zR, Act.put, zA, zB, zC]; rfl) ?_
                  refine J.Chain.cons (by rfl) (by rfl) (fun M u hO K hK => by (exact wp_load_box hO rfl rfl _ (by exact at3) (by rfl) (by rfl) (hK _ hO))) (by simp only [J.putL, zI, zG, zH, J.dstOf, zF, zD, zE, zS, zQ, zR, Act.put, zA, zB, zC]; rfl) ?_
                  refine J.Chain.cons (by rfl) (by rfl) (fun M u hO K hK => by (simp only [wp_at_zero, wp_at_succ]; go_step; refine (CP _).mono ?_; rintro e u ⟨rfl, hb⟩; exact hK _ (hO.step hb))) (by simp only [J.putL, zI, zG, zH, J.dstOf, zF, zD, zE, zS, zQ, zR, Act.put, zA, zB, zC]; rfl) ?_
                  refine J.Chain.cons (by rfl) (by rfl) (fun M u hO K hK => by (simp only [wp_at_zero, wp_at_succ]; go_step; exact hK _ hO)) (by simp only [J.putL, zI, zG, zH, J.dstOf, zF, zD, zE, zS, zQ, zR, Act.put, zA, zB, zC]; rfl) ?_
                  refine J.Chain.nil ⟨?_, ?_⟩
                  · exact J.Each.nil
                  intro vs u hO hF
                  clear hF
                  simp only [List.flatMap_cons, List.flatMap_nil, List.append_nil, zL, zK] at hO
                  simp only [J.putL]
                  clear vs
                  refine wpAny_done (by kernel_rfl) ?_ _
                  go_wp2_with (first
                    | ((with_reducible refine wpl_alloc ?_); refine wpList_alloc_own rfl (by rfl) hO rfl (fun b => by simp only [Act.put, zA, zB, zC]; rfl) ?_; (first | (refine nm 0 rfl ?_; clear hO; intro b0 u hO) | (refine nm 1 rfl ?_; clear hO; intro b1 u hO) | (refine nm 2 rfl ?_; clear hO; intro b2 u hO) | (refine nm 3 rfl ?_; clear hO; intro b3 u hO) | (refine nm 4 rfl ?_; clear hO; intro b4 u hO) | (refine nm 5 rfl ?_; clear hO; intro b5 u hO) | (refine nm 6 rfl ?_; clear hO; intro b6 u hO) | (refine nm 7 rfl ?_; clear hO; intro b7 u hO)); simp only [zL, zK] at hO)
                    | ((with_reducible refine wpl_box ?_); refine wpList_box_own rfl (by rfl) hO rfl rfl (fun b => by simp only [Act.put, zA, zB, zC]; rfl) ?_; (first | (refine nm 0 rfl ?_; clear hO; intro b0 u hO) | (refine nm 1 rfl ?_; clear hO; intro b1 u hO) | (refine nm 2 rfl ?_; clear hO; intro b2 u hO) | (refine nm 3 rfl ?_; clear hO; intro b3 u hO) | (refine nm 4 rfl ?_; clear hO; intro b4 u hO) | (refine nm 5 rfl ?_; clear hO; intro b5 u hO) | (refine nm 6 rfl ?_; clear hO; intro b6 u hO) | (refine nm 7 rfl ?_; clear hO; intro b7 u hO)); simp only [zL, zK] at hO)
                    | ((with_reducible refine wpl_load ?_); refine wpList_load_box rfl (by (first | rfl | (simp only [Region.wanted, yielded, *]; go_simp; done) | (simp [Region.wanted, yielded, *]; done) | fail)) hO rfl _ (by (first | exact at0 | exact at1 | exact at2 | exact at3 | exact at4 | exact at5 | exact at6 | exact at7)) (by rfl) (by simp only [Act.put, zA, zB, zC]; rfl) ?_)
                    | ((with_reducible refine wpl_load ?_); refine wpList_load_field rfl (by (first | rfl | (simp only [Region.wanted, yielded, *]; go_simp; done) | (simp [Region.wanted, yielded, *]; done) | fail)) hO rfl _ (by (first | exact at0 | exact at1 | exact at2 | exact at3 | exact at4 | exact at5 | exact at6 | exact at7)) (by rfl) (by simp only [Act.put, zA, zB, zC]; rfl) ?_)
                    | ((with_reducible refine wpl_store ?_); refine wpList_store_box rfl (by rfl) hO rfl _ (by (first | exact at0 | exact at1 | exact at2 | exact at3 | exact at4 | exact at5 | exact at6 | exact at7)) rfl (by rfl) (by rfl) (by rfl) (by rfl) (by rfl) ?_; clear hO; intro u hO; simp only [zC, zB] at hO)
                    | ((with_reducible refine wpl_store ?_); refine wpList_store_field rfl (by rfl) hO rfl _ (by (first | exact at0 | exact at1 | exact at2 | exact at3 | exact at4 | exact at5 | exact at6 | exact at7)) (zM rfl) (by simp only [Act.eval, zJ, zF, zD, zE, zP]; rfl) (by rfl) (by rfl) (by rfl) ?_; clear hO; intro u hO; simp only [zC, zB] at hO)
                    | fail)
                  replace hO := hO.pick [0, 1, 2, 3] (by decide)
                  simp only [zN, zO, zE, zD] at hO
                  go_roundw
                  case rel => exact ⟨m + 1, by omega, by omega, by go_num, by rw [HO.out]; exact hO⟩
                  case measure => simp [intOf]; omega
                · have q3 : (cv == 1) = false := by simpa using h3
                  clear h3
                  go_wp2_with (first
                    | ((with_reducible refine wpl_alloc ?_); refine wpList_alloc_own rfl (by rfl) hO rfl (fun b => by simp only [Act.put, zA, zB, zC]; rfl) ?_; (first | (refine nm 0 rfl ?_; clear hO; intro b0 u hO) | (refine nm 1 rfl ?_; clear hO; intro b1 u hO) | (refine nm 2 rfl ?_; clear hO; intro b2 u hO) | (refine nm 3 rfl ?_; clear hO; intro b3 u hO) | (refine nm 4 rfl ?_; clear hO; intro b4 u hO) | (refine nm 5 rfl ?_; clear hO; intro b5 u hO) | (refine nm 6 rfl ?_; clear hO; intro b6 u hO) | (refine nm 7 rfl ?_; clear hO; intro b7 u hO)); simp only [zL, zK] at hO)
                    | ((with_reducible refine wpl_box ?_); refine wpList_box_own rfl (by rfl) hO rfl rfl (fun b => by simp only [Act.put, zA, zB, zC]; rfl) ?_; (first | (refine nm 0 rfl ?_; clear hO; intro b0 u hO) | (refine nm 1 rfl ?_; clear hO; intro b1 u hO) | (refine nm 2 rfl ?_; clear hO; intro b2 u hO) | (refine nm 3 rfl ?_; clear hO; intro b3 u hO) | (refine nm 4 rfl ?_; clear hO; intro b4 u hO) | (refine nm 5 rfl ?_; clear hO; intro b5 u hO) | (refine nm 6 rfl ?_; clear hO; intro b6 u hO) | (refine nm 7 rfl ?_; clear hO; intro b7 u hO)); simp only [zL, zK] at hO)
                    | ((with_reducible refine wpl_load ?_); refine wpList_load_box rfl (by (first | rfl | (simp only [Region.wanted, yielded, *]; go_simp; done) | (simp [Region.wanted, yielded, *]; done) | fail)) hO rfl _ (by (first | exact at0 | exact at1 | exact at2 | exact at3 | exact at4 | exact at5 | exact at6 | exact at7)) (by rfl) (by simp only [Act.put, zA, zB, zC]; rfl) ?_)
                    | ((with_reducible refine wpl_load ?_); refine wpList_load_field rfl (by (first | rfl | (simp only [Region.wanted, yielded, *]; go_simp; done) | (simp [Region.wanted, yielded, *]; done) | fail)) hO rfl _ (by (first | exact at0 | exact at1 | exact at2 | exact at3 | exact at4 | exact at5 | exact at6 | exact at7)) (by rfl) (by simp only [Act.put, zA, zB, zC]; rfl) ?_)
                    | ((with_reducible refine wpl_store ?_); refine wpList_store_box rfl (by rfl) hO rfl _ (by (first | exact at0 | exact at1 | exact at2 | exact at3 | exact at4 | exact at5 | exact at6 | exact at7)) rfl (by rfl) (by rfl) (by rfl) (by rfl) (by rfl) ?_; clear hO; intro u hO; simp only [zC, zB] at hO)
                    | ((with_reducible refine wpl_store ?_); refine wpList_store_field rfl (by rfl) hO rfl _ (by (first | exact at0 | exact at1 | exact at2 | exact at3 | exact at4 | exact at5 | exact at6 | exact at7)) (zM rfl) (by simp only [Act.eval, zJ, zF, zD, zE, zP]; rfl) (by rfl) (by rfl) (by rfl) ?_; clear hO; intro u hO; simp only [zC, zB] at hO)
                    | fail)
                  refine J.wp_region_c (n := 64) [0, 1, 2, 3, 4, 5, 6] [] (deps := fun i => [[], [], [0, 1], [0, 1, 2], [], [0, 1, 2, 3, 4], [0, 1, 2, 3, 4, 5]].getD i []) (fun _ _ _ => True) (r := 0) (lst := #[true, true, true, true, true, true, true]) (by kernel_rfl) (by kernel_rfl) (by kernel_rfl) rfl (by decide) (by kernel_rfl) hO ?_
                  refine J.Chain.cons (by rfl) (by rfl) (fun M u hO K hK => by (simp only [wp_at_zero, wp_at_succ]; go_step; exact hK _ hO)) (by simp only [J.putL, zI, zG, zH, J.dstOf, zF, zD, zE, zS, zQ, zR, Act.put, zA, zB, zC]; rfl) ?_
                  refine J.Chain.cons (by rfl) (by rfl) (fun M u hO K hK => by (simp only [wp_at_zero, wp_at_succ]; go_step; exact hK _ hO)) (by simp only [J.putL, zI, zG, zH, J.dstOf, zF, zD, zE, zS, zQ, zR, Act.put, zA, zB, zC]; rfl) ?_
                  refine J.Chain.cons (by rfl) (by rfl) (fun M u hO K hK => by (simp only [wp_at_zero, wp_at_succ]; go_step; exact hK _ hO)) (by simp only [J.putL, zI, zG, zH, J.dstOf, zF, zD, zE, zS, zQ, zR, Act.put, zA, zB, zC]; rfl) ?_
                  refine J.Chain.cons (by rfl) (by rfl) (fun M u hO K hK => by ((obtain ⟨e0, e1, e2⟩ := CR _ (hO.row_sl 0 rfl); simp only [wp_at_zero, wp_at_succ]; go_step; exact hK _ hO))) (by simp only [J.putL, zI, zG, zH, J.dstOf, zF, zD, zE, zS, zQ, zR, Act.put, zA, zB, zC]; rfl) ?_
                  refine J.Chain.cons (by rfl) (by rfl) (fun M u hO K hK => by (exact wp_load_box hO rfl rfl _ (by exact at3) (by rfl) (by rfl) (hK _ hO))) (by simp only [J.putL, zI, zG, zH, J.dstOf, zF, zD, zE, zS, zQ, zR, Act.put, zA, zB, zC]; rfl) ?_
                  refine J.Chain.cons (by rfl) (by rfl) (fun M u hO K hK => by (simp only [wp_at_zero, wp_at_succ]; go_step; refine (CP _).mono ?_; rintro e u ⟨rfl, hb⟩; exact hK _ (hO.step hb))) (by simp only [J.putL, zI, zG, zH, J.dstOf, zF, zD, zE, zS, zQ, zR, Act.put, zA, zB, zC]; rfl) ?_
                  refine J.Chain.cons (by rfl) (by rfl) (fun M u hO K hK => by (simp only [wp_at_zero, wp_at_succ]; go_step; exact hK _ hO)) (by simp only [J.putL, zI, zG, zH, J.dstOf, zF, zD, zE, zS, zQ, zR, Act.put, zA, zB, zC]; rfl) ?_
                  refine J.Chain.nil ⟨?_, ?_⟩
                  · exact J.Each.nil
                  intro vs u hO hF
                  clear hF
                  simp only [List.flatMap_cons, List.flatMap_nil, List.append_nil, zL, zK] at hO
                  simp only [J.putL]
                  clear vs
                  refine wpAny_done (by kernel_rfl) ?_ _
                  go_wp2_with (first
                    | ((with_reducible refine wpl_alloc ?_); refine wpList_alloc_own rfl (by rfl) hO rfl (fun b => by simp only [Act.put, zA, zB, zC]; rfl) ?_; (first | (refine nm 0 rfl ?_; clear hO; intro b0 u hO) | (refine nm 1 rfl ?_; clear hO; intro b1 u hO) | (refine nm 2 rfl ?_; clear hO; intro b2 u hO) | (refine nm 3 rfl ?_; clear hO; intro b3 u hO) | (refine nm 4 rfl ?_; clear hO; intro b4 u hO) | (refine nm 5 rfl ?_; clear hO; intro b5 u hO) | (refine nm 6 rfl ?_; clear hO; intro b6 u hO) | (refine nm 7 rfl ?_; clear hO; intro b7 u hO)); simp only [zL, zK] at hO)
                    | ((with_reducible refine wpl_box ?_); refine wpList_box_own rfl (by rfl) hO rfl rfl (fun b => by simp only [Act.put, zA, zB, zC]; rfl) ?_; (first | (refine nm 0 rfl ?_; clear hO; intro b0 u hO) | (refine nm 1 rfl ?_; clear hO; intro b1 u hO) | (refine nm 2 rfl ?_; clear hO; intro b2 u hO) | (refine nm 3 rfl ?_; clear hO; intro b3 u hO) | (refine nm 4 rfl ?_; clear hO; intro b4 u hO) | (refine nm 5 rfl ?_; clear hO; intro b5 u hO) | (refine nm 6 rfl ?_; clear hO; intro b6 u hO) | (refine nm 7 rfl ?_; clear hO; intro b7 u hO)); simp only [zL, zK] at hO)
                    | ((with_reducible refine wpl_load ?_); refine wpList_load_box rfl (by (first | rfl | (simp only [Region.wanted, yielded, *]; go_simp; done) | (simp [Region.wanted, yielded, *]; done) | fail)) hO rfl _ (by (first | exact at0 | exact at1 | exact at2 | exact at3 | exact at4 | exact at5 | exact at6 | exact at7)) (by rfl) (by simp only [Act.put, zA, zB, zC]; rfl) ?_)
                    | ((with_reducible refine wpl_load ?_); refine wpList_load_field rfl (by (first | rfl | (simp only [Region.wanted, yielded, *]; go_simp; done) | (simp [Region.wanted, yielded, *]; done) | fail)) hO rfl _ (by (first | exact at0 | exact at1 | exact at2 | exact at3 | exact at4 | exact at5 | exact at6 | exact at7)) (by rfl) (by simp only [Act.put, zA, zB, zC]; rfl) ?_)
                    | ((with_reducible refine wpl_store ?_); refine wpList_store_box rfl (by rfl) hO rfl _ (by (first | exact at0 | exact at1 | exact at2 | exact at3 | exact at4 | exact at5 | exact at6 | exact at7)) rfl (by rfl) (by rfl) (by rfl) (by rfl) (by rfl) ?_; clear hO; intro u hO; simp only [zC, zB] at hO)
                    | ((with_reducible refine wpl_store ?_); refine wpList_store_field rfl (by rfl) hO rfl _ (by (first | exact at0 | exact at1 | exact at2 | exact at3 | exact at4 | exact at5 | exact at6 | exact at7)) (zM rfl) (by simp only [Act.eval, zJ, zF, zD, zE, zP]; rfl) (by rfl) (by rfl) (by rfl) ?_; clear hO; intro u hO; simp only [zC, zB] at hO)
                    | fail)
                  replace hO := hO.pick [0, 1, 2, 3] (by decide)
                  simp only [zN, zO, zE, zD] at hO
                  go_roundw
                  case rel => exact ⟨m + 1, by omega, by omega, by go_num, by rw [HO.out]; exact hO⟩
                  case measure => simp [intOf]; omega
        · have hmn : m = L.length := by omega
          subst hmn
          have HX : Hid (exI lg L = bst lg L L.length) := Lib.hid (bst_all lg L).symm
          obtain ⟨o, ho⟩ : ∃ o, bst lg L L.length = o := ⟨_, rfl⟩
          rw [ho] at hO HX
          clear ho
          obtain ⟨on, od, ot⟩ := o
          simp only [itc1] at hO
          go_wp2_with (first
            | ((with_reducible refine wpl_load ?_); refine wpList_load_box rfl (by rfl) hO rfl _ (by exact at3) (by rfl) (by simp only [Act.put, zA, zB, zC]; rfl) ?_)
            | fail)
          refine ((spec_one on od ot _).mono fun e' w' h => RetV.exC h).mono ?_
          rintro e u ⟨Ci, Cp, Cn, Cc, Cl, ri, rp, rn, rc, rl, F, rfl, hvo, hb2⟩
          replace hO := hO.call hb2
          clear hb2
          simp only [List.cons_append, List.nil_append] at hO
          go_wp2_with (first
            | ((with_reducible refine wpl_store ?_); refine wpList_store_box rfl (by rfl) hO rfl _ (by exact at3) rfl (by rfl) (by rfl) (by rfl) (by rfl) (by rfl) ?_; clear hO; intro u hO; simp only [zC, zB] at hO)
            | fail)
          exact ret_box2 rfl hO rfl 3 at3 rfl rfl rfl ⟨_, _, by rw [HG.out]; rfl, by rw [HF.out, HX.out]; exact hvo, hO.pick [0] (by decide)⟩

end Go.Proofs.Ytmofcbpabdbjlaa
