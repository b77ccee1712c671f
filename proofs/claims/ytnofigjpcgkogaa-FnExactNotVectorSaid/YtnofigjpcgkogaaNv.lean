/-
  What is proved: what NotVector (of the program and of the reference) returns.
  Condition: vectors of size at most 1048576.
-/
import Derived.Test.YtnofigjpcgkogaaNvA
namespace Go.Proofs.Ytnofigjpcgkogaa
open Go.RowKit Go.ChangeShapes Go.WideShapes Go.Deep
set_option linter.unusedVariables false
set_option linter.unusedSimpArgs false

def ngI (x : It) : It := lgI (notL (trI x))
def ngT (t : VT) : VT := if isV t then (if cntK t.kind t.levels.length then vecN 1 (t.items.map ngI) t.names else vecI 0 []) else vecI 0 []
def ngS (t : VT) : ByteArray := if isV t then (if cntK t.kind t.levels.length then ⟨#[]⟩ else nonLogS) else badS

theorem isV_items {k : Int} {is : List It} {ps : List VT} {ns cs ls : List ByteArray} {c e : Int} (h : isV (.mk k is ps ns cs ls c e) = true) : is.length ≤ 40 := by
  have hf := isV_facts h
  have h1 := hf.2.1
  have h2 := hf.2.2.2.2.2.1
  rw [show lenV (.mk k is ps ns cs ls c e) = if k = 5 then 1 else is.length + ps.length from rfl] at h1
  by_cases h5 : k = 5
  · have := (h2 h5).1; omega
  · rw [if_neg h5] at h1; omega

set_option maxRecDepth 20000 in
set_option maxHeartbeats 4000000 in
theorem impl_nv (t : VT) (vs : List Value) (w : World) (hv : RdV w t vs) (hz : szV t ≤ 1048576) : Calls Try.prog 55 #[.agg vs.toArray] w (RetVS (ngT t) (ngS t) w) := by
  have CA := fun u (hb : Below w.heap.size w u) => impl_isVec t _ u (hv.grow hb) hz
  obtain ⟨k, is, ps, ns, cs, ls, c, e⟩ := t
  have HE : Hid (ngT (.mk k is ps ns cs ls c e) = if isV (.mk k is ps ns cs ls c e) then (if cntK k ls.length then vecN 1 (is.map ngI) ns else vecI 0 []) else vecI 0 []) := Lib.hid rfl
  have HS : Hid (ngS (.mk k is ps ns cs ls c e) = if isV (.mk k is ps ns cs ls c e) then (if cntK k ls.length then ⟨#[]⟩ else nonLogS) else badS) := Lib.hid rfl
  have HK := Lib.hid (fun h => isV_items (k := k) (is := is) (ps := ps) (ns := ns) (cs := cs) (ls := ls) (c := c) (e := e) h)
  obtain ⟨q, hq⟩ : ∃ q, isV (.mk k is ps ns cs ls c e) = q := ⟨_, rfl⟩
  rw [hq] at CA HE HS HK
  obtain ⟨Ai, Ap, An, Ac, Al, ci, cp, cn, cc, cl, pvs, rfl, h1, h2, h3, h4, h5⟩ := hv.open
  have hnz : ns.length ≤ 1048576 := by
    unfold szV szS at hz
    omega
  have CC := fun u => impl_counts k (.slice Ai is.length ci) (.slice Ap ps.length cp) (.slice An ns.length cn) (.slice Ac cs.length cc) (.int .i64 c) (.int .i64 e) Al ls.length cl u
  obtain ⟨r, hr⟩ : ∃ r, cntK k ls.length = r := ⟨_, rfl⟩
  rw [hr] at CC HE HS
  clear hv hz hq hr
  cases q with
  | false =>
    have HF : Hid (ngT (.mk k is ps ns cs ls c e) = vecI 0 []) := Lib.hid (by rw [HE.out]; rfl)
    have HG : Hid (ngS (.mk k is ps ns cs ls c e) = badS) := Lib.hid (by rw [HS.out]; rfl)
    go_enter Try.func55, Try.ntmps55
    have hO := Own.nil w
    go_wp2_with (first
      | ((with_reducible refine (CA _ hO.below).mono ?_); rintro e u ⟨rfl, hb⟩; first | (replace hO := hO.step hb; clear hb) | subst hb)
      | ((with_reducible refine wpl_alloc ?_); refine wpList_alloc_own rfl (by rfl) hO rfl (fun b => by simp only [Act.put, List.setIfInBounds_toArray, List.set_cons_succ, List.set_cons_zero]; rfl) ?_; (first | (refine nm 0 rfl ?_; clear hO; intro b0 u hO) | (refine nm 1 rfl ?_; clear hO; intro b1 u hO) | (refine nm 2 rfl ?_; clear hO; intro b2 u hO) | (refine nm 3 rfl ?_; clear hO; intro b3 u hO)); simp only [List.nil_append, List.cons_append] at hO)
      | ((with_reducible refine wpl_box ?_); refine wpList_box_own rfl (by rfl) hO rfl rfl (fun b => by simp only [Act.put, List.setIfInBounds_toArray, List.set_cons_succ, List.set_cons_zero]; rfl) ?_; (first | (refine nm 0 rfl ?_; clear hO; intro b0 u hO) | (refine nm 1 rfl ?_; clear hO; intro b1 u hO) | (refine nm 2 rfl ?_; clear hO; intro b2 u hO) | (refine nm 3 rfl ?_; clear hO; intro b3 u hO)); simp only [List.nil_append, List.cons_append] at hO)
      | ((with_reducible refine wpl_load ?_); first | (refine wpList_load_box rfl (by first | rfl | (simp only [Region.wanted, yielded, *]; go_simp; done) | (simp [Region.wanted, yielded, *]; done) | fail) hO rfl _ (by first | exact at0 | exact at1 | exact at2 | exact at3) (by rfl) (by simp only [Act.put, List.setIfInBounds_toArray, List.set_cons_succ, List.set_cons_zero]; rfl) ?_) | (refine wpList_load_field rfl (by first | rfl | (simp only [Region.wanted, yielded, *]; go_simp; done) | (simp [Region.wanted, yielded, *]; done) | fail) hO rfl _ (by first | exact at0 | exact at1 | exact at2 | exact at3) (by rfl) (by simp only [Act.put, List.setIfInBounds_toArray, List.set_cons_succ, List.set_cons_zero]; rfl) ?_))
      | ((with_reducible refine wpl_store ?_); first | (refine wpList_store_box rfl (by rfl) hO rfl _ (by first | exact at0 | exact at1 | exact at2 | exact at3) rfl (by rfl) (by rfl) (by rfl) (by rfl) (by rfl) ?_; clear hO; intro u hO; simp only [List.set_cons_zero, List.set_cons_succ] at hO) | (refine wpList_store_field rfl (by rfl) hO rfl _ (by first | exact at0 | exact at1 | exact at2 | exact at3) (Nat.le_of_ble_eq_true rfl) (by simp only [Act.eval, Array.getD_eq_getD_getElem?, List.getElem?_toArray, List.getElem?_cons_succ, List.getElem?_cons_zero, Option.getD_some]; rfl) (by rfl) (by rfl) (by rfl) ?_; clear hO; intro u hO; simp only [List.set_cons_zero, List.set_cons_succ] at hO))
      | ((with_reducible refine wpl_call ?_); first | (refine wpList_append_str hO rfl (by rfl) rfl rfl _ (by first | exact at0 | exact at1 | exact at2 | exact at3) (by omega) rfl (fun A' c' => by simp only [Act.put, List.setIfInBounds_toArray, List.set_cons_succ, List.set_cons_zero]; rfl) ?_; clear hO; intro A' c' u hO; simp only [List.set_cons_zero, List.set_cons_succ] at hO) | (refine wpList_append_lit hO rfl (by rfl) rfl rfl _ (by first | exact at0 | exact at1 | exact at2 | exact at3) (by rfl) (by simp [Value.oneCell']) (by omega) (by omega) rfl (fun A' c' => by simp only [Act.put, List.setIfInBounds_toArray, List.set_cons_succ, List.set_cons_zero]; rfl) ?_; clear hO; intro A' c' u hO; simp only [List.set_cons_zero, List.set_cons_succ] at hO))
      | fail)
    obtain ⟨F, hvo, hF⟩ := Own.vec0 u 0
    exact ret_box2 rfl hO rfl 1 at1 rfl rfl rfl ⟨_, _, by rw [HG.out]; rfl, by rw [HF.out]; exact hvo, (hO.call hF).pick [0] (by decide)⟩
  | true =>
  cases r with
  | false =>
    have HF : Hid (ngT (.mk k is ps ns cs ls c e) = vecI 0 []) := Lib.hid (by rw [HE.out]; rfl)
    have HG : Hid (ngS (.mk k is ps ns cs ls c e) = nonLogS) := Lib.hid (by rw [HS.out]; rfl)
    go_enter Try.func55, Try.ntmps55
    have hO := Own.nil w
    go_wp2_with (first
      | ((with_reducible refine (CA _ hO.below).mono ?_); rintro e u ⟨rfl, hb⟩; first | (replace hO := hO.step hb; clear hb) | subst hb)
      | ((with_reducible refine (CC _).mono ?_); rintro e u ⟨rfl, hb⟩; first | (replace hO := hO.step hb; clear hb) | subst hb)
      | ((with_reducible refine wpl_alloc ?_); refine wpList_alloc_own rfl (by rfl) hO rfl (fun b => by simp only [Act.put, List.setIfInBounds_toArray, List.set_cons_succ, List.set_cons_zero]; rfl) ?_; (first | (refine nm 0 rfl ?_; clear hO; intro b0 u hO) | (refine nm 1 rfl ?_; clear hO; intro b1 u hO) | (refine nm 2 rfl ?_; clear hO; intro b2 u hO) | (refine nm 3 rfl ?_; clear hO; intro b3 u hO)); simp only [List.nil_append, List.cons_append] at hO)
      | ((with_reducible refine wpl_box ?_); refine wpList_box_own rfl (by rfl) hO rfl rfl (fun b => by simp only [Act.put, List.setIfInBounds_toArray, List.set_cons_succ, List.set_cons_zero]; rfl) ?_; (first | (refine nm 0 rfl ?_; clear hO; intro b0 u hO) | (refine nm 1 rfl ?_; clear hO; intro b1 u hO) | (refine nm 2 rfl ?_; clear hO; intro b2 u hO) | (refine nm 3 rfl ?_; clear hO; intro b3 u hO)); simp only [List.nil_append, List.cons_append] at hO)
      | ((with_reducible refine wpl_load ?_); first | (refine wpList_load_box rfl (by first | rfl | (simp only [Region.wanted, yielded, *]; go_simp; done) | (simp [Region.wanted, yielded, *]; done) | fail) hO rfl _ (by first | exact at0 | exact at1 | exact at2 | exact at3) (by rfl) (by simp only [Act.put, List.setIfInBounds_toArray, List.set_cons_succ, List.set_cons_zero]; rfl) ?_) | (refine wpList_load_field rfl (by first | rfl | (simp only [Region.wanted, yielded, *]; go_simp; done) | (simp [Region.wanted, yielded, *]; done) | fail) hO rfl _ (by first | exact at0 | exact at1 | exact at2 | exact at3) (by rfl) (by simp only [Act.put, List.setIfInBounds_toArray, List.set_cons_succ, List.set_cons_zero]; rfl) ?_))
      | ((with_reducible refine wpl_store ?_); first | (refine wpList_store_box rfl (by rfl) hO rfl _ (by first | exact at0 | exact at1 | exact at2 | exact at3) rfl (by rfl) (by rfl) (by rfl) (by rfl) (by rfl) ?_; clear hO; intro u hO; simp only [List.set_cons_zero, List.set_cons_succ] at hO) | (refine wpList_store_field rfl (by rfl) hO rfl _ (by first | exact at0 | exact at1 | exact at2 | exact at3) (Nat.le_of_ble_eq_true rfl) (by simp only [Act.eval, Array.getD_eq_getD_getElem?, List.getElem?_toArray, List.getElem?_cons_succ, List.getElem?_cons_zero, Option.getD_some]; rfl) (by rfl) (by rfl) (by rfl) ?_; clear hO; intro u hO; simp only [List.set_cons_zero, List.set_cons_succ] at hO))
      | ((with_reducible refine wpl_call ?_); first | (refine wpList_append_str hO rfl (by rfl) rfl rfl _ (by first | exact at0 | exact at1 | exact at2 | exact at3) (by omega) rfl (fun A' c' => by simp only [Act.put, List.setIfInBounds_toArray, List.set_cons_succ, List.set_cons_zero]; rfl) ?_; clear hO; intro A' c' u hO; simp only [List.set_cons_zero, List.set_cons_succ] at hO) | (refine wpList_append_lit hO rfl (by rfl) rfl rfl _ (by first | exact at0 | exact at1 | exact at2 | exact at3) (by rfl) (by simp [Value.oneCell']) (by omega) (by omega) rfl (fun A' c' => by simp only [Act.put, List.setIfInBounds_toArray, List.set_cons_succ, List.set_cons_zero]; rfl) ?_; clear hO; intro A' c' u hO; simp only [List.set_cons_zero, List.set_cons_succ] at hO))
      | fail)
    obtain ⟨F, hvo, hF⟩ := Own.vec0 u 0
    exact ret_box2 rfl hO rfl 1 at1 rfl rfl rfl ⟨_, _, by rw [HG.out]; rfl, by rw [HF.out]; exact hvo, (hO.call hF).pick [0] (by decide)⟩
  | true =>
    have HF : Hid (ngT (.mk k is ps ns cs ls c e) = vecN 1 (is.map ngI) ns) := Lib.hid (by rw [HE.out]; rfl)
    have HG : Hid (ngS (.mk k is ps ns cs ls c e) = ⟨#[]⟩) := Lib.hid (by rw [HS.out]; rfl)
    have hle := HK.out rfl
    have S := fun u (hb : Below w.heap.size w u) => impl_copyTexts An cn ns u (h3.below hb) hnz
    clear HE HS HK
    go_enter Try.func55, Try.ntmps55
    have hO := Own.nil w
    go_wp2_with (first
      | ((with_reducible refine (CA _ hO.below).mono ?_); rintro e u ⟨rfl, hb⟩; first | (replace hO := hO.step hb; clear hb) | subst hb)
      | ((with_reducible refine (CC _).mono ?_); rintro e u ⟨rfl, hb⟩; first | (replace hO := hO.step hb; clear hb) | subst hb)
      | ((with_reducible refine wpl_alloc ?_); refine wpList_alloc_own rfl (by rfl) hO rfl (fun b => by simp only [Act.put, List.setIfInBounds_toArray, List.set_cons_succ, List.set_cons_zero]; rfl) ?_; (first | (refine nm 0 rfl ?_; clear hO; intro b0 u hO) | (refine nm 1 rfl ?_; clear hO; intro b1 u hO) | (refine nm 2 rfl ?_; clear hO; intro b2 u hO) | (refine nm 3 rfl ?_; clear hO; intro b3 u hO) | (refine nm 4 rfl ?_; clear hO; intro b4 u hO) | (refine nm 5 rfl ?_; clear hO; intro b5 u hO) | (refine nm 6 rfl ?_; clear hO; intro b6 u hO)); simp only [List.nil_append, List.cons_append] at hO)
      | ((with_reducible refine wpl_box ?_); refine wpList_box_own rfl (by rfl) hO rfl rfl (fun b => by simp only [Act.put, List.setIfInBounds_toArray, List.set_cons_succ, List.set_cons_zero]; rfl) ?_; (first | (refine nm 0 rfl ?_; clear hO; intro b0 u hO) | (refine nm 1 rfl ?_; clear hO; intro b1 u hO) | (refine nm 2 rfl ?_; clear hO; intro b2 u hO) | (refine nm 3 rfl ?_; clear hO; intro b3 u hO) | (refine nm 4 rfl ?_; clear hO; intro b4 u hO) | (refine nm 5 rfl ?_; clear hO; intro b5 u hO) | (refine nm 6 rfl ?_; clear hO; intro b6 u hO)); simp only [List.nil_append, List.cons_append] at hO)
      | ((with_reducible refine wpl_load ?_); first | (refine wpList_load_box rfl (by first | rfl | (simp only [Region.wanted, yielded, *]; go_simp; done) | (simp [Region.wanted, yielded, *]; done) | fail) hO rfl _ (by first | exact at0 | exact at1 | exact at2 | exact at3 | exact at4 | exact at5 | exact at6) (by rfl) (by simp only [Act.put, List.setIfInBounds_toArray, List.set_cons_succ, List.set_cons_zero]; rfl) ?_) | (refine wpList_load_field rfl (by first | rfl | (simp only [Region.wanted, yielded, *]; go_simp; done) | (simp [Region.wanted, yielded, *]; done) | fail) hO rfl _ (by first | exact at0 | exact at1 | exact at2 | exact at3 | exact at4 | exact at5 | exact at6) (by rfl) (by simp only [Act.put, List.setIfInBounds_toArray, List.set_cons_succ, List.set_cons_zero]; rfl) ?_))
      | ((with_reducible refine wpl_store ?_); first | (refine wpList_store_box rfl (by rfl) hO rfl _ (by first | exact at0 | exact at1 | exact at2 | exact at3 | exact at4 | exact at5 | exact at6) rfl (by rfl) (by rfl) (by rfl) (by rfl) (by rfl) ?_; clear hO; intro u hO; simp only [List.set_cons_zero, List.set_cons_succ] at hO) | (refine wpList_store_field rfl (by rfl) hO rfl _ (by first | exact at0 | exact at1 | exact at2 | exact at3 | exact at4 | exact at5 | exact at6) (Nat.le_of_ble_eq_true rfl) (by simp only [Act.eval, Array.getD_eq_getD_getElem?, List.getElem?_toArray, List.getElem?_cons_succ, List.getElem?_cons_zero, Option.getD_some]; rfl) (by rfl) (by rfl) (by rfl) ?_; clear hO; intro u hO; simp only [List.set_cons_zero, List.set_cons_succ] at hO))
      | fail)
    clear CA CC
    refine (S _ hO.below).mono ?_
    rintro e u ⟨N', d', rfl, hb⟩
    replace hO := hO.call hb
    clear hb
    simp only [List.cons_append, List.nil_append] at hO
    go_wp2_with (first
      | ((with_reducible refine wpl_alloc ?_); refine wpList_alloc_own rfl (by rfl) hO rfl (fun b => by simp only [Act.put, List.setIfInBounds_toArray, List.set_cons_succ, List.set_cons_zero]; rfl) ?_; (first | (refine nm 0 rfl ?_; clear hO; intro b0 u hO) | (refine nm 1 rfl ?_; clear hO; intro b1 u hO) | (refine nm 2 rfl ?_; clear hO; intro b2 u hO) | (refine nm 3 rfl ?_; clear hO; intro b3 u hO) | (refine nm 4 rfl ?_; clear hO; intro b4 u hO) | (refine nm 5 rfl ?_; clear hO; intro b5 u hO) | (refine nm 6 rfl ?_; clear hO; intro b6 u hO)); simp only [List.nil_append, List.cons_append] at hO)
      | ((with_reducible refine wpl_box ?_); refine wpList_box_own rfl (by rfl) hO rfl rfl (fun b => by simp only [Act.put, List.setIfInBounds_toArray, List.set_cons_succ, List.set_cons_zero]; rfl) ?_; (first | (refine nm 0 rfl ?_; clear hO; intro b0 u hO) | (refine nm 1 rfl ?_; clear hO; intro b1 u hO) | (refine nm 2 rfl ?_; clear hO; intro b2 u hO) | (refine nm 3 rfl ?_; clear hO; intro b3 u hO) | (refine nm 4 rfl ?_; clear hO; intro b4 u hO) | (refine nm 5 rfl ?_; clear hO; intro b5 u hO) | (refine nm 6 rfl ?_; clear hO; intro b6 u hO)); simp only [List.nil_append, List.cons_append] at hO)
      | ((with_reducible refine wpl_load ?_); first | (refine wpList_load_box rfl (by first | rfl | (simp only [Region.wanted, yielded, *]; go_simp; done) | (simp [Region.wanted, yielded, *]; done) | fail) hO rfl _ (by first | exact at0 | exact at1 | exact at2 | exact at3 | exact at4 | exact at5 | exact at6) (by rfl) (by simp only [Act.put, List.setIfInBounds_toArray, List.set_cons_succ, List.set_cons_zero]; rfl) ?_) | (refine wpList_load_field rfl (by first | rfl | (simp only [Region.wanted, yielded, *]; go_simp; done) | (simp [Region.wanted, yielded, *]; done) | fail) hO rfl _ (by first | exact at0 | exact at1 | exact at2 | exact at3 | exact at4 | exact at5 | exact at6) (by rfl) (by simp only [Act.put, List.setIfInBounds_toArray, List.set_cons_succ, List.set_cons_zero]; rfl) ?_))
      | ((with_reducible refine wpl_store ?_); first | (refine wpList_store_box rfl (by rfl) hO rfl _ (by first | exact at0 | exact at1 | exact at2 | exact at3 | exact at4 | exact at5 | exact at6) rfl (by rfl) (by rfl) (by rfl) (by rfl) (by rfl) ?_; clear hO; intro u hO; simp only [List.set_cons_zero, List.set_cons_succ] at hO) | (refine wpList_store_field rfl (by rfl) hO rfl _ (by first | exact at0 | exact at1 | exact at2 | exact at3 | exact at4 | exact at5 | exact at6) (Nat.le_of_ble_eq_true rfl) (by simp only [Act.eval, Array.getD_eq_getD_getElem?, List.getElem?_toArray, List.getElem?_cons_succ, List.getElem?_cons_zero, Option.getD_some]; rfl) (by rfl) (by rfl) (by rfl) ?_; clear hO; intro u hO; simp only [List.set_cons_zero, List.set_cons_succ] at hO))
      | fail)
    replace hO := hO.pick [1, 2, 3, 0] (by decide)
    simp only [List.filterMap_cons, List.filterMap_nil, List.getElem?_cons_zero, List.getElem?_cons_succ] at hO
    replace hO := hO.addNil 62 3
    simp only [List.cons_append, List.nil_append] at hO
    go_loopw [22] (fun i u => ∃ (m : Nat) (A' : Option Addr) (c' : Nat), m ≤ is.length ∧ i = .int .i64 m ∧ Own w [box b0 27 [.int .i64 k, .slice Ai is.length ci, .slice Ap ps.length cp, .slice An ns.length cn, .slice Ac cs.length cc, .slice Al ls.length cl, .int .i64 c, .int .i64 e], box b1 27 [.int .i64 0, .slice none 0 0, .slice none 0 0, .slice none 0 0, .slice none 0 0, .slice none 0 0, .int .i64 0, .int .i64 0], box b3 27 [.int .i64 1, .slice A' m c', .slice none 0 0, .slice N' ns.length d', .slice none 0 0, .slice none 0 0, .int .i64 0, .int .i64 0], row 9 1 (.slice N' ns.length d') ns.length (stc ns), row 62 3 (.slice A' m c') m (itc ((is.take m).map ngI))] u) (fun i _ => is.length - (intOf i).toNat)
    case atStart => exact ⟨0, none, 0, Nat.zero_le _, rfl, hO⟩
    case round =>
      clear hO
      obtain ⟨m, A', c', hm, rfl, hO⟩ := hrel
      by_cases hlt : m < is.length
      · have HSS := Lib.hid (itc_map_succ ngI hlt)
        obtain ⟨x, hx⟩ : ∃ x, is[m] = x := ⟨_, rfl⟩
        obtain ⟨b, off, rfl, hb, d0, d1, d2⟩ := h1.it hO.below hlt hx
        rw [hx] at HSS
        clear hx
        obtain ⟨xn, xd, xt⟩ := x
        rw [show itc1 (ngI ⟨xn, xd, xt⟩) = [.int .i64 (lgI (notL (trI ⟨xn, xd, xt⟩))).num, .int .i64 (lgI (notL (trI ⟨xn, xd, xt⟩))).den, .string ⟨#[]⟩] from lgI_cells _] at HSS
        go_wp2_with (first
          | ((with_reducible refine wpl_alloc ?_); refine wpList_alloc_own rfl (by rfl) hO rfl (fun b => by simp only [Act.put, List.setIfInBounds_toArray, List.set_cons_succ, List.set_cons_zero]; rfl) ?_; (first | (refine nm 0 rfl ?_; clear hO; intro b0 u hO) | (refine nm 1 rfl ?_; clear hO; intro b1 u hO) | (refine nm 2 rfl ?_; clear hO; intro b2 u hO) | (refine nm 3 rfl ?_; clear hO; intro b3 u hO) | (refine nm 4 rfl ?_; clear hO; intro b4 u hO) | (refine nm 5 rfl ?_; clear hO; intro b5 u hO) | (refine nm 6 rfl ?_; clear hO; intro b6 u hO)); simp only [List.nil_append, List.cons_append] at hO)
          | ((with_reducible refine wpl_box ?_); refine wpList_box_own rfl (by rfl) hO rfl rfl (fun b => by simp only [Act.put, List.setIfInBounds_toArray, List.set_cons_succ, List.set_cons_zero]; rfl) ?_; (first | (refine nm 0 rfl ?_; clear hO; intro b0 u hO) | (refine nm 1 rfl ?_; clear hO; intro b1 u hO) | (refine nm 2 rfl ?_; clear hO; intro b2 u hO) | (refine nm 3 rfl ?_; clear hO; intro b3 u hO) | (refine nm 4 rfl ?_; clear hO; intro b4 u hO) | (refine nm 5 rfl ?_; clear hO; intro b5 u hO) | (refine nm 6 rfl ?_; clear hO; intro b6 u hO)); simp only [List.nil_append, List.cons_append] at hO)
          | ((with_reducible refine wpl_load ?_); first | (refine wpList_load_box rfl (by first | rfl | (simp only [Region.wanted, yielded, *]; go_simp; done) | (simp [Region.wanted, yielded, *]; done) | fail) hO rfl _ (by first | exact at0 | exact at1 | exact at2 | exact at3 | exact at4 | exact at5 | exact at6) (by rfl) (by simp only [Act.put, List.setIfInBounds_toArray, List.set_cons_succ, List.set_cons_zero]; rfl) ?_) | (refine wpList_load_field rfl (by first | rfl | (simp only [Region.wanted, yielded, *]; go_simp; done) | (simp [Region.wanted, yielded, *]; done) | fail) hO rfl _ (by first | exact at0 | exact at1 | exact at2 | exact at3 | exact at4 | exact at5 | exact at6) (by rfl) (by simp only [Act.put, List.setIfInBounds_toArray, List.set_cons_succ, List.set_cons_zero]; rfl) ?_))
          | ((with_reducible refine wpl_store ?_); first | (refine wpList_store_box rfl (by rfl) hO rfl _ (by first | exact at0 | exact at1 | exact at2 | exact at3 | exact at4 | exact at5 | exact at6) rfl (by rfl) (by rfl) (by rfl) (by rfl) (by rfl) ?_; clear hO; intro u hO; simp only [List.set_cons_zero, List.set_cons_succ] at hO) | (refine wpList_store_field rfl (by rfl) hO rfl _ (by first | exact at0 | exact at1 | exact at2 | exact at3 | exact at4 | exact at5 | exact at6) (Nat.le_of_ble_eq_true rfl) (by simp only [Act.eval, Array.getD_eq_getD_getElem?, List.getElem?_toArray, List.getElem?_cons_succ, List.getElem?_cons_zero, Option.getD_some]; rfl) (by rfl) (by rfl) (by rfl) ?_; clear hO; intro u hO; simp only [List.set_cons_zero, List.set_cons_succ] at hO))
          | fail)
        clear d0 d1 d2
        refine J.wp_region_c (n := 37) [0, 1, 2, 3, 4, 5] [6] (deps := fun i => [[], [0], [], [2], [2, 3], [2, 3, 4], [2, 3, 4, 5], [], [], []].getD i []) (fun _ _ => (J.freshS 62 [.int .i64 (lgI (notL (trI ⟨xn, xd, xt⟩))).num, .int .i64 (lgI (notL (trI ⟨xn, xd, xt⟩))).den, .string ⟨#[]⟩])) (r := 3) (lst := #[true, true, true, true, true, true, true, false, false, false]) (by kernel_rfl) (by kernel_rfl) (by kernel_rfl) rfl (by decide) (by kernel_rfl) hO ?_
        refine J.Chain.cons (by rfl) (by rfl) (fun M u hO K hK => by (simp only [wp_at_zero, wp_at_succ]; go_step; exact hK _ hO)) (by simp only [J.putL, List.getElem_toArray, List.getElem_cons_succ, List.getElem_cons_zero, J.dstOf, List.getElem?_toArray, List.getElem?_cons_succ, List.getElem?_cons_zero, Option.bind_some, List.getD_cons_succ, List.getD_cons_zero, Act.put, List.setIfInBounds_toArray, List.set_cons_succ, List.set_cons_zero]; rfl) ?_
        refine J.Chain.cons (by rfl) (by rfl) (fun M u hO K hK => by (first | exact wp_load_box hO rfl rfl _ (by first | exact at0 | exact at1 | exact at2 | exact at3 | exact at4 | exact at5 | exact at6) (by rfl) (by rfl) (hK _ hO) | exact wp_load_field hO rfl rfl _ (by first | exact at0 | exact at1 | exact at2 | exact at3 | exact at4 | exact at5 | exact at6) (by rfl) (by rfl) (hK _ hO))) (by simp only [J.putL, List.getElem_toArray, List.getElem_cons_succ, List.getElem_cons_zero, J.dstOf, List.getElem?_toArray, List.getElem?_cons_succ, List.getElem?_cons_zero, Option.bind_some, List.getD_cons_succ, List.getD_cons_zero, Act.put, List.setIfInBounds_toArray, List.set_cons_succ, List.set_cons_zero]; rfl) ?_
        refine J.Chain.cons (by rfl) (by rfl) (fun M u hO K hK => by (first | exact wp_load_box hO rfl rfl _ (by first | exact at0 | exact at1 | exact at2 | exact at3 | exact at4 | exact at5 | exact at6) (by rfl) (by rfl) (hK _ hO) | exact wp_load_field hO rfl rfl _ (by first | exact at0 | exact at1 | exact at2 | exact at3 | exact at4 | exact at5 | exact at6) (by rfl) (by rfl) (hK _ hO))) (by simp only [J.putL, List.getElem_toArray, List.getElem_cons_succ, List.getElem_cons_zero, J.dstOf, List.getElem?_toArray, List.getElem?_cons_succ, List.getElem?_cons_zero, Option.bind_some, List.getD_cons_succ, List.getD_cons_zero, Act.put, List.setIfInBounds_toArray, List.set_cons_succ, List.set_cons_zero]; rfl) ?_
        refine J.Chain.cons (by rfl) (by rfl) (fun M u hO K hK => by (simp only [wp_at_zero, wp_at_succ]; go_step; refine (impl_truth _ _ _ _).mono ?_; rintro e u ⟨rfl, hb⟩; first | exact hK _ (hO.step hb) | (subst hb; exact hK _ hO))) (by simp only [J.putL, List.getElem_toArray, List.getElem_cons_succ, List.getElem_cons_zero, J.dstOf, List.getElem?_toArray, List.getElem?_cons_succ, List.getElem?_cons_zero, Option.bind_some, List.getD_cons_succ, List.getD_cons_zero, Act.put, List.setIfInBounds_toArray, List.set_cons_succ, List.set_cons_zero]; rfl) ?_
        refine J.Chain.cons (by rfl) (by rfl) (fun M u hO K hK => by (simp only [wp_at_zero, wp_at_succ]; go_step; refine (impl_not _ _).mono ?_; rintro e u ⟨rfl, hb⟩; first | exact hK _ (hO.step hb) | (subst hb; exact hK _ hO))) (by simp only [J.putL, List.getElem_toArray, List.getElem_cons_succ, List.getElem_cons_zero, J.dstOf, List.getElem?_toArray, List.getElem?_cons_succ, List.getElem?_cons_zero, Option.bind_some, List.getD_cons_succ, List.getD_cons_zero, Act.put, List.setIfInBounds_toArray, List.set_cons_succ, List.set_cons_zero]; rfl) ?_
        refine J.Chain.cons (by rfl) (by rfl) (fun M u hO K hK => by (simp only [wp_at_zero, wp_at_succ]; go_step; refine (impl_logicalItem _ _).mono ?_; rintro e u ⟨rfl, hb⟩; first | exact hK _ (hO.step hb) | (subst hb; exact hK _ hO))) (by simp only [J.putL, List.getElem_toArray, List.getElem_cons_succ, List.getElem_cons_zero, J.dstOf, List.getElem?_toArray, List.getElem?_cons_succ, List.getElem?_cons_zero, Option.bind_some, List.getD_cons_succ, List.getD_cons_zero, Act.put, List.setIfInBounds_toArray, List.set_cons_succ, List.set_cons_zero]; rfl) ?_
        refine J.Chain.nil ⟨?_, ?_⟩
        · refine J.Each.cons (by rfl) ⟨rfl, fun vs M u hO _ K hK => wp_build_one (cs := [.int .i64 (lgI (notL (trI ⟨xn, xd, xt⟩))).num, .int .i64 (lgI (notL (trI ⟨xn, xd, xt⟩))).den, .string ⟨#[]⟩]) hO rfl (by simp only [Act.eval, Array.getD_eq_getD_getElem?, Option.getD_some, J.putL, List.getElem_toArray, List.getElem_cons_succ, List.getElem_cons_zero, J.dstOf, List.getElem?_toArray, List.getElem?_cons_succ, List.getElem?_cons_zero, Option.bind_some, List.getD_cons_succ, List.getD_cons_zero, Act.put, List.setIfInBounds_toArray, List.set_cons_succ, List.set_cons_zero]; rfl) rfl rfl (Nat.le_of_ble_eq_true rfl) rfl fun b u hO => hK _ _ _ ⟨b, rfl⟩ hO⟩ ?_; exact J.Each.nil
        intro vs u hO hF
        obtain ⟨b4, h6⟩ : J.freshS _ _ (vs 6) := hF 6 (by decide)
        clear hF
        simp only [List.flatMap_cons, List.flatMap_nil, h6, List.append_nil, List.nil_append, List.cons_append] at hO
        simp only [h6, J.putL, List.getElem_toArray, List.getElem_cons_succ, List.getElem_cons_zero, J.dstOf, List.getElem?_toArray, List.getElem?_cons_succ, List.getElem?_cons_zero, Option.bind_some, List.getD_cons_succ, List.getD_cons_zero, Act.put, List.setIfInBounds_toArray, List.set_cons_succ, List.set_cons_zero]
        clear h6 vs
        refine J.wpAny_one (i := 7) (by kernel_rfl) (by rfl) rfl fun K hK => ?_
        refine wp_append_box hO rfl rfl rfl _ (by first | exact at0 | exact at1 | exact at2 | exact at3 | exact at4 | exact at5 | exact at6 | exact at7) _ (by first | exact at0 | exact at1 | exact at2 | exact at3 | exact at4 | exact at5 | exact at6 | exact at7) (by rfl) (by simp [Value.oneCell']) (by omega) (by omega) rfl ?_
        clear hO
        intro A' c' u hO
        simp only [List.set_cons_zero, List.set_cons_succ] at hO
        simp only [Act.put, List.setIfInBounds_toArray, List.set_cons_succ, List.set_cons_zero]
        refine hK _ _ ?_
        clear hK K
        refine J.wpAny_one (i := 8) (by kernel_rfl) (by rfl) rfl fun K hK => ?_
        simp only [wp_at_zero, wp_at_succ]
        go_step
        refine hK _ _ ?_
        clear hK K
        refine J.wpAny_one (i := 9) (by kernel_rfl) (by rfl) rfl fun K hK => ?_
        first
          | (refine wp_store_box hO rfl rfl _ (by first | exact at0 | exact at1 | exact at2 | exact at3 | exact at4 | exact at5 | exact at6) rfl (by rfl) (by rfl) (by rfl) (by rfl) (by rfl) ?_; clear hO; intro u hO; simp only [List.set_cons_zero, List.set_cons_succ] at hO; refine hK _ _ ?_; clear hK K)
          | (refine wp_store_field hO rfl rfl _ (by first | exact at0 | exact at1 | exact at2 | exact at3 | exact at4 | exact at5 | exact at6) (Nat.le_of_ble_eq_true rfl) (by simp only [Act.eval, Array.getD_eq_getD_getElem?, List.getElem?_toArray, List.getElem?_cons_succ, List.getElem?_cons_zero, Option.getD_some]; rfl) (by rfl) (by rfl) (by rfl) ?_; clear hO; intro u hO; simp only [List.set_cons_zero, List.set_cons_succ] at hO; refine hK _ _ ?_; clear hK K)
        refine wpAny_done (by kernel_rfl) ?_ _
        go_wp2_with (first
          | ((with_reducible refine wpl_alloc ?_); refine wpList_alloc_own rfl (by rfl) hO rfl (fun b => by simp only [Act.put, List.setIfInBounds_toArray, List.set_cons_succ, List.set_cons_zero]; rfl) ?_; (first | (refine nm 0 rfl ?_; clear hO; intro b0 u hO) | (refine nm 1 rfl ?_; clear hO; intro b1 u hO) | (refine nm 2 rfl ?_; clear hO; intro b2 u hO) | (refine nm 3 rfl ?_; clear hO; intro b3 u hO) | (refine nm 4 rfl ?_; clear hO; intro b4 u hO) | (refine nm 5 rfl ?_; clear hO; intro b5 u hO) | (refine nm 6 rfl ?_; clear hO; intro b6 u hO)); simp only [List.nil_append, List.cons_append] at hO)
          | ((with_reducible refine wpl_box ?_); refine wpList_box_own rfl (by rfl) hO rfl rfl (fun b => by simp only [Act.put, List.setIfInBounds_toArray, List.set_cons_succ, List.set_cons_zero]; rfl) ?_; (first | (refine nm 0 rfl ?_; clear hO; intro b0 u hO) | (refine nm 1 rfl ?_; clear hO; intro b1 u hO) | (refine nm 2 rfl ?_; clear hO; intro b2 u hO) | (refine nm 3 rfl ?_; clear hO; intro b3 u hO) | (refine nm 4 rfl ?_; clear hO; intro b4 u hO) | (refine nm 5 rfl ?_; clear hO; intro b5 u hO) | (refine nm 6 rfl ?_; clear hO; intro b6 u hO)); simp only [List.nil_append, List.cons_append] at hO)
          | ((with_reducible refine wpl_load ?_); first | (refine wpList_load_box rfl (by first | rfl | (simp only [Region.wanted, yielded, *]; go_simp; done) | (simp [Region.wanted, yielded, *]; done) | fail) hO rfl _ (by first | exact at0 | exact at1 | exact at2 | exact at3 | exact at4 | exact at5 | exact at6) (by rfl) (by simp only [Act.put, List.setIfInBounds_toArray, List.set_cons_succ, List.set_cons_zero]; rfl) ?_) | (refine wpList_load_field rfl (by first | rfl | (simp only [Region.wanted, yielded, *]; go_simp; done) | (simp [Region.wanted, yielded, *]; done) | fail) hO rfl _ (by first | exact at0 | exact at1 | exact at2 | exact at3 | exact at4 | exact at5 | exact at6) (by rfl) (by simp only [Act.put, List.setIfInBounds_toArray, List.set_cons_succ, List.set_cons_zero]; rfl) ?_))
          | ((with_reducible refine wpl_store ?_); first | (refine wpList_store_box rfl (by rfl) hO rfl _ (by first | exact at0 | exact at1 | exact at2 | exact at3 | exact at4 | exact at5 | exact at6) rfl (by rfl) (by rfl) (by rfl) (by rfl) (by rfl) ?_; clear hO; intro u hO; simp only [List.set_cons_zero, List.set_cons_succ] at hO) | (refine wpList_store_field rfl (by rfl) hO rfl _ (by first | exact at0 | exact at1 | exact at2 | exact at3 | exact at4 | exact at5 | exact at6) (Nat.le_of_ble_eq_true rfl) (by simp only [Act.eval, Array.getD_eq_getD_getElem?, List.getElem?_toArray, List.getElem?_cons_succ, List.getElem?_cons_zero, Option.getD_some]; rfl) (by rfl) (by rfl) (by rfl) ?_; clear hO; intro u hO; simp only [List.set_cons_zero, List.set_cons_succ] at hO))
          | fail)
        replace hO := hO.pick [0, 1, 2, 3, 4] (by decide)
        simp only [List.filterMap_cons, List.filterMap_nil, List.getElem?_cons_zero, List.getElem?_cons_succ] at hO
        rw [← HSS.out] at hO
        go_roundw
        case rel => exact ⟨m + 1, _, _, by omega, by go_num, hO⟩
        case measure => simp [intOf]; omega
      · have hmn : m = is.length := by omega
        subst hmn
        have HN : Hid (is.length = (is.map ngI).length) := Lib.hid (by rw [List.length_map])
        rw [List.take_length] at hO
        go_wp2_with (first
          | ((with_reducible refine wpl_alloc ?_); refine wpList_alloc_own rfl (by rfl) hO rfl (fun b => by simp only [Act.put, List.setIfInBounds_toArray, List.set_cons_succ, List.set_cons_zero]; rfl) ?_; (first | (refine nm 0 rfl ?_; clear hO; intro b0 u hO) | (refine nm 1 rfl ?_; clear hO; intro b1 u hO) | (refine nm 2 rfl ?_; clear hO; intro b2 u hO) | (refine nm 3 rfl ?_; clear hO; intro b3 u hO) | (refine nm 4 rfl ?_; clear hO; intro b4 u hO) | (refine nm 5 rfl ?_; clear hO; intro b5 u hO) | (refine nm 6 rfl ?_; clear hO; intro b6 u hO)); simp only [List.nil_append, List.cons_append] at hO)
          | ((with_reducible refine wpl_box ?_); refine wpList_box_own rfl (by rfl) hO rfl rfl (fun b => by simp only [Act.put, List.setIfInBounds_toArray, List.set_cons_succ, List.set_cons_zero]; rfl) ?_; (first | (refine nm 0 rfl ?_; clear hO; intro b0 u hO) | (refine nm 1 rfl ?_; clear hO; intro b1 u hO) | (refine nm 2 rfl ?_; clear hO; intro b2 u hO) | (refine nm 3 rfl ?_; clear hO; intro b3 u hO) | (refine nm 4 rfl ?_; clear hO; intro b4 u hO) | (refine nm 5 rfl ?_; clear hO; intro b5 u hO) | (refine nm 6 rfl ?_; clear hO; intro b6 u hO)); simp only [List.nil_append, List.cons_append] at hO)
          | ((with_reducible refine wpl_load ?_); first | (refine wpList_load_box rfl (by first | rfl | (simp only [Region.wanted, yielded, *]; go_simp; done) | (simp [Region.wanted, yielded, *]; done) | fail) hO rfl _ (by first | exact at0 | exact at1 | exact at2 | exact at3 | exact at4 | exact at5 | exact at6) (by rfl) (by simp only [Act.put, List.setIfInBounds_toArray, List.set_cons_succ, List.set_cons_zero]; rfl) ?_) | (refine wpList_load_field rfl (by first | rfl | (simp only [Region.wanted, yielded, *]; go_simp; done) | (simp [Region.wanted, yielded, *]; done) | fail) hO rfl _ (by first | exact at0 | exact at1 | exact at2 | exact at3 | exact at4 | exact at5 | exact at6) (by rfl) (by simp only [Act.put, List.setIfInBounds_toArray, List.set_cons_succ, List.set_cons_zero]; rfl) ?_))
          | ((with_reducible refine wpl_store ?_); first | (refine wpList_store_box rfl (by rfl) hO rfl _ (by first | exact at0 | exact at1 | exact at2 | exact at3 | exact at4 | exact at5 | exact at6) rfl (by rfl) (by rfl) (by rfl) (by rfl) (by rfl) ?_; clear hO; intro u hO; simp only [List.set_cons_zero, List.set_cons_succ] at hO) | (refine wpList_store_field rfl (by rfl) hO rfl _ (by first | exact at0 | exact at1 | exact at2 | exact at3 | exact at4 | exact at5 | exact at6) (Nat.le_of_ble_eq_true rfl) (by simp only [Act.eval, Array.getD_eq_getD_getElem?, List.getElem?_toArray, List.getElem?_cons_succ, List.getElem?_cons_zero, Option.getD_some]; rfl) (by rfl) (by rfl) (by rfl) ?_; clear hO; intro u hO; simp only [List.set_cons_zero, List.set_cons_succ] at hO))
          | fail)
        have hR := hO.pick [4, 3] (by decide)
        simp only [List.filterMap_cons, List.filterMap_nil, List.getElem?_cons_zero, List.getElem?_cons_succ] at hR
        have hq := HN.out
        refine ret_box2 rfl hO rfl 1 at1 rfl rfl rfl ?_
        clear hO
        rw [hq] at hR ⊢
        obtain ⟨F, hvo, hF⟩ := Own.vecN hR 1
        exact ⟨_, _, by rw [HG.out]; rfl, by rw [HF.out]; exact hvo, hF⟩

end Go.Proofs.Ytnofigjpcgkogaa
