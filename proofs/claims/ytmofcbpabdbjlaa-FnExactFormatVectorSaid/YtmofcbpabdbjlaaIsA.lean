/-
  What is proved: the reference's tests and counts of vectors; the statements on IsVector, CellCount and LengthOf.
  Condition: vectors of size at most 1048576.
-/
import Derived.Test.YtmofcbpabdbjlaaLis
import Derived.Test.YtmofcbpabdbjlaaLa
import Derived.Test.YtmofcbpabdbjlaaLc
import Derived.Test.YtmofcbpabdbjlaaJ
import Derived.Deep.DrawnRows
namespace Go.Proofs.Ytmofcbpabdbjlaa
set_option maxRecDepth 8000
open Go.RowKit Go.ChangeShapes Go.WideShapes
set_option linter.unusedVariables false
set_option linter.unusedSimpArgs false

set_option maxHeartbeats 1000000 in
theorem spec_cells (t : VT) : PCells 130 t := by
  induction t using VT.ind with
  | _ k is ps ns cs ls c e ih =>
    intro vs w hv hz
    obtain ⟨hzp, hzn⟩ := szV_partsG hz
    obtain ⟨Ai, Ap, An, Ac, Al, ci, cp, cn, cc, cl, pvs, rfl, h1, h2, h3, h4, h5⟩ := hv.open
    have HE : Hid (cellsV (.mk k is ps ns cs ls c e) = lenN k is.length ps.length + cellsL ps) := Lib.hid rfl
    have hbd := cellsL_sz ps
    have CL := fun u => spec_len k Ai Ap is.length ps.length ci cp (.slice An ns.length cn) (.slice Ac cs.length cc) (.slice Al ls.length cl) (.int .i64 c) (.int .i64 e) u (by omega)
    obtain ⟨n, hn⟩ : ∃ n, lenN k is.length ps.length = n := ⟨_, rfl⟩
    rw [hn] at CL HE
    have hn2 : n ≤ 268435457 := by rw [← hn]; unfold lenN; split <;> omega
    clear hv hz hn
    have HB := Lib.hid (show cellsL ps ≤ 536870912 by omega)
    clear hbd
    go_enter Try.func130, Try.ntmps130
    have hO := Own.nil w
    go_wp2_with (first
      | ((with_reducible refine (CL _).mono ?_); rintro e u ⟨rfl, hb⟩; (replace hO := hO.step hb; clear hb))
      | ((with_reducible refine wpl_box ?_); refine wpList_box_own rfl (by rfl) hO rfl rfl (fun b => by simp only [Act.put, zA, zB, zC]; rfl) ?_; (refine nm 0 rfl ?_; clear hO; intro b0 u hO); simp only [zL, zK] at hO)
      | ((with_reducible refine wpl_load ?_); refine wpList_load_box rfl (by rfl) hO rfl _ (by exact at0) (by rfl) (by simp only [Act.put, zA, zB, zC]; rfl) ?_)
      | fail)
    go_loopw [3, 4] (fun s i u => ∃ m : Nat, m ≤ ps.length ∧ i = .int .i64 m ∧ s = .int .i64 ((n + cellsL (ps.take m) : Nat) : Int) ∧ Own w [box b0 29 [.int .i64 k, .slice Ai is.length ci, .slice Ap ps.length cp, .slice An ns.length cn, .slice Ac cs.length cc, .slice Al ls.length cl, .int .i64 c, .int .i64 e]] u) (fun _ i _ => ps.length - (intOf i).toNat)
    case atStart => exact ⟨0, Nat.zero_le _, rfl, rfl, hO⟩
    case round =>
      clear hO
      obtain ⟨m, hm, rfl, rfl, hO⟩ := hrel
      by_cases hlt : m < ps.length
      · have hp := ih _ (List.getElem_mem hlt)
        have hps := szL_memG hzp hlt
        have HS := Lib.hid (cellsL_succ hlt)
        have hle2 : cellsL (ps.take (m + 1)) ≤ cellsL ps := by
          have := cellsL_app (ps.take (m + 1)) (ps.drop (m + 1))
          rw [List.take_append_drop] at this
          omega
        have HB2 := Lib.hid (Nat.le_trans hle2 HB.out)
        clear hle2
        obtain ⟨x, hx⟩ : ∃ x, ps[m]'hlt = x := ⟨_, rfl⟩
        obtain ⟨xk, xi, xp, xn, xc, xl, xo, xe⟩ := x
        obtain ⟨b, off, rfl, hb, Bi, Bp, Bn, Bc, Bl, di, dp, dn, dc, dl, hrd, c0, c1, c2, c3, c4, c5, c6, c7⟩ := h2.ptc hO.below hlt hx
        rw [hx] at hp hps HS
        clear hx
        have hq2 : cellsL (ps.take m) + cellsV (.mk xk xi xp xn xc xl xo xe) ≤ 536870912 := by rw [← HS.out]; exact HB2.out
        obtain ⟨q, hq⟩ : ∃ q, cellsL (ps.take m) = q := ⟨_, rfl⟩
        rw [hq] at HS hq2
        rw [hq]
        obtain ⟨z, hzz⟩ : ∃ z, cellsV (.mk xk xi xp xn xc xl xo xe) = z := ⟨_, rfl⟩
        rw [hzz] at HS hq2
        have HZ := Lib.hid hzz
        clear hq hzz HB2
        go_wp2_with (first
          | ((with_reducible refine wpl_load ?_); refine wpList_load_field rfl (by rfl) hO rfl _ (by exact at0) (by rfl) (by simp only [Act.put, zA, zB, zC]; rfl) ?_)
          | fail)
        refine (hp _ _ (hrd.grow hO.below) hps).mono ?_
        rintro e u ⟨rfl, hb⟩
        (replace hO := hO.step hb; clear hb)
        rw [HZ.out]
        go_wp2_with (first
          | ((with_reducible refine wpl_alloc ?_); refine wpList_alloc_own rfl (by rfl) hO rfl (fun b => by simp only [Act.put, zA, zB, zC]; rfl) ?_; (first | (refine nm 0 rfl ?_; clear hO; intro b0 u hO) | (refine nm 1 rfl ?_; clear hO; intro b1 u hO) | (refine nm 2 rfl ?_; clear hO; intro b2 u hO)); simp only [zL, zK] at hO)
          | ((with_reducible refine wpl_box ?_); refine wpList_box_own rfl (by rfl) hO rfl rfl (fun b => by simp only [Act.put, zA, zB, zC]; rfl) ?_; (first | (refine nm 0 rfl ?_; clear hO; intro b0 u hO) | (refine nm 1 rfl ?_; clear hO; intro b1 u hO) | (refine nm 2 rfl ?_; clear hO; intro b2 u hO)); simp only [zL, zK] at hO)
          | ((with_reducible refine wpl_load ?_); refine wpList_load_box rfl (by (first | rfl | (simp only [Region.wanted, yielded, *]; go_simp; done) | (simp [Region.wanted, yielded, *]; done) | fail)) hO rfl _ (by (first | exact at0 | exact at1 | exact at2)) (by rfl) (by simp only [Act.put, zA, zB, zC]; rfl) ?_)
          | ((with_reducible refine wpl_load ?_); refine wpList_load_field rfl (by (first | rfl | (simp only [Region.wanted, yielded, *]; go_simp; done) | (simp [Region.wanted, yielded, *]; done) | fail)) hO rfl _ (by (first | exact at0 | exact at1 | exact at2)) (by rfl) (by simp only [Act.put, zA, zB, zC]; rfl) ?_)
          | ((with_reducible refine wpl_store ?_); refine wpList_store_box rfl (by rfl) hO rfl _ (by (first | exact at0 | exact at1 | exact at2)) rfl (by rfl) (by rfl) (by rfl) (by rfl) (by rfl) ?_; clear hO; intro u hO; simp only [zC, zB] at hO)
          | ((with_reducible refine wpl_store ?_); refine wpList_store_field rfl (by rfl) hO rfl _ (by (first | exact at0 | exact at1 | exact at2)) (zM rfl) (by simp only [Act.eval, zJ, zF, zD, zE, zP]; rfl) (by rfl) (by rfl) (by rfl) ?_; clear hO; intro u hO; simp only [zC, zB] at hO)
          | fail)
        go_roundw
        case rel => exact ⟨m + 1, by omega, by go_num, by rw [HS.out]; exact congrArg (Value.int .i64) (by omega), hO⟩
        case measure => simp [intOf]; omega
      · have hmn : m = ps.length := by omega
        subst hmn
        rw [List.take_length]
        go_wp2_with (first
          | ((with_reducible refine wpl_load ?_); refine wpList_load_field rfl (by rfl) hO rfl _ (by exact at0) (by rfl) (by simp only [Act.put, zA, zB, zC]; rfl) ?_)
          | fail)
        go_ret
        exact ⟨ret_int (by rw [HE.out]), hO.below⟩

theorem spec_isVecG (t : VT) (vs : List Value) (w : World) (hv : RdV w t vs) (hz : szV t ≤ 268435456) : Calls Try.prog 55 #[.agg vs.toArray] w fun e w' => e = .returned (.bool (isV t)) ∧ Below w.heap.size w w' := by
  have HE : Hid (isV t = (lB 3 t && decide (cellsV t ≤ 200))) := Lib.hid rfl
  have CP : ∀ u, Below w.heap.size w u → Calls Try.prog 129 #[.agg vs.toArray, .int .i64 3] u fun e w' => e = .returned (.bool (lB 3 t)) ∧ Below u.heap.size u w' := fun u hb => spec_lis t vs 3 u (by omega) (hv.grow hb) hz
  have CC := fun u (hb : Below w.heap.size w u) => spec_cells t vs u (hv.grow hb) hz
  obtain ⟨b, hb⟩ : ∃ a, lB 3 t = a := ⟨_, rfl⟩
  obtain ⟨c, hc⟩ : ∃ a, cellsV t = a := ⟨_, rfl⟩
  rw [hb] at CP HE
  rw [hc] at CC HE
  clear hb hc
  obtain ⟨xk, xi, xp, xn, xc, xl, xo, xe⟩ := t
  obtain ⟨Ai, Ap, An, Ac, Al, ci, cp, cn, cc, cl, pvs, rfl, h1, h2, h3, h4, h5⟩ := hv.open
  clear h1 h2 h3 h4 h5 hv hz
  cases b with
  | false =>
    go_enter Try.func55, Try.ntmps55
    have hO := Own.nil w
    go_wp2_with (first
      | ((with_reducible refine (CP _ hO.below).mono ?_); rintro e u ⟨rfl, hb⟩; (replace hO := hO.step hb; clear hb))
      | ((with_reducible refine wpl_box ?_); refine wpList_box_own rfl (by rfl) hO rfl rfl (fun b => by simp only [Act.put, zA, zB, zC]; rfl) ?_; (refine nm 0 rfl ?_; clear hO; intro b0 u hO); simp only [zL, zK] at hO)
      | ((with_reducible refine wpl_load ?_); refine wpList_load_box rfl (by rfl) hO rfl _ (by exact at0) (by rfl) (by simp only [Act.put, zA, zB, zC]; rfl) ?_)
      | fail)
    go_ret
    exact ⟨ret_bool (by rw [HE.out]; rfl), hO.below⟩
  | true =>
    by_cases g2 : c ≤ 200
    · have D2 := Lib.hid (decide_eq_true g2)
      go_enter Try.func55, Try.ntmps55
      have hO := Own.nil w
      go_wp2_with (first
        | ((with_reducible refine (CP _ hO.below).mono ?_); rintro e u ⟨rfl, hb⟩; (replace hO := hO.step hb; clear hb))
        | ((with_reducible refine (CC _ hO.below).mono ?_); rintro e u ⟨rfl, hb⟩; (replace hO := hO.step hb; clear hb))
        | ((with_reducible refine wpl_box ?_); refine wpList_box_own rfl (by rfl) hO rfl rfl (fun b => by simp only [Act.put, zA, zB, zC]; rfl) ?_; (refine nm 0 rfl ?_; clear hO; intro b0 u hO); simp only [zL, zK] at hO)
        | ((with_reducible refine wpl_load ?_); refine wpList_load_box rfl (by rfl) hO rfl _ (by exact at0) (by rfl) (by simp only [Act.put, zA, zB, zC]; rfl) ?_)
        | fail)
      go_ret
      exact ⟨ret_bool (by rw [HE.out, D2.out]; first | rfl | (simp; done) | (simp; omega)), hO.below⟩
    · have D2 := Lib.hid (decide_eq_false g2)
      go_enter Try.func55, Try.ntmps55
      have hO := Own.nil w
      go_wp2_with (first
        | ((with_reducible refine (CP _ hO.below).mono ?_); rintro e u ⟨rfl, hb⟩; (replace hO := hO.step hb; clear hb))
        | ((with_reducible refine (CC _ hO.below).mono ?_); rintro e u ⟨rfl, hb⟩; (replace hO := hO.step hb; clear hb))
        | ((with_reducible refine wpl_box ?_); refine wpList_box_own rfl (by rfl) hO rfl rfl (fun b => by simp only [Act.put, zA, zB, zC]; rfl) ?_; (refine nm 0 rfl ?_; clear hO; intro b0 u hO); simp only [zL, zK] at hO)
        | ((with_reducible refine wpl_load ?_); refine wpList_load_box rfl (by rfl) hO rfl _ (by exact at0) (by rfl) (by simp only [Act.put, zA, zB, zC]; rfl) ?_)
        | fail)
      go_ret
      exact ⟨ret_bool (by rw [HE.out, D2.out]; first | rfl | (simp; done) | (simp; omega)), hO.below⟩

theorem spec_isVec (t : VT) (vs : List Value) (w : World) (hv : RdV w t vs) (hz : szV t ≤ 1048576) : Calls Try.prog 55 #[.agg vs.toArray] w fun e w' => e = .returned (.bool (isV t)) ∧ Below w.heap.size w w' := spec_isVecG t vs w hv (Nat.le_trans hz (by decide))

/-- a vector that a callee hands back -/
def J.freshV (t : VT) : Value × List Res → Prop := fun x => ∃ vs F, x = (.agg vs.toArray, [pack F]) ∧ VO t vs F

/-- a copy of a vector, its eight cells written out -/
theorem laws_toVecC (k : Int) (is : List It) (ps : List VT) (ns cs ls : List ByteArray) (c e : Int) (vs : List Value) (w : World) (hv : RdV w (.mk k is ps ns cs ls c e) vs) (hz : szV (.mk k is ps ns cs ls c e) ≤ 1048576) :
    Calls Try.prog 31 #[.agg vs.toArray] w fun e' w' => ∃ (Ai Ap An Ac Al : Option Addr) (ci cp cn cc cl : Nat) (F : List Res), e' = .returned (.agg #[.int .i64 k, .slice Ai is.length ci, .slice Ap ps.length cp, .slice An ns.length cn, .slice Ac cs.length cc, .slice Al ls.length cl, .int .i64 c, .int .i64 e]) ∧
      VO (.mk k is ps ns cs ls c e) [.int .i64 k, .slice Ai is.length ci, .slice Ap ps.length cp, .slice An ns.length cn, .slice Ac cs.length cc, .slice Al ls.length cl, .int .i64 c, .int .i64 e] F ∧ Own w [pack F] w' :=
  (laws_toVec _ vs w hv hz).mono fun e' w' ⟨vs', F, he, hvo, hO⟩ => by
    obtain ⟨Ai, Ap, An, Ac, Al, ci, cp, cn, cc, cl, pvs, Ls, rfl, _⟩ := hvo.open
    exact ⟨Ai, Ap, An, Ac, Al, ci, cp, cn, cc, cl, F, he, hvo, hO⟩

end Go.Proofs.Ytmofcbpabdbjlaa
