/-
  What is proved: what LogicOf says of two vectors, in plain Lean; the function that it computes each element with; vectors of items whose names are laid anew.
  Condition: none beyond those of the theorems.
-/
import Derived.Test.YtmofcbpabdbjlaaPw
import Derived.Deep.Cut
namespace Go.Proofs.Ytmofcbpabdbjlaa
set_option maxRecDepth 8000
open Go.RowKit Go.ChangeShapes Go.WideShapes Go.Deep
set_option linter.unusedVariables false
set_option linter.unusedSimpArgs false

def unkS : ByteArray := ⟨#[117, 110, 107, 110, 111, 119, 110, 32, 111, 112, 101, 114, 97, 116, 111, 114]⟩
def lgV (op : ByteArray) (x y : It) : Int := if op.toList == [38] then andL (trI x) (trI y) else orL (trI x) (trI y)
def lgF (op : ByteArray) (x y : It) : It := lgI (lgV op x y)
def opL (op : ByteArray) : Bool := (op.toList == [38]) || (op.toList == [124])
/-- the vector of a result computed from two operands -/
def twoT (kind : Int) (G : It → It → It) (a b : VT) : VT := vecN kind (pwL (atI a.items) (atI b.items) G (recN a.items.length b.items.length)) (nmQ (recN a.items.length b.items.length) (lenV a) a.names (lenV b) b.names)
def loT (op : ByteArray) (a b : VT) : VT := if isV a && isV b then (if opL op then (if cntK a.kind a.levels.length && cntK b.kind b.levels.length then (if recB a.items.length b.items.length then twoT 1 (lgF op) a b else vecI 0 []) else vecI 0 []) else vecI 0 []) else vecI 0 []
def loS (op : ByteArray) (a b : VT) : ByteArray := if isV a && isV b then (if opL op then (if cntK a.kind a.levels.length && cntK b.kind b.levels.length then (if recB a.items.length b.items.length then ⟨#[]⟩ else difS) else nonLogS) else unkS) else badS

/-- an owned vector of items, cell by cell, and a string -/
theorem RetVS.exI {k : Int} {is : List It} {s : ByteArray} {u w' : World} {e : Ending} (h : RetVS (vecI k is) s u e w') :
    ∃ (Q1 Q2 Q3 Q4 Q5 : Option Addr) (m1 m2 m3 m4 m5 : Nat) (F : List Res), e = .returned (.tuple #[.agg #[.int .i64 k, .slice Q1 is.length m1, .slice Q2 0 m2, .slice Q3 0 m3, .slice Q4 0 m4, .slice Q5 0 m5, .int .i64 0, .int .i64 0], .string s]) ∧
      VO (vecI k is) [.int .i64 k, .slice Q1 is.length m1, .slice Q2 0 m2, .slice Q3 0 m3, .slice Q4 0 m4, .slice Q5 0 m5, .int .i64 0, .int .i64 0] F ∧ Own u [pack F] w' := by
  obtain ⟨vs, F, rfl, hvo, hO⟩ := h
  obtain ⟨Q1, Q2, Q3, Q4, Q5, m1, m2, m3, m4, m5, rfl⟩ := hvo.ex
  exact ⟨Q1, Q2, Q3, Q4, Q5, m1, m2, m3, m4, m5, F, rfl, hvo, hO⟩

set_option maxHeartbeats 1000000 in
theorem impl_lgF (op : ByteArray) (b : Nat) (xn xd : Int) (xt : ByteArray) (yn yd : Int) (yt : ByteArray) (w : World) (hb : b < w.heap.size) (hc : w.cell? ⟨b, 0, none⟩ = some (.string op)) :
    Calls Try.prog 113 #[.agg #[.int .i64 xn, .int .i64 xd, .string xt], .agg #[.int .i64 yn, .int .i64 yd, .string yt], .pointer (some ⟨b, 0, none⟩)] w fun e w' => e = .returned (.agg #[.int .i64 (lgF op ⟨xn, xd, xt⟩ ⟨yn, yd, yt⟩).num, .int .i64 (lgF op ⟨xn, xd, xt⟩ ⟨yn, yd, yt⟩).den, .string (lgF op ⟨xn, xd, xt⟩ ⟨yn, yd, yt⟩).text]) ∧ Below w.heap.size w w' := by
  have HX : Hid ((lgF op ⟨xn, xd, xt⟩ ⟨yn, yd, yt⟩).text = ⟨#[]⟩) := Lib.hid (by unfold lgF lgI; split <;> rfl)
  cases hq : (op.toList == [38]) with
  | true =>
    have HF : Hid (lgF op ⟨xn, xd, xt⟩ ⟨yn, yd, yt⟩ = lgI (andL (trI ⟨xn, xd, xt⟩) (trI ⟨yn, yd, yt⟩))) := Lib.hid (by unfold lgF lgV; rw [hq]; rfl)
    go_enter Try.func113, Try.ntmps113
    have hO := Own.nil w
    go_upto_region 1 with (first
      | ((with_reducible refine wpl_alloc ?_); refine wpList_alloc_own rfl (by rfl) hO rfl (fun b => by simp only [Act.put, zA, zB, zC]; rfl) ?_; (refine nm 2 rfl ?_; clear hO; intro b2 u hO); simp only [zL, zK] at hO)
      | ((with_reducible refine wpl_box ?_); refine wpList_box_own rfl (by rfl) hO rfl rfl (fun b => by simp only [Act.put, zA, zB, zC]; rfl) ?_; (first | (refine nm 0 rfl ?_; clear hO; intro b0 u hO) | (refine nm 1 rfl ?_; clear hO; intro b1 u hO) | fail); simp only [zL, zK] at hO)
      | fail)
    have e0 := (hO.old hb).trans hc
    go_upto_region 2 with fail
    refine J.wp_region_c (n := 20) [0, 1, 2, 3, 4, 5] [] (deps := fun i => [[], [0], [], [2], [0, 1, 2, 3], [0, 1, 2, 3, 4], []].getD i []) (fun _ _ _ => True) (r := 1) (lst := #[true, true, true, true, true, true, false]) (by kernel_rfl) (by kernel_rfl) (by kernel_rfl) rfl (by decide) (by kernel_rfl) hO ?_
    refine J.Chain.cons (by rfl) (by rfl) (fun M u hO K hK => by (exact wp_load_box hO rfl rfl _ (by exact at0) (by rfl) (by rfl) (hK _ hO))) (by simp only [J.putL, zI, zG, zH, J.dstOf, zF, zD, zE, zS, zQ, zR, Act.put, zA, zB, zC]; rfl) ?_
    refine J.Chain.cons (by rfl) (by rfl) (fun M u hO K hK => by (simp only [wp_at_zero, wp_at_succ]; go_step; refine (impl_truth _ _ _ _).mono ?_; rintro e u ⟨rfl, hb⟩; exact hK _ (hO.step hb))) (by simp only [J.putL, zI, zG, zH, J.dstOf, zF, zD, zE, zS, zQ, zR, Act.put, zA, zB, zC]; rfl) ?_
    refine J.Chain.cons (by rfl) (by rfl) (fun M u hO K hK => by (exact wp_load_box hO rfl rfl _ (by exact at1) (by rfl) (by rfl) (hK _ hO))) (by simp only [J.putL, zI, zG, zH, J.dstOf, zF, zD, zE, zS, zQ, zR, Act.put, zA, zB, zC]; rfl) ?_
    refine J.Chain.cons (by rfl) (by rfl) (fun M u hO K hK => by (simp only [wp_at_zero, wp_at_succ]; go_step; refine (impl_truth _ _ _ _).mono ?_; rintro e u ⟨rfl, hb⟩; exact hK _ (hO.step hb))) (by simp only [J.putL, zI, zG, zH, J.dstOf, zF, zD, zE, zS, zQ, zR, Act.put, zA, zB, zC]; rfl) ?_
    refine J.Chain.cons (by rfl) (by rfl) (fun M u hO K hK => by (simp only [wp_at_zero, wp_at_succ]; go_step; refine (impl_and _ _ _).mono ?_; rintro e u ⟨rfl, hb⟩; (subst hb; exact hK _ hO))) (by simp only [J.putL, zI, zG, zH, J.dstOf, zF, zD, zE, zS, zQ, zR, Act.put, zA, zB, zC]; rfl) ?_
    refine J.Chain.cons (by rfl) (by rfl) (fun M u hO K hK => by (simp only [wp_at_zero, wp_at_succ]; go_step; refine (impl_logicalItem _ _).mono ?_; rintro e u ⟨rfl, hb⟩; exact hK _ (hO.step hb))) (by simp only [J.putL, zI, zG, zH, J.dstOf, zF, zD, zE, zS, zQ, zR, Act.put, zA, zB, zC]; rfl) ?_
    refine J.Chain.nil ⟨?_, ?_⟩
    · exact J.Each.nil
    intro vs u hO hF
    clear hF
    simp only [List.flatMap_cons, List.flatMap_nil, List.append_nil, zL, zK] at hO
    simp only [J.putL]
    clear vs
    refine J.wpAny_one (i := 6) (by kernel_rfl) (by rfl) rfl fun K hK => ?_
    (refine wp_store_box hO rfl rfl _ (by exact at2) rfl (by rfl) (by rfl) (by rfl) (by rfl) (by rfl) ?_; clear hO; intro u hO; simp only [zC, zB] at hO; refine hK _ _ ?_; clear hK K)
    refine wpAny_done (by kernel_rfl) ?_ _
    go_wp2_with (first
      | ((with_reducible refine wpl_alloc ?_); refine wpList_alloc_own rfl (by rfl) hO rfl (fun b => by simp only [Act.put, zA, zB, zC]; rfl) ?_; (first | (refine nm 0 rfl ?_; clear hO; intro b0 u hO) | (refine nm 1 rfl ?_; clear hO; intro b1 u hO) | (refine nm 2 rfl ?_; clear hO; intro b2 u hO) | (refine nm 3 rfl ?_; clear hO; intro b3 u hO)); simp only [zL, zK] at hO)
      | ((with_reducible refine wpl_box ?_); refine wpList_box_own rfl (by rfl) hO rfl rfl (fun b => by simp only [Act.put, zA, zB, zC]; rfl) ?_; (first | (refine nm 0 rfl ?_; clear hO; intro b0 u hO) | (refine nm 1 rfl ?_; clear hO; intro b1 u hO) | (refine nm 2 rfl ?_; clear hO; intro b2 u hO) | (refine nm 3 rfl ?_; clear hO; intro b3 u hO)); simp only [zL, zK] at hO)
      | ((with_reducible refine wpl_load ?_); refine wpList_load_box rfl (by (first | rfl | (simp only [Region.wanted, yielded, *]; go_simp; done) | (simp [Region.wanted, yielded, *]; done) | fail)) hO rfl _ (by (first | exact at0 | exact at1 | exact at2 | exact at3)) (by rfl) (by simp only [Act.put, zA, zB, zC]; rfl) ?_)
      | ((with_reducible refine wpl_load ?_); refine wpList_load_field rfl (by (first | rfl | (simp only [Region.wanted, yielded, *]; go_simp; done) | (simp [Region.wanted, yielded, *]; done) | fail)) hO rfl _ (by (first | exact at0 | exact at1 | exact at2 | exact at3)) (by rfl) (by simp only [Act.put, zA, zB, zC]; rfl) ?_)
      | ((with_reducible refine wpl_store ?_); refine wpList_store_box rfl (by rfl) hO rfl _ (by (first | exact at0 | exact at1 | exact at2 | exact at3)) rfl (by rfl) (by rfl) (by rfl) (by rfl) (by rfl) ?_; clear hO; intro u hO; simp only [zC, zB] at hO)
      | ((with_reducible refine wpl_store ?_); refine wpList_store_field rfl (by rfl) hO rfl _ (by (first | exact at0 | exact at1 | exact at2 | exact at3)) (zM rfl) (by simp only [Act.eval, zJ, zF, zD, zE, zP]; rfl) (by rfl) (by rfl) (by rfl) ?_; clear hO; intro u hO; simp only [zC, zB] at hO)
      | fail)
    exact ret_box rfl hO rfl 2 at2 rfl rfl ⟨by rw [HX.out, HF.out], hO.below⟩
  | false =>
    have HF : Hid (lgF op ⟨xn, xd, xt⟩ ⟨yn, yd, yt⟩ = lgI (orL (trI ⟨xn, xd, xt⟩) (trI ⟨yn, yd, yt⟩))) := Lib.hid (by unfold lgF lgV; rw [hq]; rfl)
    go_enter Try.func113, Try.ntmps113
    have hO := Own.nil w
    go_upto_region 1 with (first
      | ((with_reducible refine wpl_alloc ?_); refine wpList_alloc_own rfl (by rfl) hO rfl (fun b => by simp only [Act.put, zA, zB, zC]; rfl) ?_; (refine nm 2 rfl ?_; clear hO; intro b2 u hO); simp only [zL, zK] at hO)
      | ((with_reducible refine wpl_box ?_); refine wpList_box_own rfl (by rfl) hO rfl rfl (fun b => by simp only [Act.put, zA, zB, zC]; rfl) ?_; (first | (refine nm 0 rfl ?_; clear hO; intro b0 u hO) | (refine nm 1 rfl ?_; clear hO; intro b1 u hO) | fail); simp only [zL, zK] at hO)
      | fail)
    have e0 := (hO.old hb).trans hc
    go_upto_region 3 with fail
    refine J.wp_region_c (n := 20) [0, 1, 2, 3, 4, 5] [] (deps := fun i => [[], [0], [], [2], [0, 1, 2, 3], [0, 1, 2, 3, 4], []].getD i []) (fun _ _ _ => True) (r := 1) (lst := #[true, true, true, true, true, true, false]) (by kernel_rfl) (by kernel_rfl) (by kernel_rfl) rfl (by decide) (by kernel_rfl) hO ?_
    refine J.Chain.cons (by rfl) (by rfl) (fun M u hO K hK => by (exact wp_load_box hO rfl rfl _ (by exact at0) (by rfl) (by rfl) (hK _ hO))) (by simp only [J.putL, zI, zG, zH, J.dstOf, zF, zD, zE, zS, zQ, zR, Act.put, zA, zB, zC]; rfl) ?_
    refine J.Chain.cons (by rfl) (by rfl) (fun M u hO K hK => by (simp only [wp_at_zero, wp_at_succ]; go_step; refine (impl_truth _ _ _ _).mono ?_; rintro e u ⟨rfl, hb⟩; exact hK _ (hO.step hb))) (by simp only [J.putL, zI, zG, zH, J.dstOf, zF, zD, zE, zS, zQ, zR, Act.put, zA, zB, zC]; rfl) ?_
    refine J.Chain.cons (by rfl) (by rfl) (fun M u hO K hK => by (exact wp_load_box hO rfl rfl _ (by exact at1) (by rfl) (by rfl) (hK _ hO))) (by simp only [J.putL, zI, zG, zH, J.dstOf, zF, zD, zE, zS, zQ, zR, Act.put, zA, zB, zC]; rfl) ?_
    refine J.Chain.cons (by rfl) (by rfl) (fun M u hO K hK => by (simp only [wp_at_zero, wp_at_succ]; go_step; refine (impl_truth _ _ _ _).mono ?_; rintro e u ⟨rfl, hb⟩; exact hK _ (hO.step hb))) (by simp only [J.putL, zI, zG, zH, J.dstOf, zF, zD, zE, zS, zQ, zR, Act.put, zA, zB, zC]; rfl) ?_
    refine J.Chain.cons (by rfl) (by rfl) (fun M u hO K hK => by (simp only [wp_at_zero, wp_at_succ]; go_step; refine (impl_or _ _ _).mono ?_; rintro e u ⟨rfl, hb⟩; (subst hb; exact hK _ hO))) (by simp only [J.putL, zI, zG, zH, J.dstOf, zF, zD, zE, zS, zQ, zR, Act.put, zA, zB, zC]; rfl) ?_
    refine J.Chain.cons (by rfl) (by rfl) (fun M u hO K hK => by (simp only [wp_at_zero, wp_at_succ]; go_step; refine (impl_logicalItem _ _).mono ?_; rintro e u ⟨rfl, hb⟩; exact hK _ (hO.step hb))) (by simp only [J.putL, zI, zG, zH, J.dstOf, zF, zD, zE, zS, zQ, zR, Act.put, zA, zB, zC]; rfl) ?_
    refine J.Chain.nil ⟨?_, ?_⟩
    · exact J.Each.nil
    intro vs u hO hF
    clear hF
    simp only [List.flatMap_cons, List.flatMap_nil, List.append_nil, zL, zK] at hO
    simp only [J.putL]
    clear vs
    refine J.wpAny_one (i := 6) (by kernel_rfl) (by rfl) rfl fun K hK => ?_
    (refine wp_store_box hO rfl rfl _ (by exact at2) rfl (by rfl) (by rfl) (by rfl) (by rfl) (by rfl) ?_; clear hO; intro u hO; simp only [zC, zB] at hO; refine hK _ _ ?_; clear hK K)
    refine wpAny_done (by kernel_rfl) ?_ _
    go_wp2_with (first
      | ((with_reducible refine wpl_alloc ?_); refine wpList_alloc_own rfl (by rfl) hO rfl (fun b => by simp only [Act.put, zA, zB, zC]; rfl) ?_; (first | (refine nm 0 rfl ?_; clear hO; intro b0 u hO) | (refine nm 1 rfl ?_; clear hO; intro b1 u hO) | (refine nm 2 rfl ?_; clear hO; intro b2 u hO) | (refine nm 3 rfl ?_; clear hO; intro b3 u hO)); simp only [zL, zK] at hO)
      | ((with_reducible refine wpl_box ?_); refine wpList_box_own rfl (by rfl) hO rfl rfl (fun b => by simp only [Act.put, zA, zB, zC]; rfl) ?_; (first | (refine nm 0 rfl ?_; clear hO; intro b0 u hO) | (refine nm 1 rfl ?_; clear hO; intro b1 u hO) | (refine nm 2 rfl ?_; clear hO; intro b2 u hO) | (refine nm 3 rfl ?_; clear hO; intro b3 u hO)); simp only [zL, zK] at hO)
      | ((with_reducible refine wpl_load ?_); refine wpList_load_box rfl (by (first | rfl | (simp only [Region.wanted, yielded, *]; go_simp; done) | (simp [Region.wanted, yielded, *]; done) | fail)) hO rfl _ (by (first | exact at0 | exact at1 | exact at2 | exact at3)) (by rfl) (by simp only [Act.put, zA, zB, zC]; rfl) ?_)
      | ((with_reducible refine wpl_load ?_); refine wpList_load_field rfl (by (first | rfl | (simp only [Region.wanted, yielded, *]; go_simp; done) | (simp [Region.wanted, yielded, *]; done) | fail)) hO rfl _ (by (first | exact at0 | exact at1 | exact at2 | exact at3)) (by rfl) (by simp only [Act.put, zA, zB, zC]; rfl) ?_)
      | ((with_reducible refine wpl_store ?_); refine wpList_store_box rfl (by rfl) hO rfl _ (by (first | exact at0 | exact at1 | exact at2 | exact at3)) rfl (by rfl) (by rfl) (by rfl) (by rfl) (by rfl) ?_; clear hO; intro u hO; simp only [zC, zB] at hO)
      | ((with_reducible refine wpl_store ?_); refine wpList_store_field rfl (by rfl) hO rfl _ (by (first | exact at0 | exact at1 | exact at2 | exact at3)) (zM rfl) (by simp only [Act.eval, zJ, zF, zD, zE, zP]; rfl) (by rfl) (by rfl) (by rfl) ?_; clear hO; intro u hO; simp only [zC, zB] at hO)
      | fail)
    exact ret_box rfl hO rfl 2 at2 rfl rfl ⟨by rw [HX.out, HF.out], hO.below⟩

end Go.Proofs.Ytmofcbpabdbjlaa
