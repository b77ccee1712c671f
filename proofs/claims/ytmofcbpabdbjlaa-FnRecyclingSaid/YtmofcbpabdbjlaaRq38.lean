/-
  What is proved: what EqualVectors (of the program and of the reference) returns, and the statement on it; a tree is the same as itself. No program in sight.
  Condition: trees of size at most 1048576.
-/
import Derived.Deep.DrawnRows
import Derived.Test.YtmofcbpabdbjlaaRq4
import Derived.Test.YtmofcbpabdbjlaaRq5
import Derived.Test.YtmofcbpabdbjlaaRq6
import Derived.Test.YtmofcbpabdbjlaaRq8
import Derived.Test.YtmofcbpabdbjlaaRq10
import Derived.Test.YtmofcbpabdbjlaaRq14
import Derived.Test.YtmofcbpabdbjlaaRq37
namespace Go.Proofs.Ytmofcbpabdbjlaa

set_option maxRecDepth 8000

open Go.RowKit Go.ChangeShapes Go.WideShapes Go.Deep

set_option linter.unusedVariables false

set_option linter.unusedSimpArgs false

set_option maxRecDepth 20000 in
set_option maxHeartbeats 1000000 in
theorem spec_eqVecs (t t' : VT) (vs vs' : List Value) (w : World) (hv : RdV w t vs) (hv' : RdV w t' vs') (hz : szV t ≤ 1048576) (hz' : szV t' ≤ 1048576) : Calls Try.prog 57 #[.agg vs.toArray, .agg vs'.toArray] w fun e w' => e = .returned (.bool (isV t && isV t' && eqV t t')) ∧ Below w.heap.size w w' := by
  obtain ⟨W1, W2, W3, W4, W5, d1, d2, d3, d4, d5, rfl⟩ := hv.ex
  obtain ⟨V1, V2, V3, V4, V5, e1, e2, e3, e4, e5, rfl⟩ := hv'.ex
  have CA := fun u (hb : Below w.heap.size w u) => spec_isVec t _ u (hv.grow hb) hz
  have CB := fun u (hb : Below w.heap.size w u) => spec_isVec t' _ u (hv'.grow hb) hz'
  have CE := fun u (hb : Below w.heap.size w u) => spec_same t t' _ _ u (hv.grow hb) (hv'.grow hb) hz hz'
  obtain ⟨p, hp⟩ : ∃ p, isV t = p := ⟨_, rfl⟩
  obtain ⟨q, hq⟩ : ∃ q, isV t' = q := ⟨_, rfl⟩
  obtain ⟨r, hr⟩ : ∃ r, eqV t t' = r := ⟨_, rfl⟩
  rw [hp] at CA ⊢
  rw [hq] at CB ⊢
  rw [hr] at CE ⊢
  clear hp hq hr hz hz'
  cases p with
  | false =>
    go_enter Try.func57, Try.ntmps57
    have hO := Own.nil w
    go_wp2_with (first | ((with_reducible refine (CA _ hO.below).mono ?_); rintro e u ⟨rfl, hb⟩; (replace hO := hO.step hb; clear hb)) | ((with_reducible refine zag ?_); refine zbx rfl hO rfl rfl ?_; (first | (refine nm 0 rfl ?_; clear hO; intro b0 u hO) | (refine nm 1 rfl ?_; clear hO; intro b1 u hO) | fail); simp only [zL, zK] at hO) | ((with_reducible refine zaa ?_); refine zlb rfl hO rfl _ (by exact at0) ?_) | fail)
    go_ret
    exact ⟨rfl, hO.below⟩
  | true =>
  cases q with
  | false =>
    go_enter Try.func57, Try.ntmps57
    have hO := Own.nil w
    go_wp2_with (first | ((with_reducible refine (CA _ hO.below).mono ?_); rintro e u ⟨rfl, hb⟩; (replace hO := hO.step hb; clear hb)) | ((with_reducible refine (CB _ hO.below).mono ?_); rintro e u ⟨rfl, hb⟩; (replace hO := hO.step hb; clear hb)) | ((with_reducible refine zag ?_); refine zbx rfl hO rfl rfl ?_; (first | (refine nm 0 rfl ?_; clear hO; intro b0 u hO) | (refine nm 1 rfl ?_; clear hO; intro b1 u hO) | fail); simp only [zL, zK] at hO) | ((with_reducible refine zaa ?_); refine zlb rfl hO rfl _ (by (first | exact at0 | exact at1 | fail)) ?_) | fail)
    go_ret
    exact ⟨rfl, hO.below⟩
  | true =>
    go_enter Try.func57, Try.ntmps57
    have hO := Own.nil w
    go_wp2_with (first | ((with_reducible refine (CA _ hO.below).mono ?_); rintro e u ⟨rfl, hb⟩; (replace hO := hO.step hb; clear hb)) | ((with_reducible refine (CB _ hO.below).mono ?_); rintro e u ⟨rfl, hb⟩; (replace hO := hO.step hb; clear hb)) | ((with_reducible refine (CE _ hO.below).mono ?_); rintro e u ⟨rfl, hb⟩; (replace hO := hO.step hb; clear hb)) | ((with_reducible refine zag ?_); refine zbx rfl hO rfl rfl ?_; (first | (refine nm 0 rfl ?_; clear hO; intro b0 u hO) | (refine nm 1 rfl ?_; clear hO; intro b1 u hO) | fail); simp only [zL, zK] at hO) | ((with_reducible refine zaa ?_); refine zlb rfl hO rfl _ (by (first | exact at0 | exact at1 | fail)) ?_) | fail)
    go_ret
    exact ⟨by cases r <;> rfl, hO.below⟩

end Go.Proofs.Ytmofcbpabdbjlaa

namespace Go.Proofs.Ytmofcbpabdbjlaa

set_option maxRecDepth 8000

set_option linter.unusedVariables false

set_option linter.unusedSimpArgs false

theorem eqSS_refl (l : List ByteArray) : eqSS l l = true := by
  unfold eqSS
  induction l with
  | nil => simp [eqL]
  | cons x l ih => simp only [eqL, eqB, beq_self_eq_true, Bool.true_and] at ih ⊢; exact ih

theorem eqV_refl (t : VT) : eqV t t = true := by
  induction t using VT.ind with
  | _ k is ps ns cs ls c e ih =>
    have h1 : eqVL ps ps = true := by
      induction ps with
      | nil => simp [eqVL]
      | cons p ps ih2 =>
        simp only [eqVL]
        rw [ih p (List.mem_cons_self), ih2 (fun q hq => ih q (List.mem_cons_of_mem _ hq))]
        rfl
    have h2 : eqL eqI is is = true := by
      clear ih h1
      induction is with
      | nil => simp [eqL]
      | cons x l ih => simp [eqL, eqI] at ih ⊢; exact ih
    simp [eqV, eqSS_refl, h1, h2]

end Go.Proofs.Ytmofcbpabdbjlaa
