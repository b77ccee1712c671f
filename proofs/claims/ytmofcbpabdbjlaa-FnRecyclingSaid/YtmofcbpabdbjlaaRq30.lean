/-
  What is proved: which function an operator of arithmetic stands for (program), and what the reference computes with it; the numbers of a vector, and their extreme, in plain Lean.
  Condition: none beyond those of the theorems.
-/
import Derived.Test.YtmofcbpabdbjlaaRq5
import Derived.Test.YtmofcbpabdbjlaaRq22
import Derived.Test.YtmofcbpabdbjlaaRq24
import Derived.Test.YtmofcbpabdbjlaaRq28
import Derived.Test.YtmofcbpabdbjlaaRq29
namespace Go.Proofs.Ytmofcbpabdbjlaa

set_option maxRecDepth 8000

open Go.RowKit Go.ChangeShapes Go.WideShapes Go.Deep

set_option linter.unusedVariables false

set_option linter.unusedSimpArgs false

def opK (op : ByteArray) : Nat := if op.toList == [43] then 0 else if op.toList == [45] then 1 else if op.toList == [42] then 2 else if op.toList == [47] then 3 else if op.toList == [94] then 4 else if op.toList == [37, 37] then 5 else if op.toList == [37, 47, 37] then 6 else 7

def arV (k : Nat) (n1 d1 : Int) (t1 : ByteArray) (n2 d2 : Int) (t2 : ByteArray) : Int × Int := match k with
  | 0 => addI n1 d1 t1 n2 d2 t2
  | 1 => subI n1 d1 t1 n2 d2 t2
  | 2 => mulI n1 d1 t1 n2 d2 t2
  | 3 => divI n1 d1 t1 n2 d2 t2
  | 4 => powI n1 d1 t1 n2 d2 t2
  | 5 => remI n1 d1 t1 n2 d2 t2
  | _ => quotI n1 d1 t1 n2 d2 t2

def arF (op : ByteArray) (x y : It) : It := ⟨(arV (opK op) x.num x.den x.text y.num y.den y.text).1, (arV (opK op) x.num x.den x.text y.num y.den y.text).2, ⟨#[]⟩⟩

def opN (k : Nat) : Nat := match k with
  | 0 => 172
  | 1 => 173
  | 2 => 174
  | 3 => 175
  | 4 => 176
  | 5 => 177
  | _ => 178

def fnV (k : Nat) : Value := if k < 7 then .func (.func (opN k)) #[] #[] else .nilFunc

theorem opK_cases (op : ByteArray) : ((op.toList == [43]) = true ∧ opK op = 0) ∨ ((op.toList == [43]) = false ∧ (op.toList == [45]) = true ∧ opK op = 1) ∨ ((op.toList == [43]) = false ∧ (op.toList == [45]) = false ∧ (op.toList == [42]) = true ∧ opK op = 2) ∨ ((op.toList == [43]) = false ∧ (op.toList == [45]) = false ∧ (op.toList == [42]) = false ∧ (op.toList == [47]) = true ∧ opK op = 3) ∨ ((op.toList == [43]) = false ∧ (op.toList == [45]) = false ∧ (op.toList == [42]) = false ∧ (op.toList == [47]) = false ∧ (op.toList == [94]) = true ∧ opK op = 4) ∨ ((op.toList == [43]) = false ∧ (op.toList == [45]) = false ∧ (op.toList == [42]) = false ∧ (op.toList == [47]) = false ∧ (op.toList == [94]) = false ∧ (op.toList == [37, 37]) = true ∧ opK op = 5) ∨ ((op.toList == [43]) = false ∧ (op.toList == [45]) = false ∧ (op.toList == [42]) = false ∧ (op.toList == [47]) = false ∧ (op.toList == [94]) = false ∧ (op.toList == [37, 37]) = false ∧ (op.toList == [37, 47, 37]) = true ∧ opK op = 6) ∨ ((op.toList == [43]) = false ∧ (op.toList == [45]) = false ∧ (op.toList == [42]) = false ∧ (op.toList == [47]) = false ∧ (op.toList == [94]) = false ∧ (op.toList == [37, 37]) = false ∧ (op.toList == [37, 47, 37]) = false ∧ opK op = 7) := by
  unfold opK
  cases h0 : (op.toList == [43]) with
  | true => exact Or.inl ⟨rfl, rfl⟩
  | false =>
    cases h1 : (op.toList == [45]) with
    | true => exact Or.inr (Or.inl ⟨rfl, rfl, rfl⟩)
    | false =>
      cases h2 : (op.toList == [42]) with
      | true => exact Or.inr (Or.inr (Or.inl ⟨rfl, rfl, rfl, rfl⟩))
      | false =>
        cases h3 : (op.toList == [47]) with
        | true => exact Or.inr (Or.inr (Or.inr (Or.inl ⟨rfl, rfl, rfl, rfl, rfl⟩)))
        | false =>
          cases h4 : (op.toList == [94]) with
          | true => exact Or.inr (Or.inr (Or.inr (Or.inr (Or.inl ⟨rfl, rfl, rfl, rfl, rfl, rfl⟩))))
          | false =>
            cases h5 : (op.toList == [37, 37]) with
            | true => exact Or.inr (Or.inr (Or.inr (Or.inr (Or.inr (Or.inl ⟨rfl, rfl, rfl, rfl, rfl, rfl, rfl⟩)))))
            | false =>
              cases h6 : (op.toList == [37, 47, 37]) with
              | true => exact Or.inr (Or.inr (Or.inr (Or.inr (Or.inr (Or.inr (Or.inl ⟨rfl, rfl, rfl, rfl, rfl, rfl, rfl, rfl⟩))))))
              | false =>
                exact Or.inr (Or.inr (Or.inr (Or.inr (Or.inr (Or.inr (Or.inr ⟨rfl, rfl, rfl, rfl, rfl, rfl, rfl, rfl⟩))))))

set_option maxHeartbeats 1000000 in
theorem impl_operation (op : ByteArray) (w : World) : Calls Try.prog 122 #[.string op] w fun e w' => e = .returned (fnV (opK op)) ∧ Below w.heap.size w w' := by
  rcases opK_cases op with ⟨o0, hk⟩ | ⟨o0, o1, hk⟩ | ⟨o0, o1, o2, hk⟩ | ⟨o0, o1, o2, o3, hk⟩ | ⟨o0, o1, o2, o3, o4, hk⟩ | ⟨o0, o1, o2, o3, o4, o5, hk⟩ | ⟨o0, o1, o2, o3, o4, o5, o6, hk⟩ | ⟨o0, o1, o2, o3, o4, o5, o6, hk⟩
  · rw [hk]
    clear hk
    go_enter Try.func122, Try.ntmps122
    have hO := Own.nil w
    go_wp2_with (first | ((with_reducible refine zae ?_); refine zal rfl hO rfl ?_; (first | (refine nm 0 rfl ?_; clear hO; intro b0 u hO)); simp only [zL, zK] at hO) | ((with_reducible refine zag ?_); refine zbx rfl hO rfl rfl ?_; (first | (refine nm 0 rfl ?_; clear hO; intro b0 u hO)); simp only [zL, zK] at hO) | fail)
    go_ret
    exact ⟨rfl, hO.below⟩
  · rw [hk]
    clear hk
    go_enter Try.func122, Try.ntmps122
    have hO := Own.nil w
    go_wp2_with (first | ((with_reducible refine zae ?_); refine zal rfl hO rfl ?_; (first | (refine nm 0 rfl ?_; clear hO; intro b0 u hO)); simp only [zL, zK] at hO) | ((with_reducible refine zag ?_); refine zbx rfl hO rfl rfl ?_; (first | (refine nm 0 rfl ?_; clear hO; intro b0 u hO)); simp only [zL, zK] at hO) | fail)
    go_ret
    exact ⟨rfl, hO.below⟩
  · rw [hk]
    clear hk
    go_enter Try.func122, Try.ntmps122
    have hO := Own.nil w
    go_wp2_with (first | ((with_reducible refine zae ?_); refine zal rfl hO rfl ?_; (first | (refine nm 0 rfl ?_; clear hO; intro b0 u hO)); simp only [zL, zK] at hO) | ((with_reducible refine zag ?_); refine zbx rfl hO rfl rfl ?_; (first | (refine nm 0 rfl ?_; clear hO; intro b0 u hO)); simp only [zL, zK] at hO) | fail)
    go_ret
    exact ⟨rfl, hO.below⟩
  · rw [hk]
    clear hk
    go_enter Try.func122, Try.ntmps122
    have hO := Own.nil w
    go_wp2_with (first | ((with_reducible refine zae ?_); refine zal rfl hO rfl ?_; (first | (refine nm 0 rfl ?_; clear hO; intro b0 u hO)); simp only [zL, zK] at hO) | ((with_reducible refine zag ?_); refine zbx rfl hO rfl rfl ?_; (first | (refine nm 0 rfl ?_; clear hO; intro b0 u hO)); simp only [zL, zK] at hO) | fail)
    go_ret
    exact ⟨rfl, hO.below⟩
  · rw [hk]
    clear hk
    go_enter Try.func122, Try.ntmps122
    have hO := Own.nil w
    go_wp2_with (first | ((with_reducible refine zae ?_); refine zal rfl hO rfl ?_; (first | (refine nm 0 rfl ?_; clear hO; intro b0 u hO)); simp only [zL, zK] at hO) | ((with_reducible refine zag ?_); refine zbx rfl hO rfl rfl ?_; (first | (refine nm 0 rfl ?_; clear hO; intro b0 u hO)); simp only [zL, zK] at hO) | fail)
    go_ret
    exact ⟨rfl, hO.below⟩
  · rw [hk]
    clear hk
    go_enter Try.func122, Try.ntmps122
    have hO := Own.nil w
    go_wp2_with (first | ((with_reducible refine zae ?_); refine zal rfl hO rfl ?_; (first | (refine nm 0 rfl ?_; clear hO; intro b0 u hO)); simp only [zL, zK] at hO) | ((with_reducible refine zag ?_); refine zbx rfl hO rfl rfl ?_; (first | (refine nm 0 rfl ?_; clear hO; intro b0 u hO)); simp only [zL, zK] at hO) | fail)
    go_ret
    exact ⟨rfl, hO.below⟩
  · rw [hk]
    clear hk
    go_enter Try.func122, Try.ntmps122
    have hO := Own.nil w
    go_wp2_with (first | ((with_reducible refine zae ?_); refine zal rfl hO rfl ?_; (first | (refine nm 0 rfl ?_; clear hO; intro b0 u hO)); simp only [zL, zK] at hO) | ((with_reducible refine zag ?_); refine zbx rfl hO rfl rfl ?_; (first | (refine nm 0 rfl ?_; clear hO; intro b0 u hO)); simp only [zL, zK] at hO) | fail)
    go_ret
    exact ⟨rfl, hO.below⟩
  · rw [hk]
    clear hk
    go_enter Try.func122, Try.ntmps122
    have hO := Own.nil w
    go_wp2_with (first | ((with_reducible refine zae ?_); refine zal rfl hO rfl ?_; (first | (refine nm 0 rfl ?_; clear hO; intro b0 u hO)); simp only [zL, zK] at hO) | ((with_reducible refine zag ?_); refine zbx rfl hO rfl rfl ?_; (first | (refine nm 0 rfl ?_; clear hO; intro b0 u hO)); simp only [zL, zK] at hO) | fail)
    go_ret
    exact ⟨rfl, hO.below⟩

set_option maxHeartbeats 1000000 in
theorem spec_apply (op : ByteArray) (n1 d1 n2 d2 : Int) (t1 t2 : ByteArray) (w : World) (ho : opK op < 7) : Calls Try.prog 121 #[.string op, .agg #[.int .i64 n1, .int .i64 d1, .string t1], .agg #[.int .i64 n2, .int .i64 d2, .string t2]] w fun e w' => e = .returned (.agg #[.int .i64 (arV (opK op) n1 d1 t1 n2 d2 t2).1, .int .i64 (arV (opK op) n1 d1 t1 n2 d2 t2).2, .string ⟨#[]⟩]) ∧ Below w.heap.size w w' := by
  rcases opK_cases op with ⟨o0, hk⟩ | ⟨o0, o1, hk⟩ | ⟨o0, o1, o2, hk⟩ | ⟨o0, o1, o2, o3, hk⟩ | ⟨o0, o1, o2, o3, o4, hk⟩ | ⟨o0, o1, o2, o3, o4, o5, hk⟩ | ⟨o0, o1, o2, o3, o4, o5, o6, hk⟩ | ⟨o0, o1, o2, o3, o4, o5, o6, hk⟩
  · rw [hk]
    have HE : Hid (arV 0 n1 d1 t1 n2 d2 t2 = addI n1 d1 t1 n2 d2 t2) := Lib.hid rfl
    clear hk ho
    go_enter Try.func121, Try.ntmps121
    have hO := Own.nil w
    go_wp2_with (first | ((with_reducible refine (spec_add _ _ _ _ _ _ _).mono ?_); rintro e u ⟨rfl, hb⟩; (replace hO := hO.step hb; clear hb)) | ((with_reducible refine zae ?_); refine zal rfl hO rfl ?_; (refine nm 2 rfl ?_; clear hO; intro b2 u hO); simp only [zL, zK] at hO) | ((with_reducible refine zag ?_); refine zbx rfl hO rfl rfl ?_; (first | (refine nm 0 rfl ?_; clear hO; intro b0 u hO) | (refine nm 1 rfl ?_; clear hO; intro b1 u hO) | fail); simp only [zL, zK] at hO) | ((with_reducible refine zaa ?_); refine zlb rfl hO rfl _ (by (first | exact at0 | exact at1 | fail)) ?_) | ((with_reducible refine zab ?_); refine zsb rfl hO rfl _ (by exact at2) rfl ?_; clear hO; intro u hO; simp only [zC, zB] at hO) | fail)
    exact zar rfl hO rfl 2 at2 rfl rfl ⟨by rw [HE.out], hO.below⟩
  · rw [hk]
    have HE : Hid (arV 1 n1 d1 t1 n2 d2 t2 = subI n1 d1 t1 n2 d2 t2) := Lib.hid rfl
    clear hk ho
    go_enter Try.func121, Try.ntmps121
    have hO := Own.nil w
    go_wp2_with (first | ((with_reducible refine (spec_sub _ _ _ _ _ _ _).mono ?_); rintro e u ⟨rfl, hb⟩; (replace hO := hO.step hb; clear hb)) | ((with_reducible refine zae ?_); refine zal rfl hO rfl ?_; (refine nm 2 rfl ?_; clear hO; intro b2 u hO); simp only [zL, zK] at hO) | ((with_reducible refine zag ?_); refine zbx rfl hO rfl rfl ?_; (first | (refine nm 0 rfl ?_; clear hO; intro b0 u hO) | (refine nm 1 rfl ?_; clear hO; intro b1 u hO) | fail); simp only [zL, zK] at hO) | ((with_reducible refine zaa ?_); refine zlb rfl hO rfl _ (by (first | exact at0 | exact at1 | fail)) ?_) | ((with_reducible refine zab ?_); refine zsb rfl hO rfl _ (by exact at2) rfl ?_; clear hO; intro u hO; simp only [zC, zB] at hO) | fail)
    exact zar rfl hO rfl 2 at2 rfl rfl ⟨by rw [HE.out], hO.below⟩
  · rw [hk]
    have HE : Hid (arV 2 n1 d1 t1 n2 d2 t2 = mulI n1 d1 t1 n2 d2 t2) := Lib.hid rfl
    clear hk ho
    go_enter Try.func121, Try.ntmps121
    have hO := Own.nil w
    go_wp2_with (first | ((with_reducible refine (spec_mul _ _ _ _ _ _ _).mono ?_); rintro e u ⟨rfl, hb⟩; (replace hO := hO.step hb; clear hb)) | ((with_reducible refine zae ?_); refine zal rfl hO rfl ?_; (refine nm 2 rfl ?_; clear hO; intro b2 u hO); simp only [zL, zK] at hO) | ((with_reducible refine zag ?_); refine zbx rfl hO rfl rfl ?_; (first | (refine nm 0 rfl ?_; clear hO; intro b0 u hO) | (refine nm 1 rfl ?_; clear hO; intro b1 u hO) | fail); simp only [zL, zK] at hO) | ((with_reducible refine zaa ?_); refine zlb rfl hO rfl _ (by (first | exact at0 | exact at1 | fail)) ?_) | ((with_reducible refine zab ?_); refine zsb rfl hO rfl _ (by exact at2) rfl ?_; clear hO; intro u hO; simp only [zC, zB] at hO) | fail)
    exact zar rfl hO rfl 2 at2 rfl rfl ⟨by rw [HE.out], hO.below⟩
  · rw [hk]
    have HE : Hid (arV 3 n1 d1 t1 n2 d2 t2 = divI n1 d1 t1 n2 d2 t2) := Lib.hid rfl
    clear hk ho
    go_enter Try.func121, Try.ntmps121
    have hO := Own.nil w
    go_wp2_with (first | ((with_reducible refine (spec_div _ _ _ _ _ _ _).mono ?_); rintro e u ⟨rfl, hb⟩; (replace hO := hO.step hb; clear hb)) | ((with_reducible refine zae ?_); refine zal rfl hO rfl ?_; (refine nm 2 rfl ?_; clear hO; intro b2 u hO); simp only [zL, zK] at hO) | ((with_reducible refine zag ?_); refine zbx rfl hO rfl rfl ?_; (first | (refine nm 0 rfl ?_; clear hO; intro b0 u hO) | (refine nm 1 rfl ?_; clear hO; intro b1 u hO) | fail); simp only [zL, zK] at hO) | ((with_reducible refine zaa ?_); refine zlb rfl hO rfl _ (by (first | exact at0 | exact at1 | fail)) ?_) | ((with_reducible refine zab ?_); refine zsb rfl hO rfl _ (by exact at2) rfl ?_; clear hO; intro u hO; simp only [zC, zB] at hO) | fail)
    exact zar rfl hO rfl 2 at2 rfl rfl ⟨by rw [HE.out], hO.below⟩
  · rw [hk]
    have HE : Hid (arV 4 n1 d1 t1 n2 d2 t2 = powI n1 d1 t1 n2 d2 t2) := Lib.hid rfl
    clear hk ho
    go_enter Try.func121, Try.ntmps121
    have hO := Own.nil w
    go_wp2_with (first | ((with_reducible refine (spec_pow _ _ _ _ _ _ _).mono ?_); rintro e u ⟨rfl, hb⟩; (replace hO := hO.step hb; clear hb)) | ((with_reducible refine zae ?_); refine zal rfl hO rfl ?_; (refine nm 2 rfl ?_; clear hO; intro b2 u hO); simp only [zL, zK] at hO) | ((with_reducible refine zag ?_); refine zbx rfl hO rfl rfl ?_; (first | (refine nm 0 rfl ?_; clear hO; intro b0 u hO) | (refine nm 1 rfl ?_; clear hO; intro b1 u hO) | fail); simp only [zL, zK] at hO) | ((with_reducible refine zaa ?_); refine zlb rfl hO rfl _ (by (first | exact at0 | exact at1 | fail)) ?_) | ((with_reducible refine zab ?_); refine zsb rfl hO rfl _ (by exact at2) rfl ?_; clear hO; intro u hO; simp only [zC, zB] at hO) | fail)
    exact zar rfl hO rfl 2 at2 rfl rfl ⟨by rw [HE.out], hO.below⟩
  · rw [hk]
    have HE : Hid (arV 5 n1 d1 t1 n2 d2 t2 = remI n1 d1 t1 n2 d2 t2) := Lib.hid rfl
    clear hk ho
    go_enter Try.func121, Try.ntmps121
    have hO := Own.nil w
    go_wp2_with (first | ((with_reducible refine (spec_rem _ _ _ _ _ _ _).mono ?_); rintro e u ⟨rfl, hb⟩; (replace hO := hO.step hb; clear hb)) | ((with_reducible refine zae ?_); refine zal rfl hO rfl ?_; (refine nm 2 rfl ?_; clear hO; intro b2 u hO); simp only [zL, zK] at hO) | ((with_reducible refine zag ?_); refine zbx rfl hO rfl rfl ?_; (first | (refine nm 0 rfl ?_; clear hO; intro b0 u hO) | (refine nm 1 rfl ?_; clear hO; intro b1 u hO) | fail); simp only [zL, zK] at hO) | ((with_reducible refine zaa ?_); refine zlb rfl hO rfl _ (by (first | exact at0 | exact at1 | fail)) ?_) | ((with_reducible refine zab ?_); refine zsb rfl hO rfl _ (by exact at2) rfl ?_; clear hO; intro u hO; simp only [zC, zB] at hO) | fail)
    exact zar rfl hO rfl 2 at2 rfl rfl ⟨by rw [HE.out], hO.below⟩
  · rw [hk]
    have HE : Hid (arV 6 n1 d1 t1 n2 d2 t2 = quotI n1 d1 t1 n2 d2 t2) := Lib.hid rfl
    clear hk ho
    go_enter Try.func121, Try.ntmps121
    have hO := Own.nil w
    go_wp2_with (first | ((with_reducible refine (spec_quot _ _ _ _ _ _ _).mono ?_); rintro e u ⟨rfl, hb⟩; (replace hO := hO.step hb; clear hb)) | ((with_reducible refine zae ?_); refine zal rfl hO rfl ?_; (refine nm 2 rfl ?_; clear hO; intro b2 u hO); simp only [zL, zK] at hO) | ((with_reducible refine zag ?_); refine zbx rfl hO rfl rfl ?_; (first | (refine nm 0 rfl ?_; clear hO; intro b0 u hO) | (refine nm 1 rfl ?_; clear hO; intro b1 u hO) | fail); simp only [zL, zK] at hO) | ((with_reducible refine zaa ?_); refine zlb rfl hO rfl _ (by (first | exact at0 | exact at1 | fail)) ?_) | ((with_reducible refine zab ?_); refine zsb rfl hO rfl _ (by exact at2) rfl ?_; clear hO; intro u hO; simp only [zC, zB] at hO) | fail)
    exact zar rfl hO rfl 2 at2 rfl rfl ⟨by rw [HE.out], hO.below⟩
  · omega

end Go.Proofs.Ytmofcbpabdbjlaa

namespace Go.Proofs.Ytmofcbpabdbjlaa

set_option maxRecDepth 8000

open Go.RowKit Go.ChangeShapes Go.WideShapes Go.Deep

set_option linter.unusedVariables false

set_option linter.unusedSimpArgs false

def nonNumS : ByteArray := ⟨#[110, 111, 110, 45, 110, 117, 109, 101, 114, 105, 99, 32, 97, 114, 103, 117, 109, 101, 110, 116]⟩

end Go.Proofs.Ytmofcbpabdbjlaa
