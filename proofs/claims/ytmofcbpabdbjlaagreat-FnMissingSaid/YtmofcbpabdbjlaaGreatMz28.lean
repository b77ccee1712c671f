/-
  What is proved: which function an operator of arithmetic stands for (program), and what the reference computes with it; the numbers of a vector, and their extreme, in plain Lean; what ArithmeticOf (of the program) returns.
  Condition: vectors of size at most 1048576.
-/
import Derived.Test.YtmofcbpabdbjlaaGreatMz4
import Derived.Test.YtmofcbpabdbjlaaGreatMz20
import Derived.Test.YtmofcbpabdbjlaaGreatMz22
import Derived.Test.YtmofcbpabdbjlaaGreatMz24
import Derived.Test.YtmofcbpabdbjlaaGreatMz26
import Derived.Test.YtmofcbpabdbjlaaGreatMz27
namespace Go.Proofs.YtmofcbpabdbjlaaGreat

set_option maxRecDepth 8000

open Go.RowKit Go.ChangeShapes Go.WideShapes Go.Deep

set_option linter.unusedVariables false

set_option linter.unusedSimpArgs false

def opK (op : ByteArray) : Nat := if op.toList == [43] then 0 else if op.toList == [45] then 1 else if op.toList == [42] then 2 else if op.toList == [47] then 3 else if op.toList == [94] then 4 else if op.toList == [37, 37] then 5 else if op.toList == [37, 47, 37] then 6 else 7

def arV (k : Nat) (n1 d1 : Int) (t1 : ByteArray) (n2 d2 : Int) (t2 : ByteArray) : Int × Int := match k with
  | 0 => addI n1 d1 t1 n2 d2 t2
  | 1 => subI n1 d1 t1 n2 d2 t2
  | 2 => mulI n1 d1 t1 n2 d2 t2
  | 3 => divI n1 d1 t1 n2 d2 t2
  | 4 => powI n1 d1 t1 n2 d2 t2
  | 5 => remI n1 d1 t1 n2 d2 t2
  | _ => quotI n1 d1 t1 n2 d2 t2

def arF (op : ByteArray) (x y : It) : It := ⟨(arV (opK op) x.num x.den x.text y.num y.den y.text).1, (arV (opK op) x.num x.den x.text y.num y.den y.text).2, ⟨#[]⟩⟩

def opN (k : Nat) : Nat := match k with
  | 0 => 57
  | 1 => 58
  | 2 => 59
  | 3 => 60
  | 4 => 61
  | 5 => 62
  | _ => 63

def fnV (k : Nat) : Value := if k < 7 then .func (.func (opN k)) #[] #[] else .nilFunc

theorem opK_cases (op : ByteArray) : ((op.toList == [43]) = true ∧ opK op = 0) ∨ ((op.toList == [43]) = false ∧ (op.toList == [45]) = true ∧ opK op = 1) ∨ ((op.toList == [43]) = false ∧ (op.toList == [45]) = false ∧ (op.toList == [42]) = true ∧ opK op = 2) ∨ ((op.toList == [43]) = false ∧ (op.toList == [45]) = false ∧ (op.toList == [42]) = false ∧ (op.toList == [47]) = true ∧ opK op = 3) ∨ ((op.toList == [43]) = false ∧ (op.toList == [45]) = false ∧ (op.toList == [42]) = false ∧ (op.toList == [47]) = false ∧ (op.toList == [94]) = true ∧ opK op = 4) ∨ ((op.toList == [43]) = false ∧ (op.toList == [45]) = false ∧ (op.toList == [42]) = false ∧ (op.toList == [47]) = false ∧ (op.toList == [94]) = false ∧ (op.toList == [37, 37]) = true ∧ opK op = 5) ∨ ((op.toList == [43]) = false ∧ (op.toList == [45]) = false ∧ (op.toList == [42]) = false ∧ (op.toList == [47]) = false ∧ (op.toList == [94]) = false ∧ (op.toList == [37, 37]) = false ∧ (op.toList == [37, 47, 37]) = true ∧ opK op = 6) ∨ ((op.toList == [43]) = false ∧ (op.toList == [45]) = false ∧ (op.toList == [42]) = false ∧ (op.toList == [47]) = false ∧ (op.toList == [94]) = false ∧ (op.toList == [37, 37]) = false ∧ (op.toList == [37, 47, 37]) = false ∧ opK op = 7) := by
  unfold opK
  cases h0 : (op.toList == [43]) with
  | true => exact Or.inl ⟨rfl, rfl⟩
  | false =>
    cases h1 : (op.toList == [45]) with
    | true => exact Or.inr (Or.inl ⟨rfl, rfl, rfl⟩)
    | false =>
      cases h2 : (op.toList == [42]) with
      | true => exact Or.inr (Or.inr (Or.inl ⟨rfl, rfl, rfl, rfl⟩))
      | false =>
        cases h3 : (op.toList == [47]) with
        | true => exact Or.inr (Or.inr (Or.inr (Or.inl ⟨rfl, rfl, rfl, rfl, rfl⟩)))
        | false =>
          cases h4 : (op.toList == [94]) with
          | true => exact Or.inr (Or.inr (Or.inr (Or.inr (Or.inl ⟨rfl, rfl, rfl, rfl, rfl, rfl⟩))))
          | false =>
            cases h5 : (op.toList == [37, 37]) with
            | true => exact Or.inr (Or.inr (Or.inr (Or.inr (Or.inr (Or.inl ⟨rfl, rfl, rfl, rfl, rfl, rfl, rfl⟩)))))
            | false =>
              cases h6 : (op.toList == [37, 47, 37]) with
              | true => exact Or.inr (Or.inr (Or.inr (Or.inr (Or.inr (Or.inr (Or.inl ⟨rfl, rfl, rfl, rfl, rfl, rfl, rfl, rfl⟩))))))
              | false =>
                exact Or.inr (Or.inr (Or.inr (Or.inr (Or.inr (Or.inr (Or.inr ⟨rfl, rfl, rfl, rfl, rfl, rfl, rfl, rfl⟩))))))

set_option maxHeartbeats 1000000 in
theorem impl_operation (op : ByteArray) (w : World) : Calls Tryz.prog 19 #[.string op] w fun e w' => e = .returned (fnV (opK op)) ∧ Below w.heap.size w w' := by
  rcases opK_cases op with ⟨o0, hk⟩ | ⟨o0, o1, hk⟩ | ⟨o0, o1, o2, hk⟩ | ⟨o0, o1, o2, o3, hk⟩ | ⟨o0, o1, o2, o3, o4, hk⟩ | ⟨o0, o1, o2, o3, o4, o5, hk⟩ | ⟨o0, o1, o2, o3, o4, o5, o6, hk⟩ | ⟨o0, o1, o2, o3, o4, o5, o6, hk⟩
  · rw [hk]
    clear hk
    go_enter Tryz.func19, Tryz.ntmps19
    have hO := Own.nil w
    go_wp2_with (first | ((with_reducible refine zac ?_); refine zal rfl hO rfl ?_; (first | (refine nm 0 rfl ?_; clear hO; intro b0 u hO)); simp only [zL, zK] at hO) | ((with_reducible refine zad ?_); refine zbx rfl hO rfl rfl ?_; (first | (refine nm 0 rfl ?_; clear hO; intro b0 u hO)); simp only [zL, zK] at hO) | fail)
    go_ret
    exact ⟨rfl, hO.below⟩
  · rw [hk]
    clear hk
    go_enter Tryz.func19, Tryz.ntmps19
    have hO := Own.nil w
    go_wp2_with (first | ((with_reducible refine zac ?_); refine zal rfl hO rfl ?_; (first | (refine nm 0 rfl ?_; clear hO; intro b0 u hO)); simp only [zL, zK] at hO) | ((with_reducible refine zad ?_); refine zbx rfl hO rfl rfl ?_; (first | (refine nm 0 rfl ?_; clear hO; intro b0 u hO)); simp only [zL, zK] at hO) | fail)
    go_ret
    exact ⟨rfl, hO.below⟩
  · rw [hk]
    clear hk
    go_enter Tryz.func19, Tryz.ntmps19
    have hO := Own.nil w
    go_wp2_with (first | ((with_reducible refine zac ?_); refine zal rfl hO rfl ?_; (first | (refine nm 0 rfl ?_; clear hO; intro b0 u hO)); simp only [zL, zK] at hO) | ((with_reducible refine zad ?_); refine zbx rfl hO rfl rfl ?_; (first | (refine nm 0 rfl ?_; clear hO; intro b0 u hO)); simp only [zL, zK] at hO) | fail)
    go_ret
    exact ⟨rfl, hO.below⟩
  · rw [hk]
    clear hk
    go_enter Tryz.func19, Tryz.ntmps19
    have hO := Own.nil w
    go_wp2_with (first | ((with_reducible refine zac ?_); refine zal rfl hO rfl ?_; (first | (refine nm 0 rfl ?_; clear hO; intro b0 u hO)); simp only [zL, zK] at hO) | ((with_reducible refine zad ?_); refine zbx rfl hO rfl rfl ?_; (first | (refine nm 0 rfl ?_; clear hO; intro b0 u hO)); simp only [zL, zK] at hO) | fail)
    go_ret
    exact ⟨rfl, hO.below⟩
  · rw [hk]
    clear hk
    go_enter Tryz.func19, Tryz.ntmps19
    have hO := Own.nil w
    go_wp2_with (first | ((with_reducible refine zac ?_); refine zal rfl hO rfl ?_; (first | (refine nm 0 rfl ?_; clear hO; intro b0 u hO)); simp only [zL, zK] at hO) | ((with_reducible refine zad ?_); refine zbx rfl hO rfl rfl ?_; (first | (refine nm 0 rfl ?_; clear hO; intro b0 u hO)); simp only [zL, zK] at hO) | fail)
    go_ret
    exact ⟨rfl, hO.below⟩
  · rw [hk]
    clear hk
    go_enter Tryz.func19, Tryz.ntmps19
    have hO := Own.nil w
    go_wp2_with (first | ((with_reducible refine zac ?_); refine zal rfl hO rfl ?_; (first | (refine nm 0 rfl ?_; clear hO; intro b0 u hO)); simp only [zL, zK] at hO) | ((with_reducible refine zad ?_); refine zbx rfl hO rfl rfl ?_; (first | (refine nm 0 rfl ?_; clear hO; intro b0 u hO)); simp only [zL, zK] at hO) | fail)
    go_ret
    exact ⟨rfl, hO.below⟩
  · rw [hk]
    clear hk
    go_enter Tryz.func19, Tryz.ntmps19
    have hO := Own.nil w
    go_wp2_with (first | ((with_reducible refine zac ?_); refine zal rfl hO rfl ?_; (first | (refine nm 0 rfl ?_; clear hO; intro b0 u hO)); simp only [zL, zK] at hO) | ((with_reducible refine zad ?_); refine zbx rfl hO rfl rfl ?_; (first | (refine nm 0 rfl ?_; clear hO; intro b0 u hO)); simp only [zL, zK] at hO) | fail)
    go_ret
    exact ⟨rfl, hO.below⟩
  · rw [hk]
    clear hk
    go_enter Tryz.func19, Tryz.ntmps19
    have hO := Own.nil w
    go_wp2_with (first | ((with_reducible refine zac ?_); refine zal rfl hO rfl ?_; (first | (refine nm 0 rfl ?_; clear hO; intro b0 u hO)); simp only [zL, zK] at hO) | ((with_reducible refine zad ?_); refine zbx rfl hO rfl rfl ?_; (first | (refine nm 0 rfl ?_; clear hO; intro b0 u hO)); simp only [zL, zK] at hO) | fail)
    go_ret
    exact ⟨rfl, hO.below⟩

set_option maxHeartbeats 1000000 in
theorem spec_apply (op : ByteArray) (n1 d1 n2 d2 : Int) (t1 t2 : ByteArray) (w : World) (ho : opK op < 7) : Calls Tryz.prog 37 #[.string op, .agg #[.int .i64 n1, .int .i64 d1, .string t1], .agg #[.int .i64 n2, .int .i64 d2, .string t2]] w fun e w' => e = .returned (.agg #[.int .i64 (arV (opK op) n1 d1 t1 n2 d2 t2).1, .int .i64 (arV (opK op) n1 d1 t1 n2 d2 t2).2, .string ⟨#[]⟩]) ∧ Below w.heap.size w w' := by
  rcases opK_cases op with ⟨o0, hk⟩ | ⟨o0, o1, hk⟩ | ⟨o0, o1, o2, hk⟩ | ⟨o0, o1, o2, o3, hk⟩ | ⟨o0, o1, o2, o3, o4, hk⟩ | ⟨o0, o1, o2, o3, o4, o5, hk⟩ | ⟨o0, o1, o2, o3, o4, o5, o6, hk⟩ | ⟨o0, o1, o2, o3, o4, o5, o6, hk⟩
  · rw [hk]
    have HE : Hid (arV 0 n1 d1 t1 n2 d2 t2 = addI n1 d1 t1 n2 d2 t2) := Lib.hid rfl
    clear hk ho
    go_enter Tryz.func37, Tryz.ntmps37
    have hO := Own.nil w
    go_wp2_with (first | ((with_reducible refine (spec_add _ _ _ _ _ _ _).mono ?_); rintro e u ⟨rfl, hb⟩; (replace hO := hO.step hb; clear hb)) | ((with_reducible refine zac ?_); refine zal rfl hO rfl ?_; (refine nm 2 rfl ?_; clear hO; intro b2 u hO); simp only [zL, zK] at hO) | ((with_reducible refine zad ?_); refine zbx rfl hO rfl rfl ?_; (first | (refine nm 0 rfl ?_; clear hO; intro b0 u hO) | (refine nm 1 rfl ?_; clear hO; intro b1 u hO) | fail); simp only [zL, zK] at hO) | ((with_reducible refine zaa ?_); refine zlb rfl hO rfl _ (by (first | exact at0 | exact at1 | fail)) ?_) | ((with_reducible refine zab ?_); refine zsb rfl hO rfl _ (by exact at2) rfl ?_; clear hO; intro u hO; simp only [zC, zB] at hO) | fail)
    exact zan rfl hO rfl 2 at2 rfl rfl ⟨by rw [HE.out], hO.below⟩
  · rw [hk]
    have HE : Hid (arV 1 n1 d1 t1 n2 d2 t2 = subI n1 d1 t1 n2 d2 t2) := Lib.hid rfl
    clear hk ho
    go_enter Tryz.func37, Tryz.ntmps37
    have hO := Own.nil w
    go_wp2_with (first | ((with_reducible refine (spec_sub _ _ _ _ _ _ _).mono ?_); rintro e u ⟨rfl, hb⟩; (replace hO := hO.step hb; clear hb)) | ((with_reducible refine zac ?_); refine zal rfl hO rfl ?_; (refine nm 2 rfl ?_; clear hO; intro b2 u hO); simp only [zL, zK] at hO) | ((with_reducible refine zad ?_); refine zbx rfl hO rfl rfl ?_; (first | (refine nm 0 rfl ?_; clear hO; intro b0 u hO) | (refine nm 1 rfl ?_; clear hO; intro b1 u hO) | fail); simp only [zL, zK] at hO) | ((with_reducible refine zaa ?_); refine zlb rfl hO rfl _ (by (first | exact at0 | exact at1 | fail)) ?_) | ((with_reducible refine zab ?_); refine zsb rfl hO rfl _ (by exact at2) rfl ?_; clear hO; intro u hO; simp only [zC, zB] at hO) | fail)
    exact zan rfl hO rfl 2 at2 rfl rfl ⟨by rw [HE.out], hO.below⟩
  · rw [hk]
    have HE : Hid (arV 2 n1 d1 t1 n2 d2 t2 = mulI n1 d1 t1 n2 d2 t2) := Lib.hid rfl
    clear hk ho
    go_enter Tryz.func37, Tryz.ntmps37
    have hO := Own.nil w
    go_wp2_with (first | ((with_reducible refine (spec_mul _ _ _ _ _ _ _).mono ?_); rintro e u ⟨rfl, hb⟩; (replace hO := hO.step hb; clear hb)) | ((with_reducible refine zac ?_); refine zal rfl hO rfl ?_; (refine nm 2 rfl ?_; clear hO; intro b2 u hO); simp only [zL, zK] at hO) | ((with_reducible refine zad ?_); refine zbx rfl hO rfl rfl ?_; (first | (refine nm 0 rfl ?_; clear hO; intro b0 u hO) | (refine nm 1 rfl ?_; clear hO; intro b1 u hO) | fail); simp only [zL, zK] at hO) | ((with_reducible refine zaa ?_); refine zlb rfl hO rfl _ (by (first | exact at0 | exact at1 | fail)) ?_) | ((with_reducible refine zab ?_); refine zsb rfl hO rfl _ (by exact at2) rfl ?_; clear hO; intro u hO; simp only [zC, zB] at hO) | fail)
    exact zan rfl hO rfl 2 at2 rfl rfl ⟨by rw [HE.out], hO.below⟩
  · rw [hk]
    have HE : Hid (arV 3 n1 d1 t1 n2 d2 t2 = divI n1 d1 t1 n2 d2 t2) := Lib.hid rfl
    clear hk ho
    go_enter Tryz.func37, Tryz.ntmps37
    have hO := Own.nil w
    go_wp2_with (first | ((with_reducible refine (spec_div _ _ _ _ _ _ _).mono ?_); rintro e u ⟨rfl, hb⟩; (replace hO := hO.step hb; clear hb)) | ((with_reducible refine zac ?_); refine zal rfl hO rfl ?_; (refine nm 2 rfl ?_; clear hO; intro b2 u hO); simp only [zL, zK] at hO) | ((with_reducible refine zad ?_); refine zbx rfl hO rfl rfl ?_; (first | (refine nm 0 rfl ?_; clear hO; intro b0 u hO) | (refine nm 1 rfl ?_; clear hO; intro b1 u hO) | fail); simp only [zL, zK] at hO) | ((with_reducible refine zaa ?_); refine zlb rfl hO rfl _ (by (first | exact at0 | exact at1 | fail)) ?_) | ((with_reducible refine zab ?_); refine zsb rfl hO rfl _ (by exact at2) rfl ?_; clear hO; intro u hO; simp only [zC, zB] at hO) | fail)
    exact zan rfl hO rfl 2 at2 rfl rfl ⟨by rw [HE.out], hO.below⟩
  · rw [hk]
    have HE : Hid (arV 4 n1 d1 t1 n2 d2 t2 = powI n1 d1 t1 n2 d2 t2) := Lib.hid rfl
    clear hk ho
    go_enter Tryz.func37, Tryz.ntmps37
    have hO := Own.nil w
    go_wp2_with (first | ((with_reducible refine (spec_pow _ _ _ _ _ _ _).mono ?_); rintro e u ⟨rfl, hb⟩; (replace hO := hO.step hb; clear hb)) | ((with_reducible refine zac ?_); refine zal rfl hO rfl ?_; (refine nm 2 rfl ?_; clear hO; intro b2 u hO); simp only [zL, zK] at hO) | ((with_reducible refine zad ?_); refine zbx rfl hO rfl rfl ?_; (first | (refine nm 0 rfl ?_; clear hO; intro b0 u hO) | (refine nm 1 rfl ?_; clear hO; intro b1 u hO) | fail); simp only [zL, zK] at hO) | ((with_reducible refine zaa ?_); refine zlb rfl hO rfl _ (by (first | exact at0 | exact at1 | fail)) ?_) | ((with_reducible refine zab ?_); refine zsb rfl hO rfl _ (by exact at2) rfl ?_; clear hO; intro u hO; simp only [zC, zB] at hO) | fail)
    exact zan rfl hO rfl 2 at2 rfl rfl ⟨by rw [HE.out], hO.below⟩
  · rw [hk]
    have HE : Hid (arV 5 n1 d1 t1 n2 d2 t2 = remI n1 d1 t1 n2 d2 t2) := Lib.hid rfl
    clear hk ho
    go_enter Tryz.func37, Tryz.ntmps37
    have hO := Own.nil w
    go_wp2_with (first | ((with_reducible refine (spec_rem _ _ _ _ _ _ _).mono ?_); rintro e u ⟨rfl, hb⟩; (replace hO := hO.step hb; clear hb)) | ((with_reducible refine zac ?_); refine zal rfl hO rfl ?_; (refine nm 2 rfl ?_; clear hO; intro b2 u hO); simp only [zL, zK] at hO) | ((with_reducible refine zad ?_); refine zbx rfl hO rfl rfl ?_; (first | (refine nm 0 rfl ?_; clear hO; intro b0 u hO) | (refine nm 1 rfl ?_; clear hO; intro b1 u hO) | fail); simp only [zL, zK] at hO) | ((with_reducible refine zaa ?_); refine zlb rfl hO rfl _ (by (first | exact at0 | exact at1 | fail)) ?_) | ((with_reducible refine zab ?_); refine zsb rfl hO rfl _ (by exact at2) rfl ?_; clear hO; intro u hO; simp only [zC, zB] at hO) | fail)
    exact zan rfl hO rfl 2 at2 rfl rfl ⟨by rw [HE.out], hO.below⟩
  · rw [hk]
    have HE : Hid (arV 6 n1 d1 t1 n2 d2 t2 = quotI n1 d1 t1 n2 d2 t2) := Lib.hid rfl
    clear hk ho
    go_enter Tryz.func37, Tryz.ntmps37
    have hO := Own.nil w
    go_wp2_with (first | ((with_reducible refine (spec_quot _ _ _ _ _ _ _).mono ?_); rintro e u ⟨rfl, hb⟩; (replace hO := hO.step hb; clear hb)) | ((with_reducible refine zac ?_); refine zal rfl hO rfl ?_; (refine nm 2 rfl ?_; clear hO; intro b2 u hO); simp only [zL, zK] at hO) | ((with_reducible refine zad ?_); refine zbx rfl hO rfl rfl ?_; (first | (refine nm 0 rfl ?_; clear hO; intro b0 u hO) | (refine nm 1 rfl ?_; clear hO; intro b1 u hO) | fail); simp only [zL, zK] at hO) | ((with_reducible refine zaa ?_); refine zlb rfl hO rfl _ (by (first | exact at0 | exact at1 | fail)) ?_) | ((with_reducible refine zab ?_); refine zsb rfl hO rfl _ (by exact at2) rfl ?_; clear hO; intro u hO; simp only [zC, zB] at hO) | fail)
    exact zan rfl hO rfl 2 at2 rfl rfl ⟨by rw [HE.out], hO.below⟩
  · omega

end Go.Proofs.YtmofcbpabdbjlaaGreat

namespace Go.Proofs.YtmofcbpabdbjlaaGreat

set_option maxRecDepth 8000

open Go.RowKit Go.ChangeShapes Go.WideShapes Go.Deep

set_option linter.unusedVariables false

set_option linter.unusedSimpArgs false

def nonNumS : ByteArray := ⟨#[110, 111, 110, 45, 110, 117, 109, 101, 114, 105, 99, 32, 97, 114, 103, 117, 109, 101, 110, 116]⟩

def cmpT (x y : It) : Int := cmpI x.num x.den x.text y.num y.den y.text

theorem cmpT_ne {x y : It} (h : zas x.num x.den x.text = true) (h' : zas y.num y.den y.text = true) : cmpT x y ≠ 2 := by
  unfold cmpT cmpI
  rw [h, h', Bool.and_self, if_pos rfl]
  repeat' split
  all_goals omega

end Go.Proofs.YtmofcbpabdbjlaaGreat

namespace Go.Proofs.YtmofcbpabdbjlaaGreat

set_option maxRecDepth 8000

open Go.RowKit Go.ChangeShapes Go.WideShapes Go.Deep

set_option linter.unusedVariables false

set_option linter.unusedSimpArgs false

theorem enters_ar {k : Nat} (h : k < 7) : Enters (opN k) := by
  match k, h with
  | 0, _ => exact Enters.of (c := _) Tryz.func57 rfl rfl
  | 1, _ => exact Enters.of (c := _) Tryz.func58 rfl rfl
  | 2, _ => exact Enters.of (c := _) Tryz.func59 rfl rfl
  | 3, _ => exact Enters.of (c := _) Tryz.func60 rfl rfl
  | 4, _ => exact Enters.of (c := _) Tryz.func61 rfl rfl
  | 5, _ => exact Enters.of (c := _) Tryz.func62 rfl rfl
  | 6, _ => exact Enters.of (c := _) Tryz.func63 rfl rfl

theorem impl_arith {k : Nat} (h : k < 7) (n1 d1 n2 d2 : Int) (t1 t2 : ByteArray) (u : World) : Calls Tryz.prog (opN k) #[.agg #[.int .i64 n1, .int .i64 d1, .string t1], .agg #[.int .i64 n2, .int .i64 d2, .string t2]] u fun e w' => e = .returned (.agg #[.int .i64 (arV k n1 d1 t1 n2 d2 t2).1, .int .i64 (arV k n1 d1 t1 n2 d2 t2).2, .string ⟨#[]⟩]) ∧ Below u.heap.size u w' := by
  match k, h with
  | 0, _ => exact impl_add n1 d1 n2 d2 t1 t2 u
  | 1, _ => exact impl_sub n1 d1 n2 d2 t1 t2 u
  | 2, _ => exact impl_mul n1 d1 n2 d2 t1 t2 u
  | 3, _ => exact impl_div n1 d1 n2 d2 t1 t2 u
  | 4, _ => exact impl_pow n1 d1 n2 d2 t1 t2 u
  | 5, _ => exact impl_rem n1 d1 n2 d2 t1 t2 u
  | 6, _ => exact impl_quot n1 d1 n2 d2 t1 t2 u

theorem nil_no (f : Nat) (u : World) : Sem.run Tryz.prog (binOp BinOp.eql 47 (.func (.func f) #[] #[]) .nilFunc) u = .ok (.bool false) u := by
  have h := Tryz.underlying47
  unfold binOp
  simp
  unfold Op.equal Op.maxDepth
  rw [Op.equalIn]
  simp [run_underlying h, Sem.run_bind, Result.andThen]

theorem nil_yes (u : World) : Sem.run Tryz.prog (binOp BinOp.eql 47 .nilFunc .nilFunc) u = .ok (.bool true) u := by
  have h := Tryz.underlying47
  unfold binOp
  simp
  unfold Op.equal Op.maxDepth
  rw [Op.equalIn]
  simp [run_underlying h, Sem.run_bind, Result.andThen]

def arT (op : ByteArray) (a b : VT) : VT := if isV a && isV b then (if opK op < 7 then (if cntK a.kind a.levels.length && cntK b.kind b.levels.length then (if recB a.items.length b.items.length then twoT 2 (arF op) a b else vecI 0 []) else vecI 0 []) else vecI 0 []) else vecI 0 []

def arS (op : ByteArray) (a b : VT) : ByteArray := if isV a && isV b then (if opK op < 7 then (if cntK a.kind a.levels.length && cntK b.kind b.levels.length then (if recB a.items.length b.items.length then ⟨#[]⟩ else difS) else nonNumS) else unkS) else badS

theorem isV_lens {t : VT} (h : isV t = true) : t.items.length ≤ 40 ∧ (t.names.length = 0 ∨ t.names.length = lenV t) := by
  obtain ⟨k, is, ps, ns, cs, ls, c, e⟩ := t
  have hf := isV_facts h
  exact ⟨isV_items h, hf.2.2.1⟩

set_option maxRecDepth 20000 in
set_option maxHeartbeats 4000000 in
theorem impl_ar (op : ByteArray) (ta tb : VT) (va vb : List Value) (w : World) (ha : RdV w ta va) (hb : RdV w tb vb) (hza : szV ta ≤ 1048576) (hzb : szV tb ≤ 1048576) : Calls Tryz.prog 6 #[.string op, .agg va.toArray, .agg vb.toArray] w (RetVS (arT op ta tb) (arS op ta tb) w) := by
  have CA := fun u (h : Below w.heap.size w u) => impl_isVec ta _ u (ha.grow h) hza
  have CB := fun u (h : Below w.heap.size w u) => impl_isVec tb _ u (hb.grow h) hzb
  obtain ⟨k, is, ps, ns, cs, ls, c, e⟩ := ta
  obtain ⟨k', is', ps', ns', cs', ls', c', e'⟩ := tb
  have HT : Hid (arT op (.mk k is ps ns cs ls c e) (.mk k' is' ps' ns' cs' ls' c' e') = if isV (.mk k is ps ns cs ls c e) && isV (.mk k' is' ps' ns' cs' ls' c' e') then (if opK op < 7 then (if cntK k ls.length && cntK k' ls'.length then (if recB is.length is'.length then twoT 2 (arF op) (.mk k is ps ns cs ls c e) (.mk k' is' ps' ns' cs' ls' c' e') else vecI 0 []) else vecI 0 []) else vecI 0 []) else vecI 0 []) := Lib.hid rfl
  have HS : Hid (arS op (.mk k is ps ns cs ls c e) (.mk k' is' ps' ns' cs' ls' c' e') = if isV (.mk k is ps ns cs ls c e) && isV (.mk k' is' ps' ns' cs' ls' c' e') then (if opK op < 7 then (if cntK k ls.length && cntK k' ls'.length then (if recB is.length is'.length then ⟨#[]⟩ else difS) else nonNumS) else unkS) else badS) := Lib.hid rfl
  have KA : Hid (isV (.mk k is ps ns cs ls c e) = true → is.length ≤ 40 ∧ (ns.length = 0 ∨ ns.length = lenN k is.length ps.length)) := Lib.hid (fun h => isV_lens h)
  have KB : Hid (isV (.mk k' is' ps' ns' cs' ls' c' e') = true → is'.length ≤ 40 ∧ (ns'.length = 0 ∨ ns'.length = lenN k' is'.length ps'.length)) := Lib.hid (fun h => isV_lens h)
  have HW : Hid (twoT 2 (arF op) (.mk k is ps ns cs ls c e) (.mk k' is' ps' ns' cs' ls' c' e') = vecN 2 (pwL (atI is) (atI is') (arF op) (recN is.length is'.length)) (nmQ (recN is.length is'.length) (lenN k is.length ps.length) ns (lenN k' is'.length ps'.length) ns')) := Lib.hid rfl
  obtain ⟨X, hX⟩ : ∃ X, arT op (.mk k is ps ns cs ls c e) (.mk k' is' ps' ns' cs' ls' c' e') = X := ⟨_, rfl⟩
  obtain ⟨Y, hY⟩ : ∃ Y, arS op (.mk k is ps ns cs ls c e) (.mk k' is' ps' ns' cs' ls' c' e') = Y := ⟨_, rfl⟩
  rw [hX] at HT
  rw [hY] at HS
  rw [hX, hY]
  obtain ⟨W, hW⟩ : ∃ W, twoT 2 (arF op) (.mk k is ps ns cs ls c e) (.mk k' is' ps' ns' cs' ls' c' e') = W := ⟨_, rfl⟩
  rw [hW] at HT HW
  obtain ⟨qa, hqa⟩ : ∃ q, isV (.mk k is ps ns cs ls c e) = q := ⟨_, rfl⟩
  obtain ⟨qb, hqb⟩ : ∃ q, isV (.mk k' is' ps' ns' cs' ls' c' e') = q := ⟨_, rfl⟩
  rw [hqa] at CA HT HS KA
  rw [hqb] at CB HT HS KB
  have hsa : szI is + szL ps + szS ns + szS cs + szS ls ≤ 1048576 := hza
  have hsb : szI is' + szL ps' + szS ns' + szS cs' + szS ls' ≤ 1048576 := hzb
  have ya : ns.length ≤ 1048576 := by unfold szS at hsa; omega
  have yb : ns'.length ≤ 1048576 := by unfold szS at hsb; omega
  have xa : (is.length : Int) + ps.length ≤ 9223372036854775807 := by have := szL_eq ps; unfold szI at hsa; omega
  have xb : (is'.length : Int) + ps'.length ≤ 9223372036854775807 := by have := szL_eq ps'; unfold szI at hsb; omega
  obtain ⟨Ai, Ap, An, Ac, Al, ci, cp, cn, cc, cl, pvs, rfl, h1, h2, h3, h4, h5⟩ := ha.open
  obtain ⟨Bi, Bp, Bn, Bc, Bl, di, dp, dn, dc, dl, pvs', rfl, g1, g2, g3, g4, g5⟩ := hb.open
  clear ha hb hza hzb hsa hsb hX hY hW hqa hqb h2 h4 h5 g2 g4 g5
  cases qa with
  | false =>
    have HF : Hid (X = vecI 0 []) := Lib.hid (by rw [HT.out]; rfl)
    have HG : Hid (Y = badS) := Lib.hid (by rw [HS.out]; rfl)
    clear HT HS
    go_enter Tryz.func6, Tryz.ntmps6
    have hO := Own.nil w
    go_wp2_with (first | ((with_reducible refine (CA _ hO.below).mono ?_); rintro e u ⟨rfl, hb⟩; (replace hO := hO.step hb; clear hb)) | ((with_reducible refine zac ?_); refine zal rfl hO rfl ?_; (refine nm 2 rfl ?_; clear hO; intro b2 u hO); simp only [zL, zK] at hO) | ((with_reducible refine zad ?_); refine zbx rfl hO rfl rfl ?_; (first | (refine nm 0 rfl ?_; clear hO; intro b0 u hO) | (refine nm 1 rfl ?_; clear hO; intro b1 u hO) | fail); simp only [zL, zK] at hO) | ((with_reducible refine zaa ?_); refine zlb rfl hO rfl _ (by exact at0) ?_) | ((with_reducible refine zab ?_); refine zsb rfl hO rfl _ (by exact at2) rfl ?_; clear hO; intro u hO; simp only [zC, zB] at hO) | fail)
    obtain ⟨F, hvo, hF⟩ := Own.vec0 u 0
    exact zau rfl hO rfl 2 at2 rfl rfl rfl ⟨_, _, by rw [HG.out]; rfl, by rw [HF.out]; exact hvo, (hO.call hF).pick [0] (by decide)⟩
  | true =>
  cases qb with
  | false =>
    have HF : Hid (X = vecI 0 []) := Lib.hid (by rw [HT.out]; rfl)
    have HG : Hid (Y = badS) := Lib.hid (by rw [HS.out]; rfl)
    clear HT HS
    go_enter Tryz.func6, Tryz.ntmps6
    have hO := Own.nil w
    go_wp2_with (first | ((with_reducible refine (CA _ hO.below).mono ?_); rintro e u ⟨rfl, hb⟩; (replace hO := hO.step hb; clear hb)) | ((with_reducible refine (CB _ hO.below).mono ?_); rintro e u ⟨rfl, hb⟩; (replace hO := hO.step hb; clear hb)) | ((with_reducible refine zac ?_); refine zal rfl hO rfl ?_; (refine nm 2 rfl ?_; clear hO; intro b2 u hO); simp only [zL, zK] at hO) | ((with_reducible refine zad ?_); refine zbx rfl hO rfl rfl ?_; (first | (refine nm 0 rfl ?_; clear hO; intro b0 u hO) | (refine nm 1 rfl ?_; clear hO; intro b1 u hO) | fail); simp only [zL, zK] at hO) | ((with_reducible refine zaa ?_); refine zlb rfl hO rfl _ (by (first | exact at0 | exact at1 | fail)) ?_) | ((with_reducible refine zab ?_); refine zsb rfl hO rfl _ (by exact at2) rfl ?_; clear hO; intro u hO; simp only [zC, zB] at hO) | fail)
    obtain ⟨F, hvo, hF⟩ := Own.vec0 u 0
    exact zau rfl hO rfl 2 at2 rfl rfl rfl ⟨_, _, by rw [HG.out]; rfl, by rw [HF.out]; exact hvo, (hO.call hF).pick [0] (by decide)⟩
  | true =>
  obtain ⟨la, na⟩ := KA.out rfl
  obtain ⟨lb, nb⟩ := KB.out rfl
  have CO := fun u => impl_operation op u
  by_cases ho' : ¬ opK op < 7
  · have ho := ho'
    have HF : Hid (X = vecI 0 []) := Lib.hid (by rw [HT.out]; simp [ho])
    have HG : Hid (Y = unkS) := Lib.hid (by rw [HS.out]; simp [ho])
    have hk : fnV (opK op) = .nilFunc := if_neg ho
    rw [hk] at CO
    clear HT HS hk
    have QF := fun u => nil_yes u
    go_enter Tryz.func6, Tryz.ntmps6
    have hO := Own.nil w
    go_wp2_with (first | ((with_reducible refine (CA _ hO.below).mono ?_); rintro e u ⟨rfl, hb⟩; (replace hO := hO.step hb; clear hb)) | ((with_reducible refine (CB _ hO.below).mono ?_); rintro e u ⟨rfl, hb⟩; (replace hO := hO.step hb; clear hb)) | ((with_reducible refine (CO _).mono ?_); rintro e u ⟨rfl, hb⟩; (replace hO := hO.step hb; clear hb)) | ((with_reducible refine zac ?_); refine zal rfl hO rfl ?_; (refine nm 2 rfl ?_; clear hO; intro b2 u hO); simp only [zL, zK] at hO) | ((with_reducible refine zad ?_); refine zbx rfl hO rfl rfl ?_; (first | (refine nm 0 rfl ?_; clear hO; intro b0 u hO) | (refine nm 1 rfl ?_; clear hO; intro b1 u hO) | fail); simp only [zL, zK] at hO) | ((with_reducible refine zaa ?_); refine zlb rfl hO rfl _ (by (first | exact at0 | exact at1 | fail)) ?_) | ((with_reducible refine zab ?_); refine zsb rfl hO rfl _ (by exact at2) rfl ?_; clear hO; intro u hO; simp only [zC, zB] at hO) | fail)
    obtain ⟨F, hvo, hF⟩ := Own.vec0 u 0
    exact zau rfl hO rfl 2 at2 rfl rfl rfl ⟨_, _, by rw [HG.out]; rfl, by rw [HF.out]; exact hvo, (hO.call hF).pick [0] (by decide)⟩
  · have ho : opK op < 7 := Decidable.not_not.1 ho'
    have hk : fnV (opK op) = .func (.func (opN (opK op))) #[] #[] := if_pos ho
    rw [hk] at CO
    have HT' : Hid (X = if cntK k ls.length && cntK k' ls'.length then (if recB is.length is'.length then W else vecI 0 []) else vecI 0 []) := Lib.hid (by rw [HT.out]; simp only [Bool.and_self, if_true]; rw [if_pos ho])
    have HS' : Hid (Y = if cntK k ls.length && cntK k' ls'.length then (if recB is.length is'.length then ⟨#[]⟩ else difS) else nonNumS) := Lib.hid (by rw [HS.out]; simp only [Bool.and_self, if_true]; rw [if_pos ho])
    clear HT HS hk
    have HT := HT'
    have HS := HS'
    clear HT' HS'
    have QF := fun u => nil_no (opN (opK op)) u
    have CC := fun u => impl_counts k (.slice Ai is.length ci) (.slice Ap ps.length cp) (.slice An ns.length cn) (.slice Ac cs.length cc) (.int .i64 c) (.int .i64 e) Al ls.length cl u
    have CD := fun u => impl_counts k' (.slice Bi is'.length di) (.slice Bp ps'.length dp) (.slice Bn ns'.length dn) (.slice Bc cs'.length dc) (.int .i64 c') (.int .i64 e') Bl ls'.length dl u
    obtain ⟨ra, hra⟩ : ∃ r, cntK k ls.length = r := ⟨_, rfl⟩
    obtain ⟨rb, hrb⟩ : ∃ r, cntK k' ls'.length = r := ⟨_, rfl⟩
    rw [hra] at CC HT HS
    rw [hrb] at CD HT HS
    clear hra hrb
    cases ra with
    | false =>
      have HF : Hid (X = vecI 0 []) := Lib.hid (by rw [HT.out]; rfl)
      have HG : Hid (Y = nonNumS) := Lib.hid (by rw [HS.out]; rfl)
      clear HT HS
      go_enter Tryz.func6, Tryz.ntmps6
      have hO := Own.nil w
      go_wp2_with (first | ((with_reducible refine (CA _ hO.below).mono ?_); rintro e u ⟨rfl, hb⟩; (replace hO := hO.step hb; clear hb)) | ((with_reducible refine (CB _ hO.below).mono ?_); rintro e u ⟨rfl, hb⟩; (replace hO := hO.step hb; clear hb)) | ((with_reducible refine (CO _).mono ?_); rintro e u ⟨rfl, hb⟩; (replace hO := hO.step hb; clear hb)) | ((with_reducible refine (CC _).mono ?_); rintro e u ⟨rfl, hb⟩; (replace hO := hO.step hb; clear hb)) | ((with_reducible refine zac ?_); refine zal rfl hO rfl ?_; (refine nm 2 rfl ?_; clear hO; intro b2 u hO); simp only [zL, zK] at hO) | ((with_reducible refine zad ?_); refine zbx rfl hO rfl rfl ?_; (first | (refine nm 0 rfl ?_; clear hO; intro b0 u hO) | (refine nm 1 rfl ?_; clear hO; intro b1 u hO) | fail); simp only [zL, zK] at hO) | ((with_reducible refine zaa ?_); refine zlb rfl hO rfl _ (by (first | exact at0 | exact at1 | fail)) ?_) | ((with_reducible refine zab ?_); refine zsb rfl hO rfl _ (by exact at2) rfl ?_; clear hO; intro u hO; simp only [zC, zB] at hO) | fail)
      obtain ⟨F, hvo, hF⟩ := Own.vec0 u 0
      exact zau rfl hO rfl 2 at2 rfl rfl rfl ⟨_, _, by rw [HG.out]; rfl, by rw [HF.out]; exact hvo, (hO.call hF).pick [0] (by decide)⟩
    | true =>
    cases rb with
    | false =>
      have HF : Hid (X = vecI 0 []) := Lib.hid (by rw [HT.out]; rfl)
      have HG : Hid (Y = nonNumS) := Lib.hid (by rw [HS.out]; rfl)
      clear HT HS
      go_enter Tryz.func6, Tryz.ntmps6
      have hO := Own.nil w
      go_wp2_with (first | ((with_reducible refine (CA _ hO.below).mono ?_); rintro e u ⟨rfl, hb⟩; (replace hO := hO.step hb; clear hb)) | ((with_reducible refine (CB _ hO.below).mono ?_); rintro e u ⟨rfl, hb⟩; (replace hO := hO.step hb; clear hb)) | ((with_reducible refine (CO _).mono ?_); rintro e u ⟨rfl, hb⟩; (replace hO := hO.step hb; clear hb)) | ((with_reducible refine (CC _).mono ?_); rintro e u ⟨rfl, hb⟩; (replace hO := hO.step hb; clear hb)) | ((with_reducible refine (CD _).mono ?_); rintro e u ⟨rfl, hb⟩; (replace hO := hO.step hb; clear hb)) | ((with_reducible refine zac ?_); refine zal rfl hO rfl ?_; (refine nm 2 rfl ?_; clear hO; intro b2 u hO); simp only [zL, zK] at hO) | ((with_reducible refine zad ?_); refine zbx rfl hO rfl rfl ?_; (first | (refine nm 0 rfl ?_; clear hO; intro b0 u hO) | (refine nm 1 rfl ?_; clear hO; intro b1 u hO) | fail); simp only [zL, zK] at hO) | ((with_reducible refine zaa ?_); refine zlb rfl hO rfl _ (by (first | exact at0 | exact at1 | fail)) ?_) | ((with_reducible refine zab ?_); refine zsb rfl hO rfl _ (by exact at2) rfl ?_; clear hO; intro u hO; simp only [zC, zB] at hO) | fail)
      obtain ⟨F, hvo, hF⟩ := Own.vec0 u 0
      exact zau rfl hO rfl 2 at2 rfl rfl rfl ⟨_, _, by rw [HG.out]; rfl, by rw [HF.out]; exact hvo, (hO.call hF).pick [0] (by decide)⟩
    | true =>
      have CW : ∀ (u : World), Sl u 3 Ai is.length (itc is) → Sl u 3 Bi is'.length (itc is') → Calls Tryz.prog 21 #[.int .i64 2, .agg #[.int .i64 k, .slice Ai is.length ci, .slice Ap ps.length cp, .slice An ns.length cn, .slice Ac cs.length cc, .slice Al ls.length cl, .int .i64 c, .int .i64 e], .agg #[.int .i64 k', .slice Bi is'.length di, .slice Bp ps'.length dp, .slice Bn ns'.length dn, .slice Bc cs'.length dc, .slice Bl ls'.length dl, .int .i64 c', .int .i64 e'], .func (.func (opN (opK op))) #[] #[]] u (RetVS (pwT 2 is is' (arF op)) (pwS is is') u) := fun u s1 s2 =>
        impl_pairwise 2 k k' Ai Bi ci di is is' _ _ _ _ _ _ _ _ _ _ _ _ (opN (opK op)) #[] (arF op) u s1 s2 la lb (enters_ar ho) fun x _ y _ v hv => impl_arith ho x.num x.den y.num y.den x.text y.text v
      have S1 := fun u (h : Below w.heap.size w u) => h1.below h
      have S2 := fun u (h : Below w.heap.size w u) => g1.below h
      have S3 := fun u (h : Below w.heap.size w u) => h3.below h
      have S4 := fun u (h : Below w.heap.size w u) => g3.below h
      have HPW : Hid (pwT 2 is is' (arF op) = if recB is.length is'.length then vecI 2 (pwL (atI is) (atI is') (arF op) (recN is.length is'.length)) else vecI 0 []) := Lib.hid rfl
      have HPS : Hid (pwS is is' = if recB is.length is'.length then ⟨#[]⟩ else difS) := Lib.hid rfl
      obtain ⟨T, hT⟩ : ∃ T, pwT 2 is is' (arF op) = T := ⟨_, rfl⟩
      obtain ⟨S, hS⟩ : ∃ S, pwS is is' = S := ⟨_, rfl⟩
      rw [hT] at CW HPW
      rw [hS] at CW HPS
      obtain ⟨rq, hrq⟩ : ∃ q, recB is.length is'.length = q := ⟨_, rfl⟩
      rw [hrq] at HPW HPS HT HS
      clear hT hS hrq h1 g1 h3 g3
      cases rq with
      | false =>
        have HF : Hid (X = vecI 0 []) := Lib.hid (by rw [HT.out]; rfl)
        have HG : Hid (Y = difS) := Lib.hid (by rw [HS.out]; rfl)
        have e1 : T = vecI 0 [] := by rw [HPW.out]; rfl
        have e2 : S = difS := by rw [HPS.out]; rfl
        rw [e1, e2] at CW
        clear HT HS HPW HPS e1 e2
        have qd : (!difS.toList.isEmpty) = true := by rw [ByteArray.toList_eq]; rfl
        go_enter Tryz.func6, Tryz.ntmps6
        have hO := Own.nil w
        go_wp2_with (first | ((with_reducible refine (CA _ hO.below).mono ?_); rintro e u ⟨rfl, hb⟩; (replace hO := hO.step hb; clear hb)) | ((with_reducible refine (CB _ hO.below).mono ?_); rintro e u ⟨rfl, hb⟩; (replace hO := hO.step hb; clear hb)) | ((with_reducible refine (CO _).mono ?_); rintro e u ⟨rfl, hb⟩; (replace hO := hO.step hb; clear hb)) | ((with_reducible refine (CC _).mono ?_); rintro e u ⟨rfl, hb⟩; (replace hO := hO.step hb; clear hb)) | ((with_reducible refine (CD _).mono ?_); rintro e u ⟨rfl, hb⟩; (replace hO := hO.step hb; clear hb)) | ((with_reducible refine zac ?_); refine zal rfl hO rfl ?_; (refine nm 2 rfl ?_; clear hO; intro b2 u hO); simp only [zL, zK] at hO) | ((with_reducible refine zad ?_); refine zbx rfl hO rfl rfl ?_; (first | (refine nm 0 rfl ?_; clear hO; intro b0 u hO) | (refine nm 1 rfl ?_; clear hO; intro b1 u hO) | fail); simp only [zL, zK] at hO) | ((with_reducible refine zaa ?_); refine zlb rfl hO rfl _ (by (first | exact at0 | exact at1 | fail)) ?_) | fail)
        refine ((CW _ (S1 _ hO.below) (S2 _ hO.below)).mono fun e' w' h => RetVS.exI h).mono ?_
        rintro e u ⟨Q1, Q2, Q3, Q4, Q5, m1, m2, m3, m4, m5, F, rfl, hvo, hb⟩
        replace hO := hO.call hb
        clear hb hvo
        simp only [List.cons_append, List.nil_append] at hO
        go_wp2_with (first | ((with_reducible refine zac ?_); refine zal rfl hO rfl ?_; (refine nm 4 rfl ?_; clear hO; intro b4 u hO); simp only [zL, zK] at hO) | ((with_reducible refine zab ?_); refine zsb rfl hO rfl _ (by (first | exact at3 | exact at4 | fail)) rfl ?_; clear hO; intro u hO; simp only [zC, zB] at hO) | fail)
        obtain ⟨F, hvo, hF⟩ := Own.vec0 u 0
        exact zau rfl hO rfl 3 at3 rfl rfl rfl ⟨_, _, by rw [HG.out]; rfl, by rw [HF.out]; exact hvo, (hO.call hF).pick [0] (by decide)⟩
      | true =>
        have HG : Hid (Y = ⟨#[]⟩) := Lib.hid (by rw [HS.out]; rfl)
        have hX : X = W := by rw [HT.out]; rfl
        have e1 : T = vecI 2 (pwL (atI is) (atI is') (arF op) (recN is.length is'.length)) := by rw [HPW.out]; rfl
        have e2 : S = ⟨#[]⟩ := by rw [HPS.out]; rfl
        have hlen := pwL_len (atI is) (atI is') (arF op) (recN is.length is'.length)
        have hnm := nm_eq (n := recN is.length is'.length) na nb
        have hXW := hX.trans HW.out
        obtain ⟨LL, hLL⟩ : ∃ L, pwL (atI is) (atI is') (arF op) (recN is.length is'.length) = L := ⟨_, rfl⟩
        rw [hLL] at e1 hlen hXW
        rw [← hlen] at hnm hXW
        obtain ⟨NN, hNN⟩ : ∃ N, nmQ LL.length (lenN k is.length ps.length) ns (lenN k' is'.length ps'.length) ns' = N := ⟨_, rfl⟩
        rw [hNN] at hnm hXW
        have HNM := Lib.hid hnm
        have HF := Lib.hid hXW
        rw [e1, e2] at CW
        clear HT HS HPW HPS e1 e2 hlen hnm hXW hX hLL hNN HW
        go_enter Tryz.func6, Tryz.ntmps6
        have hO := Own.nil w
        go_wp2_with (first | ((with_reducible refine (CA _ hO.below).mono ?_); rintro e u ⟨rfl, hb⟩; (replace hO := hO.step hb; clear hb)) | ((with_reducible refine (CB _ hO.below).mono ?_); rintro e u ⟨rfl, hb⟩; (replace hO := hO.step hb; clear hb)) | ((with_reducible refine (CO _).mono ?_); rintro e u ⟨rfl, hb⟩; (replace hO := hO.step hb; clear hb)) | ((with_reducible refine (CC _).mono ?_); rintro e u ⟨rfl, hb⟩; (replace hO := hO.step hb; clear hb)) | ((with_reducible refine (CD _).mono ?_); rintro e u ⟨rfl, hb⟩; (replace hO := hO.step hb; clear hb)) | ((with_reducible refine zac ?_); refine zal rfl hO rfl ?_; (refine nm 2 rfl ?_; clear hO; intro b2 u hO); simp only [zL, zK] at hO) | ((with_reducible refine zad ?_); refine zbx rfl hO rfl rfl ?_; (first | (refine nm 0 rfl ?_; clear hO; intro b0 u hO) | (refine nm 1 rfl ?_; clear hO; intro b1 u hO) | fail); simp only [zL, zK] at hO) | ((with_reducible refine zaa ?_); refine zlb rfl hO rfl _ (by (first | exact at0 | exact at1 | fail)) ?_) | fail)
        refine ((CW _ (S1 _ hO.below) (S2 _ hO.below)).mono fun e' w' h => RetVS.exI h).mono ?_
        rintro e u ⟨Q1, Q2, Q3, Q4, Q5, m1, m2, m3, m4, m5, F, rfl, hvo, hb⟩
        replace hO := hO.call hb
        clear hb CW
        simp only [List.cons_append, List.nil_append] at hO
        go_wp2_with (first | ((with_reducible refine zac ?_); refine zal rfl hO rfl ?_; (refine nm 4 rfl ?_; clear hO; intro b4 u hO); simp only [zL, zK] at hO) | ((with_reducible refine zaa ?_); refine zlb rfl hO rfl _ (by (first | exact at1 | exact at2 | fail)) ?_) | ((with_reducible refine zaa ?_); refine zlf rfl hO rfl _ (by exact at4) ?_) | ((with_reducible refine zab ?_); refine zsb rfl hO rfl _ (by exact at4) rfl ?_; clear hO; intro u hO; simp only [zC, zB] at hO) | fail)
        refine (impl_names LL.length k k' Ai Ap An Bi Bp Bn is.length ci ps.length cp cn is'.length di ps'.length dp dn _ _ _ _ _ _ _ _ ns ns' _ (S3 _ hO.below) (S4 _ hO.below) ya yb xa xb).mono ?_
        rintro e u ⟨N', d', rfl, hb⟩
        rw [HNM.out] at hb
        rw [HNM.out]
        replace hO := hO.call hb
        clear hb
        simp only [List.cons_append, List.nil_append] at hO
        go_wp2_with (first | ((with_reducible refine zaa ?_); refine zlb rfl hO rfl _ (by exact at5) ?_) | ((with_reducible refine zab ?_); refine zsb rfl hO rfl _ (by exact at4) rfl ?_; clear hO; intro u hO; simp only [zC, zB] at hO) | ((with_reducible refine zab ?_); refine zsf rfl hO rfl _ (by exact at5) (zM rfl) ?_; clear hO; intro u hO; simp only [zC, zB] at hO) | fail)
        have hR := hO.pick [1, 0] (by decide)
        simp only [List.filterMap_cons, List.filterMap_nil, List.getElem?_cons_zero, List.getElem?_cons_succ] at hR
        refine zau rfl hO rfl 4 at4 rfl rfl rfl ?_
        clear hO
        obtain ⟨F', hvo', hF⟩ := Own.rename hR hvo
        exact ⟨_, _, by rw [HG.out]; rfl, by rw [HF.out]; exact hvo', hF⟩

end Go.Proofs.YtmofcbpabdbjlaaGreat
