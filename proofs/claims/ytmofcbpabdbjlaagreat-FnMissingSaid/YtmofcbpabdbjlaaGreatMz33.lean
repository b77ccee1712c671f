/-
  What is proved: what two items compare to (compareItems, compared of the program; l5Order, l5Holds of the reference).
  Condition: items that are valid for their kind.
-/
import Derived.Test.YtmofcbpabdbjlaaGreatMz4
import Derived.Test.YtmofcbpabdbjlaaGreatMz16
import Derived.Test.YtmofcbpabdbjlaaGreatMz22
import Derived.Test.YtmofcbpabdbjlaaGreatMz28
import Derived.Test.YtmofcbpabdbjlaaGreatMz32
namespace Go.Proofs.YtmofcbpabdbjlaaGreat

set_option maxRecDepth 8000

open Go.RowKit Go.ChangeShapes Go.WideShapes Go.Deep

set_option linter.unusedVariables false

set_option linter.unusedSimpArgs false

def cK (op : ByteArray) : Nat := if op.toList == [61, 61] then 0 else if op.toList == [33, 61] then 1 else if op.toList == [60] then 2 else if op.toList == [60, 61] then 3 else if op.toList == [62] then 4 else if op.toList == [62, 61] then 5 else 6

def cmpV (k : Nat) (c : Int) : Bool := match k with
  | 0 => c == 0
  | 1 => c != 0
  | 2 => decide (c < 0)
  | 3 => decide (c ≤ 0)
  | 4 => decide (0 < c)
  | _ => decide (0 ≤ c)

def txtC (a b : ByteArray) : Int := if Op.bytesLess a.toList b.toList then -1 else if !(a.toList == b.toList) then 1 else 0

def itmC (kind : Int) (x y : It) : Int := if kind = 3 then txtC x.text y.text else cmpT x y

/-- what the program's comparison makes of two items -/
def cpF (op : ByteArray) (kind : Int) (x y : It) : It := if misB x || misB y then ⟨0, 0, ⟨#[]⟩⟩ else msI (cmpV (cK op) (itmC kind x y))

theorem cK_cases (op : ByteArray) : ((op.toList == [61, 61]) = true ∧ cK op = 0) ∨ ((op.toList == [61, 61]) = false ∧ (op.toList == [33, 61]) = true ∧ cK op = 1) ∨ ((op.toList == [61, 61]) = false ∧ (op.toList == [33, 61]) = false ∧ (op.toList == [60]) = true ∧ cK op = 2) ∨ ((op.toList == [61, 61]) = false ∧ (op.toList == [33, 61]) = false ∧ (op.toList == [60]) = false ∧ (op.toList == [60, 61]) = true ∧ cK op = 3) ∨ ((op.toList == [61, 61]) = false ∧ (op.toList == [33, 61]) = false ∧ (op.toList == [60]) = false ∧ (op.toList == [60, 61]) = false ∧ (op.toList == [62]) = true ∧ cK op = 4) ∨ ((op.toList == [61, 61]) = false ∧ (op.toList == [33, 61]) = false ∧ (op.toList == [60]) = false ∧ (op.toList == [60, 61]) = false ∧ (op.toList == [62]) = false ∧ (op.toList == [62, 61]) = true ∧ cK op = 5) ∨ ((op.toList == [61, 61]) = false ∧ (op.toList == [33, 61]) = false ∧ (op.toList == [60]) = false ∧ (op.toList == [60, 61]) = false ∧ (op.toList == [62]) = false ∧ (op.toList == [62, 61]) = false ∧ cK op = 6) := by
  unfold cK
  cases h0 : (op.toList == [61, 61]) with
  | true => exact Or.inl ⟨rfl, rfl⟩
  | false =>
    cases h1 : (op.toList == [33, 61]) with
    | true => exact Or.inr (Or.inl ⟨rfl, rfl, rfl⟩)
    | false =>
      cases h2 : (op.toList == [60]) with
      | true => exact Or.inr (Or.inr (Or.inl ⟨rfl, rfl, rfl, rfl⟩))
      | false =>
        cases h3 : (op.toList == [60, 61]) with
        | true => exact Or.inr (Or.inr (Or.inr (Or.inl ⟨rfl, rfl, rfl, rfl, rfl⟩)))
        | false =>
          cases h4 : (op.toList == [62]) with
          | true => exact Or.inr (Or.inr (Or.inr (Or.inr (Or.inl ⟨rfl, rfl, rfl, rfl, rfl, rfl⟩))))
          | false =>
            cases h5 : (op.toList == [62, 61]) with
            | true => exact Or.inr (Or.inr (Or.inr (Or.inr (Or.inr (Or.inl ⟨rfl, rfl, rfl, rfl, rfl, rfl, rfl⟩)))))
            | false =>
              exact Or.inr (Or.inr (Or.inr (Or.inr (Or.inr (Or.inr ⟨rfl, rfl, rfl, rfl, rfl, rfl, rfl⟩)))))

set_option maxHeartbeats 1000000 in
theorem impl_isComparison (op : ByteArray) (w : World) : Calls Tryz.prog 23 #[.string op] w fun e w' => e = .returned (.bool (decide (cK op < 6))) ∧ Below w.heap.size w w' := by
  rcases cK_cases op with ⟨o0, hk⟩ | ⟨o0, o1, hk⟩ | ⟨o0, o1, o2, hk⟩ | ⟨o0, o1, o2, o3, hk⟩ | ⟨o0, o1, o2, o3, o4, hk⟩ | ⟨o0, o1, o2, o3, o4, o5, hk⟩ | ⟨o0, o1, o2, o3, o4, o5, hk⟩
  · rw [hk]
    clear hk
    go_enter Tryz.func23, Tryz.ntmps23
    have hO := Own.nil w
    go_wp2_with (first | ((with_reducible refine zac ?_); refine zal rfl hO rfl ?_; (first | (refine nm 0 rfl ?_; clear hO; intro b0 u hO)); simp only [zL, zK] at hO) | ((with_reducible refine zad ?_); refine zbx rfl hO rfl rfl ?_; (first | (refine nm 0 rfl ?_; clear hO; intro b0 u hO)); simp only [zL, zK] at hO) | fail)
    go_ret
    exact ⟨rfl, hO.below⟩
  · rw [hk]
    clear hk
    go_enter Tryz.func23, Tryz.ntmps23
    have hO := Own.nil w
    go_wp2_with (first | ((with_reducible refine zac ?_); refine zal rfl hO rfl ?_; (first | (refine nm 0 rfl ?_; clear hO; intro b0 u hO)); simp only [zL, zK] at hO) | ((with_reducible refine zad ?_); refine zbx rfl hO rfl rfl ?_; (first | (refine nm 0 rfl ?_; clear hO; intro b0 u hO)); simp only [zL, zK] at hO) | fail)
    go_ret
    exact ⟨rfl, hO.below⟩
  · rw [hk]
    clear hk
    go_enter Tryz.func23, Tryz.ntmps23
    have hO := Own.nil w
    go_wp2_with (first | ((with_reducible refine zac ?_); refine zal rfl hO rfl ?_; (first | (refine nm 0 rfl ?_; clear hO; intro b0 u hO)); simp only [zL, zK] at hO) | ((with_reducible refine zad ?_); refine zbx rfl hO rfl rfl ?_; (first | (refine nm 0 rfl ?_; clear hO; intro b0 u hO)); simp only [zL, zK] at hO) | fail)
    go_ret
    exact ⟨rfl, hO.below⟩
  · rw [hk]
    clear hk
    go_enter Tryz.func23, Tryz.ntmps23
    have hO := Own.nil w
    go_wp2_with (first | ((with_reducible refine zac ?_); refine zal rfl hO rfl ?_; (first | (refine nm 0 rfl ?_; clear hO; intro b0 u hO)); simp only [zL, zK] at hO) | ((with_reducible refine zad ?_); refine zbx rfl hO rfl rfl ?_; (first | (refine nm 0 rfl ?_; clear hO; intro b0 u hO)); simp only [zL, zK] at hO) | fail)
    go_ret
    exact ⟨rfl, hO.below⟩
  · rw [hk]
    clear hk
    go_enter Tryz.func23, Tryz.ntmps23
    have hO := Own.nil w
    go_wp2_with (first | ((with_reducible refine zac ?_); refine zal rfl hO rfl ?_; (first | (refine nm 0 rfl ?_; clear hO; intro b0 u hO)); simp only [zL, zK] at hO) | ((with_reducible refine zad ?_); refine zbx rfl hO rfl rfl ?_; (first | (refine nm 0 rfl ?_; clear hO; intro b0 u hO)); simp only [zL, zK] at hO) | fail)
    go_ret
    exact ⟨rfl, hO.below⟩
  · rw [hk]
    clear hk
    go_enter Tryz.func23, Tryz.ntmps23
    have hO := Own.nil w
    go_wp2_with (first | ((with_reducible refine zac ?_); refine zal rfl hO rfl ?_; (first | (refine nm 0 rfl ?_; clear hO; intro b0 u hO)); simp only [zL, zK] at hO) | ((with_reducible refine zad ?_); refine zbx rfl hO rfl rfl ?_; (first | (refine nm 0 rfl ?_; clear hO; intro b0 u hO)); simp only [zL, zK] at hO) | fail)
    go_ret
    exact ⟨rfl, hO.below⟩
  · rw [hk]
    clear hk
    go_enter Tryz.func23, Tryz.ntmps23
    have hO := Own.nil w
    go_wp2_with (first | ((with_reducible refine zac ?_); refine zal rfl hO rfl ?_; (first | (refine nm 0 rfl ?_; clear hO; intro b0 u hO)); simp only [zL, zK] at hO) | ((with_reducible refine zad ?_); refine zbx rfl hO rfl rfl ?_; (first | (refine nm 0 rfl ?_; clear hO; intro b0 u hO)); simp only [zL, zK] at hO) | fail)
    go_ret
    exact ⟨rfl, hO.below⟩

set_option maxHeartbeats 1000000 in
theorem impl_compared (op : ByteArray) (c : Int) (w : World) (ho : cK op < 6) : Calls Tryz.prog 29 #[.string op, .int .i64 c] w fun e w' => e = .returned (.bool (cmpV (cK op) c)) ∧ Below w.heap.size w w' := by
  rcases cK_cases op with ⟨o0, hk⟩ | ⟨o0, o1, hk⟩ | ⟨o0, o1, o2, hk⟩ | ⟨o0, o1, o2, o3, hk⟩ | ⟨o0, o1, o2, o3, o4, hk⟩ | ⟨o0, o1, o2, o3, o4, o5, hk⟩ | ⟨o0, o1, o2, o3, o4, o5, hk⟩
  · rw [hk]
    have HE := Lib.hid (show cmpV 0 c = (c == 0) from rfl)
    clear hk ho
    go_enter Tryz.func29, Tryz.ntmps29
    have hO := Own.nil w
    go_wp2_with (first | ((with_reducible refine zac ?_); refine zal rfl hO rfl ?_; (first | (refine nm 0 rfl ?_; clear hO; intro b0 u hO)); simp only [zL, zK] at hO) | ((with_reducible refine zad ?_); refine zbx rfl hO rfl rfl ?_; (first | (refine nm 0 rfl ?_; clear hO; intro b0 u hO)); simp only [zL, zK] at hO) | fail)
    all_goals
      go_ret
      exact ⟨zap (by rw [HE.out]), hO.below⟩
  · rw [hk]
    have HE := Lib.hid (show cmpV 1 c = (c != 0) from rfl)
    clear hk ho
    go_enter Tryz.func29, Tryz.ntmps29
    have hO := Own.nil w
    go_wp2_with (first | ((with_reducible refine zac ?_); refine zal rfl hO rfl ?_; (first | (refine nm 0 rfl ?_; clear hO; intro b0 u hO)); simp only [zL, zK] at hO) | ((with_reducible refine zad ?_); refine zbx rfl hO rfl rfl ?_; (first | (refine nm 0 rfl ?_; clear hO; intro b0 u hO)); simp only [zL, zK] at hO) | fail)
    all_goals
      go_ret
      exact ⟨zap (by rw [HE.out]), hO.below⟩
  · rw [hk]
    have HE := Lib.hid (show cmpV 2 c = decide (c < 0) from rfl)
    clear hk ho
    go_enter Tryz.func29, Tryz.ntmps29
    have hO := Own.nil w
    go_wp2_with (first | ((with_reducible refine zac ?_); refine zal rfl hO rfl ?_; (first | (refine nm 0 rfl ?_; clear hO; intro b0 u hO)); simp only [zL, zK] at hO) | ((with_reducible refine zad ?_); refine zbx rfl hO rfl rfl ?_; (first | (refine nm 0 rfl ?_; clear hO; intro b0 u hO)); simp only [zL, zK] at hO) | fail)
    all_goals
      go_ret
      exact ⟨zap (by rw [HE.out]), hO.below⟩
  · rw [hk]
    have HE := Lib.hid (show cmpV 3 c = decide (c ≤ 0) from rfl)
    clear hk ho
    go_enter Tryz.func29, Tryz.ntmps29
    have hO := Own.nil w
    go_wp2_with (first | ((with_reducible refine zac ?_); refine zal rfl hO rfl ?_; (first | (refine nm 0 rfl ?_; clear hO; intro b0 u hO)); simp only [zL, zK] at hO) | ((with_reducible refine zad ?_); refine zbx rfl hO rfl rfl ?_; (first | (refine nm 0 rfl ?_; clear hO; intro b0 u hO)); simp only [zL, zK] at hO) | fail)
    all_goals
      go_ret
      exact ⟨zap (by rw [HE.out]), hO.below⟩
  · rw [hk]
    have HE := Lib.hid (show cmpV 4 c = decide (0 < c) from rfl)
    clear hk ho
    go_enter Tryz.func29, Tryz.ntmps29
    have hO := Own.nil w
    go_wp2_with (first | ((with_reducible refine zac ?_); refine zal rfl hO rfl ?_; (first | (refine nm 0 rfl ?_; clear hO; intro b0 u hO)); simp only [zL, zK] at hO) | ((with_reducible refine zad ?_); refine zbx rfl hO rfl rfl ?_; (first | (refine nm 0 rfl ?_; clear hO; intro b0 u hO)); simp only [zL, zK] at hO) | fail)
    all_goals
      go_ret
      exact ⟨zap (by rw [HE.out]), hO.below⟩
  · rw [hk]
    have HE := Lib.hid (show cmpV 5 c = decide (0 ≤ c) from rfl)
    clear hk ho
    go_enter Tryz.func29, Tryz.ntmps29
    have hO := Own.nil w
    go_wp2_with (first | ((with_reducible refine zac ?_); refine zal rfl hO rfl ?_; (first | (refine nm 0 rfl ?_; clear hO; intro b0 u hO)); simp only [zL, zK] at hO) | ((with_reducible refine zad ?_); refine zbx rfl hO rfl rfl ?_; (first | (refine nm 0 rfl ?_; clear hO; intro b0 u hO)); simp only [zL, zK] at hO) | fail)
    all_goals
      go_ret
      exact ⟨zap (by rw [HE.out]), hO.below⟩
  · omega

theorem impl_compareTexts (a b : ByteArray) (w : World) : Calls Tryz.prog 69 #[.string a, .string b] w fun e w' => e = .returned (.int .i64 (txtC a b)) ∧ Below w.heap.size w w' := by
  have HE : Hid (txtC a b = if Op.bytesLess a.toList b.toList then -1 else if !(a.toList == b.toList) then 1 else 0) := Lib.hid rfl
  cases hb : Op.bytesLess a.toList b.toList with
  | true =>
    have HF2 : Hid (txtC a b = -1) := Lib.hid (by rw [HE.out, if_pos hb])
    clear HE
    go_enter Tryz.func69, Tryz.ntmps69
    have hO := Own.nil w
    go_wp2_with (first | ((with_reducible refine zac ?_); refine zal rfl hO rfl ?_; (first | (refine nm 0 rfl ?_; clear hO; intro b0 u hO)); simp only [zL, zK] at hO) | ((with_reducible refine zad ?_); refine zbx rfl hO rfl rfl ?_; (first | (refine nm 0 rfl ?_; clear hO; intro b0 u hO)); simp only [zL, zK] at hO) | fail)
    go_ret
    exact ⟨zat HF2.out.symm, hO.below⟩
  | false =>
    cases hq : (a.toList == b.toList) with
    | true =>
      have HF2 : Hid (txtC a b = 0) := Lib.hid (by rw [HE.out, if_neg (by rw [hb]; decide), if_neg (by rw [hq]; decide)])
      clear HE
      go_enter Tryz.func69, Tryz.ntmps69
      have hO := Own.nil w
      go_wp2_with (first | ((with_reducible refine zac ?_); refine zal rfl hO rfl ?_; (first | (refine nm 0 rfl ?_; clear hO; intro b0 u hO)); simp only [zL, zK] at hO) | ((with_reducible refine zad ?_); refine zbx rfl hO rfl rfl ?_; (first | (refine nm 0 rfl ?_; clear hO; intro b0 u hO)); simp only [zL, zK] at hO) | fail)
      go_ret
      exact ⟨zat HF2.out.symm, hO.below⟩
    | false =>
      have HF2 : Hid (txtC a b = 1) := Lib.hid (by rw [HE.out, if_neg (by rw [hb]; decide), if_pos (by rw [hq]; rfl)])
      clear HE
      go_enter Tryz.func69, Tryz.ntmps69
      have hO := Own.nil w
      go_wp2_with (first | ((with_reducible refine zac ?_); refine zal rfl hO rfl ?_; (first | (refine nm 0 rfl ?_; clear hO; intro b0 u hO)); simp only [zL, zK] at hO) | ((with_reducible refine zad ?_); refine zbx rfl hO rfl rfl ?_; (first | (refine nm 0 rfl ?_; clear hO; intro b0 u hO)); simp only [zL, zK] at hO) | fail)
      go_ret
      exact ⟨zat HF2.out.symm, hO.below⟩

theorem impl_compareItems (kind n1 d1 n2 d2 : Int) (t1 t2 : ByteArray) (w : World) : Calls Tryz.prog 30 #[.int .i64 kind, .agg #[.int .i64 n1, .int .i64 d1, .string t1], .agg #[.int .i64 n2, .int .i64 d2, .string t2]] w fun e w' => e = .returned (.int .i64 (itmC kind ⟨n1, d1, t1⟩ ⟨n2, d2, t2⟩)) ∧ Below w.heap.size w w' := by
  by_cases hk : kind = 3
  · have HE := Lib.hid (show itmC kind ⟨n1, d1, t1⟩ ⟨n2, d2, t2⟩ = txtC t1 t2 from if_pos hk)
    subst hk
    go_enter Tryz.func30, Tryz.ntmps30
    have hO := Own.nil w
    go_wp2_with (first | ((with_reducible refine (impl_compareTexts _ _ _).mono ?_); rintro e u ⟨rfl, hb⟩; (replace hO := hO.step hb; clear hb)) | ((with_reducible refine zad ?_); refine zbx rfl hO rfl rfl ?_; (first | (refine nm 0 rfl ?_; clear hO; intro b0 u hO) | (refine nm 1 rfl ?_; clear hO; intro b1 u hO) | fail); simp only [zL, zK] at hO) | ((with_reducible refine zaa ?_); refine zlf rfl hO rfl _ (by (first | exact at0 | exact at1 | fail)) ?_) | fail)
    go_ret
    exact ⟨zat HE.out.symm, hO.below⟩
  · have HE := Lib.hid (show itmC kind ⟨n1, d1, t1⟩ ⟨n2, d2, t2⟩ = cmpI n1 d1 t1 n2 d2 t2 from if_neg hk)
    have q : (kind == 3) = false := by simp [hk]
    clear hk
    go_enter Tryz.func30, Tryz.ntmps30
    have hO := Own.nil w
    go_wp2_with (first | ((with_reducible refine (impl_cmp _ _ _ _ _ _ _).mono ?_); rintro e u ⟨rfl, hb⟩; (replace hO := hO.step hb; clear hb)) | ((with_reducible refine zad ?_); refine zbx rfl hO rfl rfl ?_; (first | (refine nm 0 rfl ?_; clear hO; intro b0 u hO) | (refine nm 1 rfl ?_; clear hO; intro b1 u hO) | fail); simp only [zL, zK] at hO) | ((with_reducible refine zaa ?_); refine zlb rfl hO rfl _ (by (first | exact at0 | exact at1 | fail)) ?_) | fail)
    go_ret
    exact ⟨zat HE.out.symm, hO.below⟩

/-- the reference's order of two items: 2 if one is missing -/
def ordI (kind : Int) (x y : It) : Int := if x.den = 0 ∨ y.den = 0 then 2 else itmC kind x y

def hldI (op : ByteArray) (c : Int) : Int := if c = 2 then 2 else b2i (cmpV (cK op) c)

theorem spec_order (kind n1 d1 n2 d2 : Int) (t1 t2 : ByteArray) (w : World) : Calls Tryz.prog 41 #[.int .i64 kind, .agg #[.int .i64 n1, .int .i64 d1, .string t1], .agg #[.int .i64 n2, .int .i64 d2, .string t2]] w fun e w' => e = .returned (.int .i64 (ordI kind ⟨n1, d1, t1⟩ ⟨n2, d2, t2⟩)) ∧ Below w.heap.size w w' := by
  have HE := Lib.hid (show ordI kind ⟨n1, d1, t1⟩ ⟨n2, d2, t2⟩ = if d1 = 0 ∨ d2 = 0 then 2 else if kind = 3 then txtC t1 t2 else cmpI n1 d1 t1 n2 d2 t2 from rfl)
  obtain ⟨X, hX⟩ : ∃ X, ordI kind ⟨n1, d1, t1⟩ ⟨n2, d2, t2⟩ = X := ⟨_, rfl⟩
  rw [hX] at HE ⊢
  clear hX
  by_cases h1 : d1 = 0
  · have HF : Hid (X = 2) := Lib.hid (by rw [HE.out, if_pos (.inl h1)])
    subst h1
    clear HE
    go_enter Tryz.func41, Tryz.ntmps41
    have hO := Own.nil w
    go_wp2_with (first | ((with_reducible refine zad ?_); refine zbx rfl hO rfl rfl ?_; (first | (refine nm 0 rfl ?_; clear hO; intro b0 u hO) | (refine nm 1 rfl ?_; clear hO; intro b1 u hO) | fail); simp only [zL, zK] at hO) | ((with_reducible refine zaa ?_); refine zlf rfl hO rfl _ (by exact at0) ?_) | fail)
    go_ret
    exact ⟨zat HF.out.symm, hO.below⟩
  have q1 : (d1 == 0) = false := by simp [h1]
  by_cases h2 : d2 = 0
  · have HF : Hid (X = 2) := Lib.hid (by rw [HE.out, if_pos (.inr h2)])
    subst h2
    clear HE h1
    go_enter Tryz.func41, Tryz.ntmps41
    have hO := Own.nil w
    go_wp2_with (first | ((with_reducible refine zad ?_); refine zbx rfl hO rfl rfl ?_; (first | (refine nm 0 rfl ?_; clear hO; intro b0 u hO) | (refine nm 1 rfl ?_; clear hO; intro b1 u hO) | fail); simp only [zL, zK] at hO) | ((with_reducible refine zaa ?_); refine zlf rfl hO rfl _ (by (first | exact at0 | exact at1 | fail)) ?_) | fail)
    go_ret
    exact ⟨zat HF.out.symm, hO.below⟩
  have q2 : (d2 == 0) = false := by simp [h2]
  have hn : ¬ (d1 = 0 ∨ d2 = 0) := fun h => h.elim h1 h2
  by_cases hk : kind = 3
  · have HF : Hid (X = if Op.bytesLess t1.toList t2.toList then -1 else if !(t1.toList == t2.toList) then 1 else 0) := Lib.hid (by rw [HE.out, if_neg hn, if_pos hk]; rfl)
    subst hk
    clear HE h1 h2 hn
    cases hb : Op.bytesLess t1.toList t2.toList with
    | true =>
      have HF2 : Hid (X = -1) := Lib.hid (by rw [HF.out, if_pos hb])
      clear HF
      go_enter Tryz.func41, Tryz.ntmps41
      have hO := Own.nil w
      go_wp2_with (first | ((with_reducible refine zad ?_); refine zbx rfl hO rfl rfl ?_; (first | (refine nm 0 rfl ?_; clear hO; intro b0 u hO) | (refine nm 1 rfl ?_; clear hO; intro b1 u hO) | fail); simp only [zL, zK] at hO) | ((with_reducible refine zaa ?_); refine zlf rfl hO rfl _ (by (first | exact at0 | exact at1 | fail)) ?_) | fail)
      go_ret
      exact ⟨zat HF2.out.symm, hO.below⟩
    | false =>
      cases hq : (t1.toList == t2.toList) with
      | true =>
        have HF2 : Hid (X = 0) := Lib.hid (by rw [HF.out, if_neg (by rw [hb]; decide), if_neg (by rw [hq]; decide)])
        clear HF
        go_enter Tryz.func41, Tryz.ntmps41
        have hO := Own.nil w
        go_wp2_with (first | ((with_reducible refine zad ?_); refine zbx rfl hO rfl rfl ?_; (first | (refine nm 0 rfl ?_; clear hO; intro b0 u hO) | (refine nm 1 rfl ?_; clear hO; intro b1 u hO) | fail); simp only [zL, zK] at hO) | ((with_reducible refine zaa ?_); refine zlf rfl hO rfl _ (by (first | exact at0 | exact at1 | fail)) ?_) | fail)
        go_ret
        exact ⟨zat HF2.out.symm, hO.below⟩
      | false =>
        have HF2 : Hid (X = 1) := Lib.hid (by rw [HF.out, if_neg (by rw [hb]; decide), if_pos (by rw [hq]; rfl)])
        clear HF
        go_enter Tryz.func41, Tryz.ntmps41
        have hO := Own.nil w
        go_wp2_with (first | ((with_reducible refine zad ?_); refine zbx rfl hO rfl rfl ?_; (first | (refine nm 0 rfl ?_; clear hO; intro b0 u hO) | (refine nm 1 rfl ?_; clear hO; intro b1 u hO) | fail); simp only [zL, zK] at hO) | ((with_reducible refine zaa ?_); refine zlf rfl hO rfl _ (by (first | exact at0 | exact at1 | fail)) ?_) | fail)
        go_ret
        exact ⟨zat HF2.out.symm, hO.below⟩
  · have HF : Hid (X = cmpI n1 d1 t1 n2 d2 t2) := Lib.hid (by rw [HE.out, if_neg hn, if_neg hk])
    have q : (kind != 3) = true := by simp [hk]
    clear hk HE h1 h2 hn
    go_enter Tryz.func41, Tryz.ntmps41
    have hO := Own.nil w
    go_wp2_with (first | ((with_reducible refine (spec_cmp _ _ _ _ _ _ _).mono ?_); rintro e u ⟨rfl, hb⟩; (replace hO := hO.step hb; clear hb)) | ((with_reducible refine zad ?_); refine zbx rfl hO rfl rfl ?_; (first | (refine nm 0 rfl ?_; clear hO; intro b0 u hO) | (refine nm 1 rfl ?_; clear hO; intro b1 u hO) | fail); simp only [zL, zK] at hO) | ((with_reducible refine zaa ?_); refine zlb rfl hO rfl _ (by (first | exact at0 | exact at1 | fail)) ?_) | ((with_reducible refine zaa ?_); refine zlf rfl hO rfl _ (by (first | exact at0 | exact at1 | fail)) ?_) | fail)
    go_ret
    exact ⟨zat HF.out.symm, hO.below⟩

set_option maxHeartbeats 2000000 in
theorem spec_holds (op : ByteArray) (c : Int) (w : World) (ho : cK op < 6) : Calls Tryz.prog 40 #[.string op, .int .i64 c] w fun e w' => e = .returned (.int .i64 (hldI op c)) ∧ Below w.heap.size w w' := by
  have HE := Lib.hid (show hldI op c = if c = 2 then 2 else b2i (cmpV (cK op) c) from rfl)
  obtain ⟨X, hX⟩ : ∃ X, hldI op c = X := ⟨_, rfl⟩
  rw [hX] at HE ⊢
  clear hX
  by_cases h2 : c = 2
  · have HF : Hid (X = 2) := Lib.hid (by rw [HE.out, if_pos h2])
    subst h2
    clear HE
    go_enter Tryz.func40, Tryz.ntmps40
    have hO := Own.nil w
    go_wp2_with (first | ((with_reducible refine zac ?_); refine zal rfl hO rfl ?_; (first | (refine nm 0 rfl ?_; clear hO; intro b0 u hO)); simp only [zL, zK] at hO) | ((with_reducible refine zad ?_); refine zbx rfl hO rfl rfl ?_; (first | (refine nm 0 rfl ?_; clear hO; intro b0 u hO)); simp only [zL, zK] at hO) | fail)
    go_ret
    exact ⟨zat HF.out.symm, hO.below⟩
  have q2 : (c == 2) = false := by simp [h2]

  rcases cK_cases op with ⟨o0, hk⟩ | ⟨o0, o1, hk⟩ | ⟨o0, o1, o2, hk⟩ | ⟨o0, o1, o2, o3, hk⟩ | ⟨o0, o1, o2, o3, o4, hk⟩ | ⟨o0, o1, o2, o3, o4, o5, hk⟩ | ⟨o0, o1, o2, o3, o4, o5, hk⟩
  · rw [hk] at HE
    clear hk ho
    have o1 : (op.toList == [33, 61]) = false := by rw [eq_of_beq o0]; rfl
    have o2 : (op.toList == [60]) = false := by rw [eq_of_beq o0]; rfl
    have o3 : (op.toList == [60, 61]) = false := by rw [eq_of_beq o0]; rfl
    have o4 : (op.toList == [62]) = false := by rw [eq_of_beq o0]; rfl
    have o5 : (op.toList == [62, 61]) = false := by rw [eq_of_beq o0]; rfl
    by_cases hc : c = 0
    · have HF : Hid (X = 1) := Lib.hid (by rw [HE.out, if_neg h2, show cmpV 0 c = true by simp [cmpV, hc]]; rfl)
      have e1 : (c == 0) = true := by simp [hc]
      clear HE h2
      go_enter Tryz.func40, Tryz.ntmps40
      have hO := Own.nil w
      go_wp2_with (first | ((with_reducible refine zac ?_); refine zal rfl hO rfl ?_; (first | (refine nm 0 rfl ?_; clear hO; intro b0 u hO)); simp only [zL, zK] at hO) | ((with_reducible refine zad ?_); refine zbx rfl hO rfl rfl ?_; (first | (refine nm 0 rfl ?_; clear hO; intro b0 u hO)); simp only [zL, zK] at hO) | fail)
      go_ret
      exact ⟨zat HF.out.symm, hO.below⟩
    · have HF : Hid (X = 0) := Lib.hid (by rw [HE.out, if_neg h2, show cmpV 0 c = false by simpa [cmpV] using hc]; rfl)
      have e1 : (c == 0) = false := by simp [hc]
      clear HE h2
      go_enter Tryz.func40, Tryz.ntmps40
      have hO := Own.nil w
      go_wp2_with (first | ((with_reducible refine zac ?_); refine zal rfl hO rfl ?_; (first | (refine nm 0 rfl ?_; clear hO; intro b0 u hO)); simp only [zL, zK] at hO) | ((with_reducible refine zad ?_); refine zbx rfl hO rfl rfl ?_; (first | (refine nm 0 rfl ?_; clear hO; intro b0 u hO)); simp only [zL, zK] at hO) | fail)
      go_ret
      exact ⟨zat HF.out.symm, hO.below⟩
  · rw [hk] at HE
    clear hk ho
    have o2 : (op.toList == [60]) = false := by rw [eq_of_beq o1]; rfl
    have o3 : (op.toList == [60, 61]) = false := by rw [eq_of_beq o1]; rfl
    have o4 : (op.toList == [62]) = false := by rw [eq_of_beq o1]; rfl
    have o5 : (op.toList == [62, 61]) = false := by rw [eq_of_beq o1]; rfl
    by_cases hc : ¬ c = 0
    · have HF : Hid (X = 1) := Lib.hid (by rw [HE.out, if_neg h2, show cmpV 1 c = true by simp [cmpV, hc]]; rfl)
      have e1 : (c != 0) = true := by simp [hc]
      clear HE h2
      go_enter Tryz.func40, Tryz.ntmps40
      have hO := Own.nil w
      go_wp2_with (first | ((with_reducible refine zac ?_); refine zal rfl hO rfl ?_; (first | (refine nm 0 rfl ?_; clear hO; intro b0 u hO)); simp only [zL, zK] at hO) | ((with_reducible refine zad ?_); refine zbx rfl hO rfl rfl ?_; (first | (refine nm 0 rfl ?_; clear hO; intro b0 u hO)); simp only [zL, zK] at hO) | fail)
      go_ret
      exact ⟨zat HF.out.symm, hO.below⟩
    · have HF : Hid (X = 0) := Lib.hid (by rw [HE.out, if_neg h2, show cmpV 1 c = false by simpa [cmpV] using hc]; rfl)
      have e1 : (c != 0) = false := by simp at hc; simp [hc]
      clear HE h2
      go_enter Tryz.func40, Tryz.ntmps40
      have hO := Own.nil w
      go_wp2_with (first | ((with_reducible refine zac ?_); refine zal rfl hO rfl ?_; (first | (refine nm 0 rfl ?_; clear hO; intro b0 u hO)); simp only [zL, zK] at hO) | ((with_reducible refine zad ?_); refine zbx rfl hO rfl rfl ?_; (first | (refine nm 0 rfl ?_; clear hO; intro b0 u hO)); simp only [zL, zK] at hO) | fail)
      go_ret
      exact ⟨zat HF.out.symm, hO.below⟩
  · rw [hk] at HE
    clear hk ho
    have o3 : (op.toList == [60, 61]) = false := by rw [eq_of_beq o2]; rfl
    have o4 : (op.toList == [62]) = false := by rw [eq_of_beq o2]; rfl
    have o5 : (op.toList == [62, 61]) = false := by rw [eq_of_beq o2]; rfl
    by_cases hc : c < 0
    · have HF : Hid (X = 1) := Lib.hid (by rw [HE.out, if_neg h2, show cmpV 2 c = true by simp [cmpV, hc]]; rfl)
      skip
      clear HE h2
      go_enter Tryz.func40, Tryz.ntmps40
      have hO := Own.nil w
      go_wp2_with (first | ((with_reducible refine zac ?_); refine zal rfl hO rfl ?_; (first | (refine nm 0 rfl ?_; clear hO; intro b0 u hO)); simp only [zL, zK] at hO) | ((with_reducible refine zad ?_); refine zbx rfl hO rfl rfl ?_; (first | (refine nm 0 rfl ?_; clear hO; intro b0 u hO)); simp only [zL, zK] at hO) | fail)
      go_ret
      exact ⟨zat HF.out.symm, hO.below⟩
    · have HF : Hid (X = 0) := Lib.hid (by rw [HE.out, if_neg h2, show cmpV 2 c = false by simpa [cmpV] using hc]; rfl)
      skip
      clear HE h2
      go_enter Tryz.func40, Tryz.ntmps40
      have hO := Own.nil w
      go_wp2_with (first | ((with_reducible refine zac ?_); refine zal rfl hO rfl ?_; (first | (refine nm 0 rfl ?_; clear hO; intro b0 u hO)); simp only [zL, zK] at hO) | ((with_reducible refine zad ?_); refine zbx rfl hO rfl rfl ?_; (first | (refine nm 0 rfl ?_; clear hO; intro b0 u hO)); simp only [zL, zK] at hO) | fail)
      go_ret
      exact ⟨zat HF.out.symm, hO.below⟩
  · rw [hk] at HE
    clear hk ho
    have o4 : (op.toList == [62]) = false := by rw [eq_of_beq o3]; rfl
    have o5 : (op.toList == [62, 61]) = false := by rw [eq_of_beq o3]; rfl
    by_cases hc : c ≤ 0
    · have HF : Hid (X = 1) := Lib.hid (by rw [HE.out, if_neg h2, show cmpV 3 c = true by simp [cmpV, hc]]; rfl)
      skip
      clear HE h2
      go_enter Tryz.func40, Tryz.ntmps40
      have hO := Own.nil w
      go_wp2_with (first | ((with_reducible refine zac ?_); refine zal rfl hO rfl ?_; (first | (refine nm 0 rfl ?_; clear hO; intro b0 u hO)); simp only [zL, zK] at hO) | ((with_reducible refine zad ?_); refine zbx rfl hO rfl rfl ?_; (first | (refine nm 0 rfl ?_; clear hO; intro b0 u hO)); simp only [zL, zK] at hO) | fail)
      go_ret
      exact ⟨zat HF.out.symm, hO.below⟩
    · have HF : Hid (X = 0) := Lib.hid (by rw [HE.out, if_neg h2, show cmpV 3 c = false by simpa [cmpV] using hc]; rfl)
      skip
      clear HE h2
      go_enter Tryz.func40, Tryz.ntmps40
      have hO := Own.nil w
      go_wp2_with (first | ((with_reducible refine zac ?_); refine zal rfl hO rfl ?_; (first | (refine nm 0 rfl ?_; clear hO; intro b0 u hO)); simp only [zL, zK] at hO) | ((with_reducible refine zad ?_); refine zbx rfl hO rfl rfl ?_; (first | (refine nm 0 rfl ?_; clear hO; intro b0 u hO)); simp only [zL, zK] at hO) | fail)
      go_ret
      exact ⟨zat HF.out.symm, hO.below⟩
  · rw [hk] at HE
    clear hk ho
    have o5 : (op.toList == [62, 61]) = false := by rw [eq_of_beq o4]; rfl
    by_cases hc : 0 < c
    · have HF : Hid (X = 1) := Lib.hid (by rw [HE.out, if_neg h2, show cmpV 4 c = true by simp [cmpV, hc]]; rfl)
      skip
      clear HE h2
      go_enter Tryz.func40, Tryz.ntmps40
      have hO := Own.nil w
      go_wp2_with (first | ((with_reducible refine zac ?_); refine zal rfl hO rfl ?_; (first | (refine nm 0 rfl ?_; clear hO; intro b0 u hO)); simp only [zL, zK] at hO) | ((with_reducible refine zad ?_); refine zbx rfl hO rfl rfl ?_; (first | (refine nm 0 rfl ?_; clear hO; intro b0 u hO)); simp only [zL, zK] at hO) | fail)
      go_ret
      exact ⟨zat HF.out.symm, hO.below⟩
    · have HF : Hid (X = 0) := Lib.hid (by rw [HE.out, if_neg h2, show cmpV 4 c = false by simpa [cmpV] using hc]; rfl)
      skip
      clear HE h2
      go_enter Tryz.func40, Tryz.ntmps40
      have hO := Own.nil w
      go_wp2_with (first | ((with_reducible refine zac ?_); refine zal rfl hO rfl ?_; (first | (refine nm 0 rfl ?_; clear hO; intro b0 u hO)); simp only [zL, zK] at hO) | ((with_reducible refine zad ?_); refine zbx rfl hO rfl rfl ?_; (first | (refine nm 0 rfl ?_; clear hO; intro b0 u hO)); simp only [zL, zK] at hO) | fail)
      go_ret
      exact ⟨zat HF.out.symm, hO.below⟩
  · rw [hk] at HE
    clear hk ho
    by_cases hc : 0 ≤ c
    · have HF : Hid (X = 1) := Lib.hid (by rw [HE.out, if_neg h2, show cmpV 5 c = true by simp [cmpV, hc]]; rfl)
      skip
      clear HE h2
      go_enter Tryz.func40, Tryz.ntmps40
      have hO := Own.nil w
      go_wp2_with (first | ((with_reducible refine zac ?_); refine zal rfl hO rfl ?_; (first | (refine nm 0 rfl ?_; clear hO; intro b0 u hO)); simp only [zL, zK] at hO) | ((with_reducible refine zad ?_); refine zbx rfl hO rfl rfl ?_; (first | (refine nm 0 rfl ?_; clear hO; intro b0 u hO)); simp only [zL, zK] at hO) | fail)
      go_ret
      exact ⟨zat HF.out.symm, hO.below⟩
    · have HF : Hid (X = 0) := Lib.hid (by rw [HE.out, if_neg h2, show cmpV 5 c = false by simpa [cmpV] using hc]; rfl)
      skip
      clear HE h2
      go_enter Tryz.func40, Tryz.ntmps40
      have hO := Own.nil w
      go_wp2_with (first | ((with_reducible refine zac ?_); refine zal rfl hO rfl ?_; (first | (refine nm 0 rfl ?_; clear hO; intro b0 u hO)); simp only [zL, zK] at hO) | ((with_reducible refine zad ?_); refine zbx rfl hO rfl rfl ?_; (first | (refine nm 0 rfl ?_; clear hO; intro b0 u hO)); simp only [zL, zK] at hO) | fail)
      go_ret
      exact ⟨zat HF.out.symm, hO.below⟩
  · omega

/-- a converted item is valid for its new kind -/
theorem cvI_item {fk tk : Int} {x : It} (h : itemB fk x = true) (hk : fk ≤ tk) (hk3 : tk ≤ 3) : itemB tk (cvI fk tk x) = true := by
  cases hm : misB x with
  | true =>
    have e : cvI fk tk x = x := by unfold cvI; rw [hm]; rfl
    rw [e]
    unfold itemB
    rw [hm]
    rfl
  | false =>
    have h13 : 1 ≤ fk ∧ fk ≤ 3 := by
      by_cases h1 : 1 ≤ fk ∧ fk ≤ 3
      · exact h1
      · unfold itemB at h
        rw [if_neg (by omega), if_neg (by omega), if_neg (by omega), Bool.or_false] at h
        rw [hm] at h
        cases h
    by_cases e1 : fk = tk
    · have e : cvI fk tk x = x := by unfold cvI; simp [e1]
      rw [e, ← e1]
      exact h
    · by_cases e2 : tk = 2
      · have e : cvI fk tk x = x := by unfold cvI; simp [e2]
        have e3 : fk = 1 := by omega
        subst e2 e3
        rw [e]
        unfold itemB at h ⊢
        rw [hm, Bool.false_or, if_pos rfl] at h
        rw [hm, Bool.false_or, if_neg (by decide), if_pos rfl]
        simp only [Bool.and_eq_true, Bool.or_eq_true, decide_eq_true_eq] at h
        unfold isNumI
        rw [h.1.1, h.1.2]
        rcases h.2 with h0 | h0 <;> rw [h0] <;> decide
      · have e3 : tk = 3 := by omega
        subst e3
        have e : cvI fk 3 x = if fk = 2 then txI (fmtN x.num x.den x.text) else if x.num = 1 then txI trueS else txI falseS := by
          unfold cvI
          rw [hm, if_neg (by simp [e1])]
        have key : ∀ s : ByteArray, s.size ≤ 60 → itemB 3 (txI s) = true := by
          intro s hs
          unfold itemB
          rw [if_neg (by decide), if_neg (by decide), if_pos rfl]
          simp only [Bool.or_eq_true, Bool.and_eq_true, decide_eq_true_eq]
          exact .inr ⟨⟨rfl, rfl⟩, hs⟩
        rw [e]
        split
        · rename_i h2
          subst h2
          have b := num_bd h hm
          refine key _ ?_
          unfold fmtN
          have f1 := fmtI_le x.num (by omega) (by omega)
          have f2 := fmtI_le x.den (by omega) (by omega)
          split
          · exact Nat.le_of_ble_eq_true rfl
          · split
            · exact Nat.le_of_ble_eq_true rfl
            · split
              · omega
              · simp only [ByteArray.size_append]
                have : (⟨#[47]⟩ : ByteArray).size = 1 := rfl
                omega
        · split
          · exact key _ (Nat.le_of_ble_eq_true rfl)
          · exact key _ (Nat.le_of_ble_eq_true rfl)

theorem cvI_low {fk tk : Int} {x : It} (h : itemB fk x = true) (hk : fk ≤ tk) (hk3 : tk ≤ 2) : cvI fk tk x = x := by
  unfold cvI
  cases hm : misB x with
  | true => rfl
  | false =>
    have h13 : 1 ≤ fk := by
      by_cases h1 : 1 ≤ fk
      · exact h1
      · unfold itemB at h
        rw [if_neg (by omega), if_neg (by omega), if_neg (by omega), Bool.or_false] at h
        rw [hm] at h
        cases h
    by_cases e2 : tk = 2
    · simp [e2]
    · have e3 : fk = tk := by omega
      simp [e3]

theorem item_num {k : Int} {x : It} (h : itemB k x = true) (hk : k ≤ 2) (hm : misB x = false) : zas x.num x.den x.text = true := by
  by_cases h2 : k = 2
  · subst h2
    unfold itemB at h
    rw [hm, Bool.false_or, if_neg (by decide), if_pos rfl] at h
    exact h
  · by_cases h1 : k = 1
    · subst h1
      have := cvI_item (tk := 2) h (by decide) (by decide)
      rw [cvI_low h (by decide) (by decide)] at this
      unfold itemB at this
      rw [hm, Bool.false_or, if_neg (by decide), if_pos rfl] at this
      exact this
    · unfold itemB at h
      rw [if_neg h1, if_neg h2, if_neg (by omega), Bool.or_false] at h
      rw [hm] at h
      cases h

theorem txtC_ne (a b : ByteArray) : txtC a b ≠ 2 := by
  unfold txtC
  split
  · decide
  · split <;> decide

/-- the reference's element is the program's -/
theorem cmp_item {op : ByteArray} {fa fb ka kb : Int} {x y : It} (hx : itemB fa x = true) (hy : itemB fb y = true) (hka : ka = max fa fb) (hkb : kb = if fa = 3 ∨ fb = 3 then 3 else 2) (ha : fa ≤ 3) (hb : fb ≤ 3) (h0 : 0 ≤ fa) (h0' : 0 ≤ fb) :
    lgI (hldI op (ordI ka (cvI fa ka x) (cvI fb ka y))) = cpF op kb (cvI fa kb x) (cvI fb kb y) := by
  have e : cvI fa ka x = cvI fa kb x ∧ cvI fb ka y = cvI fb kb y ∧ (ka = 3 ↔ kb = 3) := by
    by_cases h3 : fa = 3 ∨ fb = 3
    · rw [if_pos h3] at hkb
      have : ka = 3 := by omega
      rw [this, hkb]
      exact ⟨rfl, rfl, Iff.rfl⟩
    · rw [if_neg h3] at hkb
      rw [cvI_low hx (by omega) (by omega), cvI_low hy (by omega) (by omega), hkb, cvI_low hx (by omega) (by omega), cvI_low hy (by omega) (by omega)]
      exact ⟨rfl, rfl, by omega⟩
  have hka3 : ka ≤ 3 := by omega
  have ix := cvI_item (tk := ka) hx (by omega) hka3
  have iy := cvI_item (tk := ka) hy (by omega) hka3
  rw [← e.1, ← e.2.1]
  generalize cvI fa ka x = X at ix
  generalize cvI fb ka y = Y at iy
  have dx := item_den ix
  have dy := item_den iy
  unfold cpF ordI
  have ec : itmC ka X Y = itmC kb X Y := by
    unfold itmC
    by_cases h3 : ka = 3
    · rw [if_pos h3, if_pos (e.2.2.1 h3)]
    · rw [if_neg h3, if_neg (fun h => h3 (e.2.2.2 h))]
  rw [dx, dy, ec]
  by_cases hd : X.den = 0 ∨ Y.den = 0
  · rw [if_pos hd]
    have : (decide (X.den = 0) || decide (Y.den = 0)) = true := by simpa using hd
    rw [this]
    rfl
  · rw [if_neg hd]
    have : (decide (X.den = 0) || decide (Y.den = 0)) = false := by simpa using hd
    rw [this]
    have hne : itmC kb X Y ≠ 2 := by
      unfold itmC
      split
      · exact txtC_ne _ _
      · rename_i hk3
        have k2 : ka ≤ 2 := by
          have := e.2.2
          omega
        have mx : misB X = false := by rw [dx]; simp; exact fun h => hd (.inl h)
        have my : misB Y = false := by rw [dy]; simp; exact fun h => hd (.inr h)
        exact cmpT_ne (item_num ix k2 mx) (item_num iy k2 my)
    rw [show hldI op (itmC kb X Y) = b2i (cmpV (cK op) (itmC kb X Y)) from if_neg hne]
    exact lgI_b2i _

end Go.Proofs.YtmofcbpabdbjlaaGreat
