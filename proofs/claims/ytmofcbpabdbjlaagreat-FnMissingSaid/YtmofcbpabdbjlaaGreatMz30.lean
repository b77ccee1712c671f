/-
  What is proved: what a converted item is (convertItem of the program, l4As of the reference), vectors of items as a call's own.
  Condition: items that are valid for their kind.
-/
import Derived.Test.YtmofcbpabdbjlaaGreatMz4
import Derived.Test.YtmofcbpabdbjlaaGreatMz15
import Derived.Test.YtmofcbpabdbjlaaGreatMz16
import Derived.Test.YtmofcbpabdbjlaaGreatMz29
namespace Go.Proofs.YtmofcbpabdbjlaaGreat

set_option maxRecDepth 8000

open Go.RowKit Go.ChangeShapes Go.WideShapes Go.Deep

set_option linter.unusedVariables false

set_option linter.unusedSimpArgs false

def trueS : ByteArray := ⟨#[84, 82, 85, 69]⟩

def falseS : ByteArray := ⟨#[70, 65, 76, 83, 69]⟩

/-- an item converted from one kind to a later one -/
def cvI (fk tk : Int) (x : It) : It := if misB x || decide (fk = tk) || decide (tk = 2) then x else if fk = 2 then txI (fmtN x.num x.den x.text) else if x.num = 1 then txI trueS else txI falseS

theorem num_bd {x : It} (h : itemB 2 x = true) (hm : misB x = false) : 1 ≤ x.den ∧ x.den ≤ 999999999 ∧ -999999999 ≤ x.num ∧ x.num ≤ 999999999 := by
  unfold itemB at h
  rw [hm, Bool.false_or, if_neg (by decide), if_pos rfl] at h
  unfold isNumI at h
  simp only [Bool.and_eq_true] at h
  have h2 := h.2
  unfold Nm.isNum at h2
  have := of_decide_eq_true h2
  omega

theorem log_bd {x : It} (h : itemB 1 x = true) (hm : misB x = false) : x.num = 0 ∨ x.num = 1 := by
  unfold itemB at h
  rw [hm, Bool.false_or, if_pos rfl] at h
  simp only [Bool.and_eq_true, Bool.or_eq_true, decide_eq_true_eq] at h
  exact h.2

theorem impl_textItem (s : ByteArray) (w : World) : Calls Tryz.prog 67 #[.string s] w fun e w' => e = .returned (.agg #[.int .i64 0, .int .i64 1, .string s]) ∧ Below w.heap.size w w' := by
  go_enter Tryz.func67, Tryz.ntmps67
  have hO := Own.nil w
  go_wp2_with (first | ((with_reducible refine zac ?_); refine zal rfl hO rfl ?_; (refine nm 0 rfl ?_; clear hO; intro b0 u hO); simp only [zL, zK] at hO) | ((with_reducible refine zab ?_); refine zsb rfl hO rfl _ (by exact at0) rfl ?_; clear hO; intro u hO; simp only [zC, zB] at hO) | fail)
  exact zan rfl hO rfl 0 rfl rfl rfl ⟨rfl, hO.below⟩

theorem zbh (s : ByteArray) (w : World) : Calls Tryz.prog 52 #[.string s] w fun e w' => e = .returned (.agg #[.int .i64 0, .int .i64 1, .string s]) ∧ Below w.heap.size w w' := by
  go_enter Tryz.func52, Tryz.ntmps52
  have hO := Own.nil w
  go_wp2_with (first | ((with_reducible refine zac ?_); refine zal rfl hO rfl ?_; (refine nm 0 rfl ?_; clear hO; intro b0 u hO); simp only [zL, zK] at hO) | ((with_reducible refine zab ?_); refine zsb rfl hO rfl _ (by exact at0) rfl ?_; clear hO; intro u hO; simp only [zC, zB] at hO) | fail)
  exact zan rfl hO rfl 0 rfl rfl rfl ⟨rfl, hO.below⟩

theorem impl_convertItem (fk tk n d : Int) (t : ByteArray) (w : World) (hv : itemB fk ⟨n, d, t⟩ = true) :
    Calls Tryz.prog 68 #[.agg #[.int .i64 n, .int .i64 d, .string t], .int .i64 fk, .int .i64 tk] w fun e w' => e = .returned (.agg #[.int .i64 (cvI fk tk ⟨n, d, t⟩).num, .int .i64 (cvI fk tk ⟨n, d, t⟩).den, .string (cvI fk tk ⟨n, d, t⟩).text]) ∧ Below w.heap.size w w' := by
  have CM := fun u => zba n d t u
  have HB : Hid (fk = 2 → misB ⟨n, d, t⟩ = false → -9223372036854775808 ≤ n ∧ n ≤ 9223372036854775807 ∧ -9223372036854775808 ≤ d ∧ d ≤ 9223372036854775807) := Lib.hid (fun h1 h2 => by
    subst h1
    have := num_bd hv h2
    simp only at this
    omega)
  have HE : Hid (cvI fk tk ⟨n, d, t⟩ = if misB ⟨n, d, t⟩ || decide (fk = tk) || decide (tk = 2) then ⟨n, d, t⟩ else if fk = 2 then txI (fmtN n d t) else if n = 1 then txI trueS else txI falseS) := Lib.hid rfl
  obtain ⟨X, hX⟩ : ∃ X, cvI fk tk ⟨n, d, t⟩ = X := ⟨_, rfl⟩
  rw [hX] at HE ⊢
  clear hX hv
  cases hm : misB ⟨n, d, t⟩ with
  | true =>
    rw [hm] at CM HE
    have HF : Hid (X = ⟨n, d, t⟩) := Lib.hid (by rw [HE.out]; rfl)
    clear hm HE HB
    go_enter Tryz.func68, Tryz.ntmps68
    have hO := Own.nil w
    go_wp2_with (first | ((with_reducible refine (CM _).mono ?_); rintro e u ⟨rfl, hb⟩; (replace hO := hO.step hb; clear hb)) | ((with_reducible refine zac ?_); refine zal rfl hO rfl ?_; (refine nm 1 rfl ?_; clear hO; intro b1 u hO); simp only [zL, zK] at hO) | ((with_reducible refine zad ?_); refine zbx rfl hO rfl rfl ?_; (refine nm 0 rfl ?_; clear hO; intro b0 u hO); simp only [zL, zK] at hO) | ((with_reducible refine zaa ?_); refine zlb rfl hO rfl _ (by exact at0) ?_) | ((with_reducible refine zab ?_); refine zsb rfl hO rfl _ (by exact at1) rfl ?_; clear hO; intro u hO; simp only [zC, zB] at hO) | fail)
    exact zan rfl hO rfl 1 at1 rfl rfl ⟨by rw [HF.out], hO.below⟩
  | false =>
    rw [hm] at CM HE HB
    by_cases h1 : fk = tk
    · have HF : Hid (X = ⟨n, d, t⟩) := Lib.hid (by rw [HE.out]; simp [h1])
      subst h1
      clear hm HE HB
      go_enter Tryz.func68, Tryz.ntmps68
      have hO := Own.nil w
      go_wp2_with (first | ((with_reducible refine (CM _).mono ?_); rintro e u ⟨rfl, hb⟩; (replace hO := hO.step hb; clear hb)) | ((with_reducible refine zac ?_); refine zal rfl hO rfl ?_; (refine nm 1 rfl ?_; clear hO; intro b1 u hO); simp only [zL, zK] at hO) | ((with_reducible refine zad ?_); refine zbx rfl hO rfl rfl ?_; (refine nm 0 rfl ?_; clear hO; intro b0 u hO); simp only [zL, zK] at hO) | ((with_reducible refine zaa ?_); refine zlb rfl hO rfl _ (by exact at0) ?_) | ((with_reducible refine zab ?_); refine zsb rfl hO rfl _ (by exact at1) rfl ?_; clear hO; intro u hO; simp only [zC, zB] at hO) | fail)
      exact zan rfl hO rfl 1 at1 rfl rfl ⟨by rw [HF.out], hO.below⟩
    · have q1 : (fk == tk) = false := by simp [h1]
      by_cases h2 : tk = 2
      · have HF : Hid (X = ⟨n, d, t⟩) := Lib.hid (by rw [HE.out]; simp [h2])
        subst h2
        clear hm HE HB
        go_enter Tryz.func68, Tryz.ntmps68
        have hO := Own.nil w
        go_wp2_with (first | ((with_reducible refine (CM _).mono ?_); rintro e u ⟨rfl, hb⟩; (replace hO := hO.step hb; clear hb)) | ((with_reducible refine zac ?_); refine zal rfl hO rfl ?_; (refine nm 1 rfl ?_; clear hO; intro b1 u hO); simp only [zL, zK] at hO) | ((with_reducible refine zad ?_); refine zbx rfl hO rfl rfl ?_; (refine nm 0 rfl ?_; clear hO; intro b0 u hO); simp only [zL, zK] at hO) | ((with_reducible refine zaa ?_); refine zlb rfl hO rfl _ (by exact at0) ?_) | ((with_reducible refine zab ?_); refine zsb rfl hO rfl _ (by exact at1) rfl ?_; clear hO; intro u hO; simp only [zC, zB] at hO) | fail)
        exact zan rfl hO rfl 1 at1 rfl rfl ⟨by rw [HF.out], hO.below⟩
      · have q2 : (tk == 2) = false := by simp [h2]
        by_cases h3 : fk = 2
        · have HF : Hid (X = txI (fmtN n d t)) := Lib.hid (by rw [HE.out, if_neg (by simp [h1, h2]), if_pos h3])
          obtain ⟨b1, b2, b3, b4⟩ := HB.out h3 rfl
          have CF := fun u => impl_fmtN n d t u b1 b2 b3 b4
          subst h3
          clear hm HE HB h1 h2 b1 b2 b3 b4
          go_enter Tryz.func68, Tryz.ntmps68
          have hO := Own.nil w
          go_wp2_with (first | ((with_reducible refine (CM _).mono ?_); rintro e u ⟨rfl, hb⟩; (replace hO := hO.step hb; clear hb)) | ((with_reducible refine (CF _).mono ?_); rintro e u ⟨rfl, hb⟩; (replace hO := hO.step hb; clear hb)) | ((with_reducible refine (impl_textItem _ _).mono ?_); rintro e u ⟨rfl, hb⟩; (replace hO := hO.step hb; clear hb)) | ((with_reducible refine zac ?_); refine zal rfl hO rfl ?_; (refine nm 1 rfl ?_; clear hO; intro b1 u hO); simp only [zL, zK] at hO) | ((with_reducible refine zad ?_); refine zbx rfl hO rfl rfl ?_; (refine nm 0 rfl ?_; clear hO; intro b0 u hO); simp only [zL, zK] at hO) | ((with_reducible refine zaa ?_); refine zlb rfl hO rfl _ (by exact at0) ?_) | ((with_reducible refine zab ?_); refine zsb rfl hO rfl _ (by exact at1) rfl ?_; clear hO; intro u hO; simp only [zC, zB] at hO) | fail)
          exact zan rfl hO rfl 1 at1 rfl rfl ⟨by rw [HF.out]; rfl, hO.below⟩
        · have q3 : (fk == 2) = false := by simp [h3]
          by_cases h4 : n = 1
          · have HF : Hid (X = txI trueS) := Lib.hid (by rw [HE.out, if_neg (by simp [h1, h2]), if_neg h3, if_pos h4])
            subst h4
            clear hm HE HB h1 h2 h3
            go_enter Tryz.func68, Tryz.ntmps68
            have hO := Own.nil w
            go_wp2_with (first | ((with_reducible refine (CM _).mono ?_); rintro e u ⟨rfl, hb⟩; (replace hO := hO.step hb; clear hb)) | ((with_reducible refine (impl_textItem _ _).mono ?_); rintro e u ⟨rfl, hb⟩; (replace hO := hO.step hb; clear hb)) | ((with_reducible refine zac ?_); refine zal rfl hO rfl ?_; (refine nm 1 rfl ?_; clear hO; intro b1 u hO); simp only [zL, zK] at hO) | ((with_reducible refine zad ?_); refine zbx rfl hO rfl rfl ?_; (refine nm 0 rfl ?_; clear hO; intro b0 u hO); simp only [zL, zK] at hO) | ((with_reducible refine zaa ?_); refine zlb rfl hO rfl _ (by exact at0) ?_) | ((with_reducible refine zaa ?_); refine zlf rfl hO rfl _ (by exact at0) ?_) | ((with_reducible refine zab ?_); refine zsb rfl hO rfl _ (by exact at1) rfl ?_; clear hO; intro u hO; simp only [zC, zB] at hO) | fail)
            exact zan rfl hO rfl 1 at1 rfl rfl ⟨by rw [HF.out]; rfl, hO.below⟩
          · have q4 : (n == 1) = false := by simp [h4]
            have HF : Hid (X = txI falseS) := Lib.hid (by rw [HE.out, if_neg (by simp [h1, h2]), if_neg h3, if_neg h4])
            clear hm HE HB h1 h2 h3 h4
            go_enter Tryz.func68, Tryz.ntmps68
            have hO := Own.nil w
            go_wp2_with (first | ((with_reducible refine (CM _).mono ?_); rintro e u ⟨rfl, hb⟩; (replace hO := hO.step hb; clear hb)) | ((with_reducible refine (impl_textItem _ _).mono ?_); rintro e u ⟨rfl, hb⟩; (replace hO := hO.step hb; clear hb)) | ((with_reducible refine zac ?_); refine zal rfl hO rfl ?_; (refine nm 1 rfl ?_; clear hO; intro b1 u hO); simp only [zL, zK] at hO) | ((with_reducible refine zad ?_); refine zbx rfl hO rfl rfl ?_; (refine nm 0 rfl ?_; clear hO; intro b0 u hO); simp only [zL, zK] at hO) | ((with_reducible refine zaa ?_); refine zlb rfl hO rfl _ (by exact at0) ?_) | ((with_reducible refine zaa ?_); refine zlf rfl hO rfl _ (by exact at0) ?_) | ((with_reducible refine zab ?_); refine zsb rfl hO rfl _ (by exact at1) rfl ?_; clear hO; intro u hO; simp only [zC, zB] at hO) | fail)
            exact zan rfl hO rfl 1 at1 rfl rfl ⟨by rw [HF.out]; rfl, hO.below⟩

theorem spec_as (fk tk n d : Int) (t : ByteArray) (w : World) (hv : itemB fk ⟨n, d, t⟩ = true) (hk : fk ≤ tk) (hk2 : tk ≤ 3) :
    Calls Tryz.prog 42 #[.int .i64 fk, .int .i64 tk, .agg #[.int .i64 n, .int .i64 d, .string t]] w fun e w' => e = .returned (.agg #[.int .i64 (cvI fk tk ⟨n, d, t⟩).num, .int .i64 (cvI fk tk ⟨n, d, t⟩).den, .string (cvI fk tk ⟨n, d, t⟩).text]) ∧ Below w.heap.size w w' := by
  have HB : Hid (fk = 2 → misB ⟨n, d, t⟩ = false → -9223372036854775808 ≤ n ∧ n ≤ 9223372036854775807 ∧ -9223372036854775808 ≤ d ∧ d ≤ 9223372036854775807) := Lib.hid (fun h1 h2 => by
    subst h1
    have := num_bd hv h2
    simp only at this
    omega)
  have HL : Hid (fk = 1 → misB ⟨n, d, t⟩ = false → n = 0 ∨ n = 1) := Lib.hid (fun h1 h2 => by
    subst h1
    exact log_bd hv h2)
  have HK : Hid (¬ (1 ≤ fk ∧ fk ≤ 3) → misB ⟨n, d, t⟩ = true) := Lib.hid (fun h => by
    unfold itemB at hv
    rw [if_neg (by omega), if_neg (by omega), if_neg (by omega), Bool.or_false] at hv
    exact hv)
  have HE : Hid (cvI fk tk ⟨n, d, t⟩ = if misB ⟨n, d, t⟩ || decide (fk = tk) || decide (tk = 2) then ⟨n, d, t⟩ else if fk = 2 then txI (fmtN n d t) else if n = 1 then txI trueS else txI falseS) := Lib.hid rfl
  have HM : Hid (misB ⟨n, d, t⟩ = (decide (n = 0) && decide (d = 0) && t.toList.isEmpty)) := Lib.hid rfl
  obtain ⟨X, hX⟩ : ∃ X, cvI fk tk ⟨n, d, t⟩ = X := ⟨_, rfl⟩
  rw [hX] at HE ⊢
  clear hX hv
  have EQ : Hid (tk ≠ 3 → X = ⟨n, d, t⟩) := Lib.hid (fun h => by
    rw [HE.out]
    cases hm : misB ⟨n, d, t⟩ with
    | true => rfl
    | false =>
      have h1 : 1 ≤ fk ∧ fk ≤ 3 := Decidable.not_not.1 fun h => by
        have := HK.out h
        rw [hm] at this
        cases this
      by_cases h2 : tk = 2
      · simp [h2]
      · have h3 : fk = tk := by omega
        simp [h3])
  by_cases h1 : tk = 3
  · subst h1
    by_cases h2 : fk = 3
    · subst h2
      have HF : Hid (X = ⟨n, d, t⟩) := Lib.hid (by rw [HE.out]; simp)
      clear HE HB HL HK HM EQ
      go_enter Tryz.func42, Tryz.ntmps42
      have hO := Own.nil w
      go_wp2_with (first | ((with_reducible refine zac ?_); refine zal rfl hO rfl ?_; (refine nm 1 rfl ?_; clear hO; intro b1 u hO); simp only [zL, zK] at hO) | ((with_reducible refine zad ?_); refine zbx rfl hO rfl rfl ?_; (refine nm 0 rfl ?_; clear hO; intro b0 u hO); simp only [zL, zK] at hO) | ((with_reducible refine zaa ?_); refine zlb rfl hO rfl _ (by exact at0) ?_) | ((with_reducible refine zab ?_); refine zsb rfl hO rfl _ (by exact at1) rfl ?_; clear hO; intro u hO; simp only [zC, zB] at hO) | fail)
      exact zan rfl hO rfl 1 at1 rfl rfl ⟨by rw [HF.out], hO.below⟩
    · have q2 : (fk == 3) = false := by simp [h2]
      cases hm : misB ⟨n, d, t⟩ with
      | true =>
        have HF : Hid (X = ⟨n, d, t⟩) := Lib.hid (by rw [HE.out, hm]; rfl)
        have hq := HM.out
        rw [hm] at hq
        simp only [Bool.true_eq, Bool.and_eq_true, decide_eq_true_eq, List.isEmpty_iff] at hq
        obtain ⟨⟨e1, e2⟩, e3⟩ := hq
        subst e1
        subst e2
        clear HE HB HL HK HM EQ hm
        go_enter Tryz.func42, Tryz.ntmps42
        have hO := Own.nil w
        go_wp2_with (first | ((with_reducible refine zac ?_); refine zal rfl hO rfl ?_; (refine nm 1 rfl ?_; clear hO; intro b1 u hO); simp only [zL, zK] at hO) | ((with_reducible refine zad ?_); refine zbx rfl hO rfl rfl ?_; (refine nm 0 rfl ?_; clear hO; intro b0 u hO); simp only [zL, zK] at hO) | ((with_reducible refine zaa ?_); refine zlb rfl hO rfl _ (by exact at0) ?_) | ((with_reducible refine zab ?_); refine zsb rfl hO rfl _ (by exact at1) rfl ?_; clear hO; intro u hO; simp only [zC, zB] at hO) | fail)
        exact zan rfl hO rfl 1 at1 rfl rfl ⟨by rw [HF.out], hO.below⟩
      | false =>
        have h13 : 1 ≤ fk ∧ fk ≤ 3 := Decidable.not_not.1 fun h => by
          have := HK.out h
          rw [hm] at this
          cases this
        have hz : nz n d t := by
          have hq := HM.out
          rw [hm] at hq
          unfold nz
          by_cases e1 : n = 0
          · by_cases e2 : d = 0
            · right; right
              refine ⟨e1, e2, fun e3 => ?_⟩
              simp [e1, e2, e3] at hq
            · exact .inr (.inl ⟨e1, e2⟩)
          · exact .inl e1
        by_cases h3 : fk = 2
        · obtain ⟨b1, b2, b3, b4⟩ := HB.out h3 hm
          have CF := fun u => spec_fmtN n d t u b1 b2 b3 b4
          have HF : Hid (X = txI (fmtN n d t)) := Lib.hid (by rw [HE.out, hm]; simp [h3])
          subst h3
          clear HE HB HL HK HM EQ hm b1 b2 b3 b4 h13
          rcases hz with a1 | ⟨rfl, a2⟩ | ⟨rfl, rfl, a3⟩
          · have e1 : (n == 0) = false := by simp [a1]
            go_enter Tryz.func42, Tryz.ntmps42
            have hO := Own.nil w
            go_wp2_with (first | ((with_reducible refine (CF _).mono ?_); rintro e u ⟨rfl, hb⟩; (replace hO := hO.step hb; clear hb)) | ((with_reducible refine (zbh _ _).mono ?_); rintro e u ⟨rfl, hb⟩; (replace hO := hO.step hb; clear hb)) | ((with_reducible refine zac ?_); refine zal rfl hO rfl ?_; (refine nm 1 rfl ?_; clear hO; intro b1 u hO); simp only [zL, zK] at hO) | ((with_reducible refine zad ?_); refine zbx rfl hO rfl rfl ?_; (refine nm 0 rfl ?_; clear hO; intro b0 u hO); simp only [zL, zK] at hO) | ((with_reducible refine zaa ?_); refine zlb rfl hO rfl _ (by exact at0) ?_) | ((with_reducible refine zab ?_); refine zsb rfl hO rfl _ (by exact at1) rfl ?_; clear hO; intro u hO; simp only [zC, zB] at hO) | fail)
            exact zan rfl hO rfl 1 at1 rfl rfl ⟨by rw [HF.out]; rfl, hO.below⟩
          · have e1 : (d == 0) = false := by simp [a2]
            go_enter Tryz.func42, Tryz.ntmps42
            have hO := Own.nil w
            go_wp2_with (first | ((with_reducible refine (CF _).mono ?_); rintro e u ⟨rfl, hb⟩; (replace hO := hO.step hb; clear hb)) | ((with_reducible refine (zbh _ _).mono ?_); rintro e u ⟨rfl, hb⟩; (replace hO := hO.step hb; clear hb)) | ((with_reducible refine zac ?_); refine zal rfl hO rfl ?_; (refine nm 1 rfl ?_; clear hO; intro b1 u hO); simp only [zL, zK] at hO) | ((with_reducible refine zad ?_); refine zbx rfl hO rfl rfl ?_; (refine nm 0 rfl ?_; clear hO; intro b0 u hO); simp only [zL, zK] at hO) | ((with_reducible refine zaa ?_); refine zlb rfl hO rfl _ (by exact at0) ?_) | ((with_reducible refine zab ?_); refine zsb rfl hO rfl _ (by exact at1) rfl ?_; clear hO; intro u hO; simp only [zC, zB] at hO) | fail)
            exact zan rfl hO rfl 1 at1 rfl rfl ⟨by rw [HF.out]; rfl, hO.below⟩
          · go_enter Tryz.func42, Tryz.ntmps42
            have hO := Own.nil w
            go_wp2_with (first | ((with_reducible refine (CF _).mono ?_); rintro e u ⟨rfl, hb⟩; (replace hO := hO.step hb; clear hb)) | ((with_reducible refine (zbh _ _).mono ?_); rintro e u ⟨rfl, hb⟩; (replace hO := hO.step hb; clear hb)) | ((with_reducible refine zac ?_); refine zal rfl hO rfl ?_; (refine nm 1 rfl ?_; clear hO; intro b1 u hO); simp only [zL, zK] at hO) | ((with_reducible refine zad ?_); refine zbx rfl hO rfl rfl ?_; (refine nm 0 rfl ?_; clear hO; intro b0 u hO); simp only [zL, zK] at hO) | ((with_reducible refine zaa ?_); refine zlb rfl hO rfl _ (by exact at0) ?_) | ((with_reducible refine zab ?_); refine zsb rfl hO rfl _ (by exact at1) rfl ?_; clear hO; intro u hO; simp only [zC, zB] at hO) | fail)
            exact zan rfl hO rfl 1 at1 rfl rfl ⟨by rw [HF.out]; rfl, hO.below⟩
        · have h4 : fk = 1 := by omega
          have hn := HL.out h4 hm
          have HF : Hid (X = if n = 1 then txI trueS else txI falseS) := Lib.hid (by rw [HE.out, hm]; simp [h4])
          subst h4
          clear HE HB HL HK HM EQ hm h13
          rcases hn with rfl | rfl
          · have hd : ¬ d = 0 ∨ (d = 0 ∧ ¬ t.toList = []) := by
              rcases hz with a1 | ⟨_, a2⟩ | ⟨_, a2, a3⟩
              · exact absurd rfl a1
              · exact .inl a2
              · exact .inr ⟨a2, a3⟩
            rcases hd with a2 | ⟨rfl, a3⟩
            · have e1 : (d == 0) = false := by simp [a2]
              go_enter Tryz.func42, Tryz.ntmps42
              have hO := Own.nil w
              go_wp2_with (first | ((with_reducible refine (zbh _ _).mono ?_); rintro e u ⟨rfl, hb⟩; (replace hO := hO.step hb; clear hb)) | ((with_reducible refine zac ?_); refine zal rfl hO rfl ?_; (refine nm 1 rfl ?_; clear hO; intro b1 u hO); simp only [zL, zK] at hO) | ((with_reducible refine zad ?_); refine zbx rfl hO rfl rfl ?_; (refine nm 0 rfl ?_; clear hO; intro b0 u hO); simp only [zL, zK] at hO) | ((with_reducible refine zaa ?_); refine zlb rfl hO rfl _ (by exact at0) ?_) | ((with_reducible refine zaa ?_); refine zlf rfl hO rfl _ (by (first | exact at0 | exact at2 | fail)) ?_) | ((with_reducible refine zab ?_); refine zsb rfl hO rfl _ (by exact at1) rfl ?_; clear hO; intro u hO; simp only [zC, zB] at hO) | ((with_reducible refine zao ?_); refine zaj (cs := [.string ⟨#[70, 65, 76, 83, 69]⟩, .string ⟨#[84, 82, 85, 69]⟩]) hO rfl (by rfl) [.string ⟨#[70, 65, 76, 83, 69]⟩, .string ⟨#[84, 82, 85, 69]⟩] (by rfl) (by rfl) rfl (zM rfl) (by rfl) rfl (fun b => by simp only [Act.put, zA, zB, zC]; rfl) ?_; clear hO; intro bb u hO; simp only [zL, zK] at hO) | fail)
              exact zan rfl hO rfl 1 at1 rfl rfl ⟨by rw [HF.out]; rfl, hO.below⟩
            · go_enter Tryz.func42, Tryz.ntmps42
              have hO := Own.nil w
              go_wp2_with (first | ((with_reducible refine (zbh _ _).mono ?_); rintro e u ⟨rfl, hb⟩; (replace hO := hO.step hb; clear hb)) | ((with_reducible refine zac ?_); refine zal rfl hO rfl ?_; (refine nm 1 rfl ?_; clear hO; intro b1 u hO); simp only [zL, zK] at hO) | ((with_reducible refine zad ?_); refine zbx rfl hO rfl rfl ?_; (refine nm 0 rfl ?_; clear hO; intro b0 u hO); simp only [zL, zK] at hO) | ((with_reducible refine zaa ?_); refine zlb rfl hO rfl _ (by exact at0) ?_) | ((with_reducible refine zaa ?_); refine zlf rfl hO rfl _ (by (first | exact at0 | exact at2 | fail)) ?_) | ((with_reducible refine zab ?_); refine zsb rfl hO rfl _ (by exact at1) rfl ?_; clear hO; intro u hO; simp only [zC, zB] at hO) | ((with_reducible refine zao ?_); refine zaj (cs := [.string ⟨#[70, 65, 76, 83, 69]⟩, .string ⟨#[84, 82, 85, 69]⟩]) hO rfl (by rfl) [.string ⟨#[70, 65, 76, 83, 69]⟩, .string ⟨#[84, 82, 85, 69]⟩] (by rfl) (by rfl) rfl (zM rfl) (by rfl) rfl (fun b => by simp only [Act.put, zA, zB, zC]; rfl) ?_; clear hO; intro bb u hO; simp only [zL, zK] at hO) | fail)
              exact zan rfl hO rfl 1 at1 rfl rfl ⟨by rw [HF.out]; rfl, hO.below⟩
          · go_enter Tryz.func42, Tryz.ntmps42
            have hO := Own.nil w
            go_wp2_with (first | ((with_reducible refine (zbh _ _).mono ?_); rintro e u ⟨rfl, hb⟩; (replace hO := hO.step hb; clear hb)) | ((with_reducible refine zac ?_); refine zal rfl hO rfl ?_; (refine nm 1 rfl ?_; clear hO; intro b1 u hO); simp only [zL, zK] at hO) | ((with_reducible refine zad ?_); refine zbx rfl hO rfl rfl ?_; (refine nm 0 rfl ?_; clear hO; intro b0 u hO); simp only [zL, zK] at hO) | ((with_reducible refine zaa ?_); refine zlb rfl hO rfl _ (by exact at0) ?_) | ((with_reducible refine zaa ?_); refine zlf rfl hO rfl _ (by (first | exact at0 | exact at2 | fail)) ?_) | ((with_reducible refine zab ?_); refine zsb rfl hO rfl _ (by exact at1) rfl ?_; clear hO; intro u hO; simp only [zC, zB] at hO) | ((with_reducible refine zao ?_); refine zaj (cs := [.string ⟨#[70, 65, 76, 83, 69]⟩, .string ⟨#[84, 82, 85, 69]⟩]) hO rfl (by rfl) [.string ⟨#[70, 65, 76, 83, 69]⟩, .string ⟨#[84, 82, 85, 69]⟩] (by rfl) (by rfl) rfl (zM rfl) (by rfl) rfl (fun b => by simp only [Act.put, zA, zB, zC]; rfl) ?_; clear hO; intro bb u hO; simp only [zL, zK] at hO) | fail)
            exact zan rfl hO rfl 1 at1 rfl rfl ⟨by rw [HF.out]; rfl, hO.below⟩
  · have q1 : (tk == 3) = false := by simp [h1]
    have HF := Lib.hid (EQ.out h1)
    clear HE HB HL HK HM EQ
    go_enter Tryz.func42, Tryz.ntmps42
    have hO := Own.nil w
    go_wp2_with (first | ((with_reducible refine zac ?_); refine zal rfl hO rfl ?_; (refine nm 1 rfl ?_; clear hO; intro b1 u hO); simp only [zL, zK] at hO) | ((with_reducible refine zad ?_); refine zbx rfl hO rfl rfl ?_; (refine nm 0 rfl ?_; clear hO; intro b0 u hO); simp only [zL, zK] at hO) | ((with_reducible refine zaa ?_); refine zlb rfl hO rfl _ (by exact at0) ?_) | ((with_reducible refine zab ?_); refine zsb rfl hO rfl _ (by exact at1) rfl ?_; clear hO; intro u hO; simp only [zC, zB] at hO) | fail)
    exact zan rfl hO rfl 1 at1 rfl rfl ⟨by rw [HF.out], hO.below⟩

/-- items, as a vector of a call's own -/
theorem Own.vecIn {w0 w : World} {L : List Res} {is : List It} {A : Option Addr} {c : Nat} (h : Own w0 (row 35 3 (.slice A is.length c) is.length (itc is) :: L) w) (k : Int) :
    ∃ F, VO (Go.Proofs.YtmofcbpabdbjlaaGreat.vecI k is) [.int .i64 k, .slice A is.length c, .slice none 0 0, .slice none 0 0, .slice none 0 0, .slice none 0 0, .int .i64 0, .int .i64 0] F ∧ Own w0 (Go.Proofs.YtmofcbpabdbjlaaGreat.pack F :: L) w := by
  have h1 := (((h.addNil 28 8).addNil 9 1).addNil 9 1).addNil 9 1
  have h2 := h1.perm (L' := [row 35 3 (.slice A is.length c) is.length (itc is), row 28 8 (.slice none 0 0) 0 [], row 9 1 (.slice none 0 0) 0 [], row 9 1 (.slice none 0 0) 0 [], row 9 1 (.slice none 0 0) 0 []] ++ L) (by
    simp only [List.cons_append, List.nil_append, List.append_assoc]
    refine List.Perm.cons _ ?_
    exact List.perm_append_comm (l₂ := [_, _, _, _]))
  exact ⟨_, VO.close (ps := []) (ns := []) (cs := []) (ls := []) VL.nil, Own.pack h2⟩

end Go.Proofs.YtmofcbpabdbjlaaGreat
