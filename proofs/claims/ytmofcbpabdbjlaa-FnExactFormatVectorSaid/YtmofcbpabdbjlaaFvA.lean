/-
  What is proved: how an element and a label of a vector are written (formatItem, formatLabel, joinTexts; l4Show, l4Label).
  Condition: elements and labels that a valid vector holds.
-/
import Derived.Test.YtmofcbpabdbjlaaFname
import Derived.Test.YtmofcbpabdbjlaaQuoteI
import Derived.Test.YtmofcbpabdbjlaaFnum
import Derived.Test.YtmofcbpabdbjlaaIa
import Derived.Test.YtmofcbpabdbjlaaSm
import Derived.Test.YtmofcbpabdbjlaaTvA
import Derived.Deep.Cut
namespace Go.Proofs.Ytmofcbpabdbjlaa
set_option maxRecDepth 8000
open Go.RowKit Go.ChangeShapes Go.WideShapes Go.Deep
set_option linter.unusedVariables false
set_option linter.unusedSimpArgs false

theorem num_bdF {x : It} (h : itemB 2 x = true) (hm : misB x = false) : 1 ≤ x.den ∧ x.den ≤ 999999999 ∧ -999999999 ≤ x.num ∧ x.num ≤ 999999999 := by
  unfold itemB at h
  rw [hm, Bool.false_or, if_neg (by decide), if_pos rfl] at h
  unfold isNumI at h
  simp only [Bool.and_eq_true] at h
  have h2 := h.2
  unfold Nm.isNum at h2
  have := of_decide_eq_true h2
  omega
theorem log_bdF {x : It} (h : itemB 1 x = true) (hm : misB x = false) : x.num = 0 ∨ x.num = 1 := by
  unfold itemB at h
  rw [hm, Bool.false_or, if_pos rfl] at h
  simp only [Bool.and_eq_true, Bool.or_eq_true, decide_eq_true_eq] at h
  exact h.2
theorem item_denF {k : Int} {x : It} (hk : 1 ≤ k ∧ k ≤ 3) (h : itemB k x = true) : misB x = decide (x.den = 0) := by
  cases hm : misB x with
  | true =>
    unfold misB at hm
    simp only [Bool.and_eq_true, decide_eq_true_eq] at hm
    rw [decide_eq_true hm.1.2]
  | false =>
    have h' := h
    unfold itemB at h'
    rw [hm, Bool.false_or] at h'
    obtain rfl | rfl | rfl : k = 1 ∨ k = 2 ∨ k = 3 := by omega
    · simp only [if_true, Bool.and_eq_true, decide_eq_true_eq] at h'
      rw [decide_eq_false (by omega)]
    · have := num_bdF h hm
      rw [decide_eq_false (by omega)]
    · rw [if_neg (by decide), if_neg (by decide), if_pos rfl] at h'
      simp only [Bool.and_eq_true, decide_eq_true_eq] at h'
      rw [decide_eq_false (by omega)]

/-- bytes -/
theorem ba_assoc (a b c : ByteArray) : a ++ b ++ c = a ++ (b ++ c) := by
  apply ByteArray.ext
  simp [Array.append_assoc]
theorem ba_nil (a : ByteArray) : a ++ (⟨#[]⟩ : ByteArray) = a := by
  apply ByteArray.ext
  simp
theorem nil_ba (a : ByteArray) : (⟨#[]⟩ : ByteArray) ++ a = a := by
  apply ByteArray.ext
  simp
theorem ba_size (a b : ByteArray) : (a ++ b).size = a.size + b.size := ByteArray.size_append

def eqS : ByteArray := ⟨#[32, 61, 32]⟩
def quS (s : ByteArray) : ByteArray := bstr (quoL s.data.toList)
def labF (s : ByteArray) : ByteArray := if emptyB s then ⟨#[]⟩ else if isNameB s then (fmtName s ++ eqS : ByteArray) else (quS s ++ eqS : ByteArray)
def shwI (k : Int) (x : It) : ByteArray :=
  if k = 1 then (if misB x then ⟨#[78, 65]⟩ else if x.num = 1 then ⟨#[84, 82, 85, 69]⟩ else ⟨#[70, 65, 76, 83, 69]⟩)
  else if k = 2 then (if misB x then ⟨#[78, 65, 95, 110, 117, 109, 98, 101, 114, 95]⟩ else fmtN x.num x.den x.text)
  else (if misB x then ⟨#[78, 65, 95, 99, 104, 97, 114, 97, 99, 116, 101, 114, 95]⟩ else quS x.text)
theorem quS_size (s : ByteArray) : (quS s).size ≤ 4 * s.size + 2 := by
  have h1 := quoH_len s.data.toList
  have h2 : s.data.toList.length = s.size := by simp
  have h3 : (quS s).size = (quoH s.data.toList ++ [34]).length := bstr_size _
  rw [h3, List.length_append]
  have : ([34] : List UInt8).length = 1 := rfl
  omega
theorem fmtName_size {s : ByteArray} (h : isNameB s = true) : (fmtName s).size ≤ 22 := by
  have := name_size20 h
  unfold fmtName
  split
  · omega
  · simp only [ba_size]
    have : (⟨#[96]⟩ : ByteArray).size = 1 := rfl
    omega
theorem labF_size {s : ByteArray} (h : s.size ≤ 60) : (labF s).size ≤ 245 := by
  have h3 : eqS.size = 3 := rfl
  unfold labF
  split
  · exact Nat.zero_le _
  · split
    · rename_i hn
      have := fmtName_size hn
      rw [ba_size]
      omega
    · have := quS_size s
      rw [ba_size]
      omega
theorem fmtN_sizeF (n d : Int) (t : ByteArray) (h1 : -9223372036854775808 ≤ n) (h2 : n ≤ 9223372036854775807) (h3 : -9223372036854775808 ≤ d) (h4 : d ≤ 9223372036854775807) : (fmtN n d t).size ≤ 41 := by
  unfold fmtN
  have f1 := fmtI_le n h1 h2
  have f2 := fmtI_le d h3 h4
  split
  · exact Nat.le_of_ble_eq_true rfl
  · split
    · exact Nat.le_of_ble_eq_true rfl
    · split
      · omega
      · simp only [ByteArray.size_append]
        have : (⟨#[47]⟩ : ByteArray).size = 1 := rfl
        omega
theorem shwI_size {k : Int} {x : It} (hk : 1 ≤ k ∧ k ≤ 3) (h : itemB k x = true) : (shwI k x).size ≤ 245 := by
  unfold shwI
  split
  · split
    · exact Nat.le_of_ble_eq_true rfl
    · split <;> exact Nat.le_of_ble_eq_true rfl
  · split
    · split
      · exact Nat.le_of_ble_eq_true rfl
      · rename_i h2 hm
        subst h2
        have := num_bdF h (by simpa using hm)
        have := fmtN_sizeF x.num x.den x.text (by omega) (by omega) (by omega) (by omega)
        omega
    · split
      · exact Nat.le_of_ble_eq_true rfl
      · have := quS_size x.text
        have := item_text h
        omega

theorem impl_label (s : ByteArray) (w : World) (hs : s.size ≤ 60) : Calls Try.prog 201 #[.string s] w fun e w' => e = .returned (.string (labF s)) ∧ Below w.heap.size w w' := by
  have CN := fun u => impl_isName s u (by unfold maxLen; omega)
  have CF := fun u => impl_formatName s u (by unfold maxLen; omega)
  have CQ : ∀ u : World, Calls Try.prog 213 #[.string s] u fun e w' => e = .returned (.string (quS s)) ∧ Below u.heap.size u w' := fun u => impl_quote s u (by omega)
  have HE : Hid (labF s = if emptyB s then ⟨#[]⟩ else if isNameB s then (fmtName s ++ ⟨#[32, 61, 32]⟩ : ByteArray) else (quS s ++ ⟨#[32, 61, 32]⟩ : ByteArray)) := Lib.hid rfl
  have hq := quS_size s
  have hf := Lib.hid (fun h => fmtName_size (s := s) h)
  cases he : emptyB s with
  | true =>
    have e1 := emptyB_iff.1 he
    have e2 : s.toList.isEmpty = true := by simp [e1]
    have HF : Hid (labF s = ⟨#[]⟩) := Lib.hid (by rw [HE.out, he]; rfl)
    clear he
    go_enter Try.func201, Try.ntmps201
    have hO := Own.nil w
    go_wp2_with (first
      | ((with_reducible refine wpl_alloc ?_); refine wpList_alloc_own rfl (by rfl) hO rfl (fun b => by simp only [Act.put, zA, zB, zC]; rfl) ?_; (first | (refine nm 0 rfl ?_; clear hO; intro b0 u hO)); simp only [zL, zK] at hO)
      | ((with_reducible refine wpl_box ?_); refine wpList_box_own rfl (by rfl) hO rfl rfl (fun b => by simp only [Act.put, zA, zB, zC]; rfl) ?_; (first | (refine nm 0 rfl ?_; clear hO; intro b0 u hO)); simp only [zL, zK] at hO)
      | fail)
    go_ret
    exact ⟨ret_str HF.out.symm, hO.below⟩
  | false =>
    have e1 : ¬ s.toList = [] := fun h => by rw [emptyB_iff.2 h] at he; cases he
    have e2 : s.toList.isEmpty = false := by simp [e1]
    obtain ⟨q, hqq⟩ : ∃ q, isNameB s = q := ⟨_, rfl⟩
    rw [hqq] at CN HE hf
    cases q with
    | true =>
      have HF : Hid (labF s = (fmtName s ++ ⟨#[32, 61, 32]⟩ : ByteArray)) := Lib.hid (by rw [HE.out, he]; rfl)
      have hf' := hf.out rfl
      obtain ⟨f, hff⟩ : ∃ f, fmtName s = f := ⟨_, rfl⟩
      rw [hff] at CF HF hf'
      clear he hf hff hqq HE
      go_enter Try.func201, Try.ntmps201
      have hO := Own.nil w
      go_wp2_with (first
        | ((with_reducible refine (CN _).mono ?_); rintro e u ⟨rfl, hb⟩; subst hb)
        | ((with_reducible refine (CF _).mono ?_); rintro e u ⟨rfl, hb⟩; subst hb)
        | fail)
      go_ret
      exact ⟨ret_str HF.out.symm, hO.below⟩
    | false =>
      have HF : Hid (labF s = (quS s ++ ⟨#[32, 61, 32]⟩ : ByteArray)) := Lib.hid (by rw [HE.out, he]; rfl)
      obtain ⟨f, hff⟩ : ∃ f, quS s = f := ⟨_, rfl⟩
      rw [hff] at CQ HF hq
      clear he hf hff hqq HE
      go_enter Try.func201, Try.ntmps201
      have hO := Own.nil w
      go_wp2_with (first
        | ((with_reducible refine (CN _).mono ?_); rintro e u ⟨rfl, hb⟩; subst hb)
        | ((with_reducible refine (CQ _).mono ?_); rintro e u ⟨rfl, hb⟩; (replace hO := hO.step hb; clear hb))
        | fail)
      go_ret
      exact ⟨ret_str HF.out.symm, hO.below⟩

theorem spec_label (s : ByteArray) (w : World) (hs : s.size ≤ 60) : Calls Try.prog 160 #[.string s] w fun e w' => e = .returned (.string (labF s)) ∧ Below w.heap.size w w' := by
  have CN := fun u => spec_isName s u (by unfold maxLen; omega)
  have CF := fun u => spec_formatName s u (by unfold maxLen; omega)
  have CQ : ∀ u : World, Calls Try.prog 198 #[.string s] u fun e w' => e = .returned (.string (quS s)) ∧ u = w' := fun u => spec_quote s u (by omega)
  have HE : Hid (labF s = if emptyB s then ⟨#[]⟩ else if isNameB s then (fmtName s ++ ⟨#[32, 61, 32]⟩ : ByteArray) else (quS s ++ ⟨#[32, 61, 32]⟩ : ByteArray)) := Lib.hid rfl
  have hq := quS_size s
  have hf := Lib.hid (fun h => fmtName_size (s := s) h)
  cases he : emptyB s with
  | true =>
    have e1 := emptyB_iff.1 he
    have e2 : s.toList.isEmpty = true := by simp [e1]
    have HF : Hid (labF s = ⟨#[]⟩) := Lib.hid (by rw [HE.out, he]; rfl)
    clear he
    go_enter Try.func160, Try.ntmps160
    have hO := Own.nil w
    go_wp2_with (first
      | ((with_reducible refine wpl_alloc ?_); refine wpList_alloc_own rfl (by rfl) hO rfl (fun b => by simp only [Act.put, zA, zB, zC]; rfl) ?_; (first | (refine nm 0 rfl ?_; clear hO; intro b0 u hO)); simp only [zL, zK] at hO)
      | ((with_reducible refine wpl_box ?_); refine wpList_box_own rfl (by rfl) hO rfl rfl (fun b => by simp only [Act.put, zA, zB, zC]; rfl) ?_; (first | (refine nm 0 rfl ?_; clear hO; intro b0 u hO)); simp only [zL, zK] at hO)
      | fail)
    go_ret
    exact ⟨ret_str HF.out.symm, hO.below⟩
  | false =>
    have e1 : ¬ s.toList = [] := fun h => by rw [emptyB_iff.2 h] at he; cases he
    have e2 : s.toList.isEmpty = false := by simp [e1]
    obtain ⟨q, hqq⟩ : ∃ q, isNameB s = q := ⟨_, rfl⟩
    rw [hqq] at CN HE hf
    cases q with
    | true =>
      have HF : Hid (labF s = (fmtName s ++ ⟨#[32, 61, 32]⟩ : ByteArray)) := Lib.hid (by rw [HE.out, he]; rfl)
      have hf' := hf.out rfl
      obtain ⟨f, hff⟩ : ∃ f, fmtName s = f := ⟨_, rfl⟩
      rw [hff] at CF HF hf'
      clear he hf hff hqq HE
      go_enter Try.func160, Try.ntmps160
      have hO := Own.nil w
      go_wp2_with (first
        | ((with_reducible refine (CN _).mono ?_); rintro e u ⟨rfl, hb⟩; subst hb)
        | ((with_reducible refine (CF _).mono ?_); rintro e u ⟨rfl, hb⟩; (replace hO := hO.step hb; clear hb))
        | fail)
      go_ret
      exact ⟨ret_str HF.out.symm, hO.below⟩
    | false =>
      have HF : Hid (labF s = (quS s ++ ⟨#[32, 61, 32]⟩ : ByteArray)) := Lib.hid (by rw [HE.out, he]; rfl)
      obtain ⟨f, hff⟩ : ∃ f, quS s = f := ⟨_, rfl⟩
      rw [hff] at CQ HF hq
      clear he hf hff hqq HE
      go_enter Try.func160, Try.ntmps160
      have hO := Own.nil w
      go_wp2_with (first
        | ((with_reducible refine (CN _).mono ?_); rintro e u ⟨rfl, hb⟩; subst hb)
        | ((with_reducible refine (CQ _).mono ?_); rintro e u ⟨rfl, hb⟩; subst hb)
        | fail)
      go_ret
      exact ⟨ret_str HF.out.symm, hO.below⟩

theorem impl_show (k n d : Int) (t : ByteArray) (w : World) (hk : 1 ≤ k ∧ k ≤ 3) (hv : itemB k ⟨n, d, t⟩ = true) : Calls Try.prog 200 #[.int .i64 k, .agg #[.int .i64 n, .int .i64 d, .string t]] w fun e w' => e = .returned (.string (shwI k ⟨n, d, t⟩)) ∧ Below w.heap.size w w' := by
  have CM := fun u => impl_isMissing n d t u
  have htx := item_text hv
  have CQ : ∀ u : World, Calls Try.prog 213 #[.string t] u fun e w' => e = .returned (.string (quS t)) ∧ Below u.heap.size u w' := fun u => impl_quote t u (by have : t.size ≤ 60 := htx; omega)
  have HE : Hid (shwI k ⟨n, d, t⟩ = if k = 1 then (if misB ⟨n, d, t⟩ then ⟨#[78, 65]⟩ else if n = 1 then ⟨#[84, 82, 85, 69]⟩ else ⟨#[70, 65, 76, 83, 69]⟩) else if k = 2 then (if misB ⟨n, d, t⟩ then ⟨#[78, 65, 95, 110, 117, 109, 98, 101, 114, 95]⟩ else fmtN n d t) else (if misB ⟨n, d, t⟩ then ⟨#[78, 65, 95, 99, 104, 97, 114, 97, 99, 116, 101, 114, 95]⟩ else quS t)) := Lib.hid rfl
  have HN := Lib.hid (fun (h2 : k = 2) (hm : misB ⟨n, d, t⟩ = false) => num_bdF (x := ⟨n, d, t⟩) (by rw [← h2]; exact hv) hm)
  have HL := Lib.hid (fun (h2 : k = 1) (hm : misB ⟨n, d, t⟩ = false) => log_bdF (x := ⟨n, d, t⟩) (by rw [← h2]; exact hv) hm)
  clear hv htx
  obtain ⟨q, hq⟩ : ∃ q, misB ⟨n, d, t⟩ = q := ⟨_, rfl⟩
  rw [hq] at CM HE HN HL
  clear hq
  obtain rfl | rfl | rfl : k = 1 ∨ k = 2 ∨ k = 3 := by omega
  · cases q with
    | true =>
      go_enter Try.func200, Try.ntmps200
      have hO := Own.nil w
      go_wp2_with (first
        | ((with_reducible refine (CM _).mono ?_); rintro e u ⟨rfl, hb⟩; (replace hO := hO.step hb; clear hb))
        | ((with_reducible refine wpl_box ?_); refine wpList_box_own rfl (by rfl) hO rfl rfl (fun b => by simp only [Act.put, zA, zB, zC]; rfl) ?_; (refine nm 0 rfl ?_; clear hO; intro b0 u hO); simp only [zL, zK] at hO)
        | ((with_reducible refine wpl_load ?_); refine wpList_load_box rfl (by rfl) hO rfl _ (by exact at0) (by rfl) (by simp only [Act.put, zA, zB, zC]; rfl) ?_)
        | fail)
      go_ret
      exact ⟨ret_str HE.out.symm, hO.below⟩
    | false =>
      have h01 : n = 0 ∨ n = 1 := HL.out rfl rfl
      rcases h01 with rfl | rfl
      · go_enter Try.func200, Try.ntmps200
        have hO := Own.nil w
        go_wp2_with (first
          | ((with_reducible refine (CM _).mono ?_); rintro e u ⟨rfl, hb⟩; (replace hO := hO.step hb; clear hb))
          | ((with_reducible refine wpl_box ?_); refine wpList_box_own rfl (by rfl) hO rfl rfl (fun b => by simp only [Act.put, zA, zB, zC]; rfl) ?_; (refine nm 0 rfl ?_; clear hO; intro b0 u hO); simp only [zL, zK] at hO)
          | ((with_reducible refine wpl_load ?_); refine wpList_load_box rfl (by rfl) hO rfl _ (by exact at0) (by rfl) (by simp only [Act.put, zA, zB, zC]; rfl) ?_)
          | ((with_reducible refine wpl_load ?_); refine wpList_load_field rfl (by rfl) hO rfl _ (by exact at0) (by rfl) (by simp only [Act.put, zA, zB, zC]; rfl) ?_)
          | fail)
        go_ret
        exact ⟨ret_str HE.out.symm, hO.below⟩
      · go_enter Try.func200, Try.ntmps200
        have hO := Own.nil w
        go_wp2_with (first
          | ((with_reducible refine (CM _).mono ?_); rintro e u ⟨rfl, hb⟩; (replace hO := hO.step hb; clear hb))
          | ((with_reducible refine wpl_box ?_); refine wpList_box_own rfl (by rfl) hO rfl rfl (fun b => by simp only [Act.put, zA, zB, zC]; rfl) ?_; (refine nm 0 rfl ?_; clear hO; intro b0 u hO); simp only [zL, zK] at hO)
          | ((with_reducible refine wpl_load ?_); refine wpList_load_box rfl (by rfl) hO rfl _ (by exact at0) (by rfl) (by simp only [Act.put, zA, zB, zC]; rfl) ?_)
          | ((with_reducible refine wpl_load ?_); refine wpList_load_field rfl (by rfl) hO rfl _ (by exact at0) (by rfl) (by simp only [Act.put, zA, zB, zC]; rfl) ?_)
          | fail)
        go_ret
        exact ⟨ret_str HE.out.symm, hO.below⟩
  · cases q with
    | true =>
      go_enter Try.func200, Try.ntmps200
      have hO := Own.nil w
      go_wp2_with (first
        | ((with_reducible refine (CM _).mono ?_); rintro e u ⟨rfl, hb⟩; (replace hO := hO.step hb; clear hb))
        | ((with_reducible refine wpl_box ?_); refine wpList_box_own rfl (by rfl) hO rfl rfl (fun b => by simp only [Act.put, zA, zB, zC]; rfl) ?_; (refine nm 0 rfl ?_; clear hO; intro b0 u hO); simp only [zL, zK] at hO)
        | ((with_reducible refine wpl_load ?_); refine wpList_load_box rfl (by rfl) hO rfl _ (by exact at0) (by rfl) (by simp only [Act.put, zA, zB, zC]; rfl) ?_)
        | fail)
      go_ret
      exact ⟨ret_str HE.out.symm, hO.below⟩
    | false =>
      have hb : 1 ≤ d ∧ d ≤ 999999999 ∧ -999999999 ≤ n ∧ n ≤ 999999999 := HN.out rfl rfl
      have CF := fun u => impl_fmtN n d t u (by omega) (by omega) (by omega) (by omega)
      go_enter Try.func200, Try.ntmps200
      have hO := Own.nil w
      go_wp2_with (first
        | ((with_reducible refine (CM _).mono ?_); rintro e u ⟨rfl, hb⟩; (replace hO := hO.step hb; clear hb))
        | ((with_reducible refine (CF _).mono ?_); rintro e u ⟨rfl, hb⟩; (replace hO := hO.step hb; clear hb))
        | ((with_reducible refine wpl_box ?_); refine wpList_box_own rfl (by rfl) hO rfl rfl (fun b => by simp only [Act.put, zA, zB, zC]; rfl) ?_; (refine nm 0 rfl ?_; clear hO; intro b0 u hO); simp only [zL, zK] at hO)
        | ((with_reducible refine wpl_load ?_); refine wpList_load_box rfl (by rfl) hO rfl _ (by exact at0) (by rfl) (by simp only [Act.put, zA, zB, zC]; rfl) ?_)
        | fail)
      go_ret
      exact ⟨ret_str HE.out.symm, hO.below⟩
  · cases q with
    | true =>
      go_enter Try.func200, Try.ntmps200
      have hO := Own.nil w
      go_wp2_with (first
        | ((with_reducible refine (CM _).mono ?_); rintro e u ⟨rfl, hb⟩; (replace hO := hO.step hb; clear hb))
        | ((with_reducible refine wpl_box ?_); refine wpList_box_own rfl (by rfl) hO rfl rfl (fun b => by simp only [Act.put, zA, zB, zC]; rfl) ?_; (refine nm 0 rfl ?_; clear hO; intro b0 u hO); simp only [zL, zK] at hO)
        | ((with_reducible refine wpl_load ?_); refine wpList_load_box rfl (by rfl) hO rfl _ (by exact at0) (by rfl) (by simp only [Act.put, zA, zB, zC]; rfl) ?_)
        | fail)
      go_ret
      exact ⟨ret_str HE.out.symm, hO.below⟩
    | false =>
      go_enter Try.func200, Try.ntmps200
      have hO := Own.nil w
      go_wp2_with (first
        | ((with_reducible refine (CM _).mono ?_); rintro e u ⟨rfl, hb⟩; (replace hO := hO.step hb; clear hb))
        | ((with_reducible refine (CQ _).mono ?_); rintro e u ⟨rfl, hb⟩; (replace hO := hO.step hb; clear hb))
        | ((with_reducible refine wpl_box ?_); refine wpList_box_own rfl (by rfl) hO rfl rfl (fun b => by simp only [Act.put, zA, zB, zC]; rfl) ?_; (refine nm 0 rfl ?_; clear hO; intro b0 u hO); simp only [zL, zK] at hO)
        | ((with_reducible refine wpl_load ?_); refine wpList_load_box rfl (by rfl) hO rfl _ (by exact at0) (by rfl) (by simp only [Act.put, zA, zB, zC]; rfl) ?_)
        | ((with_reducible refine wpl_load ?_); refine wpList_load_field rfl (by rfl) hO rfl _ (by exact at0) (by rfl) (by simp only [Act.put, zA, zB, zC]; rfl) ?_)
        | fail)
      go_ret
      exact ⟨ret_str HE.out.symm, hO.below⟩

theorem spec_show (k n d : Int) (t : ByteArray) (w : World) (hk : 1 ≤ k ∧ k ≤ 3) (hv : itemB k ⟨n, d, t⟩ = true) : Calls Try.prog 161 #[.int .i64 k, .agg #[.int .i64 n, .int .i64 d, .string t]] w fun e w' => e = .returned (.string (shwI k ⟨n, d, t⟩)) ∧ Below w.heap.size w w' := by
  have htx := item_text hv
  have CQ : ∀ u : World, Calls Try.prog 198 #[.string t] u fun e w' => e = .returned (.string (quS t)) ∧ u = w' := fun u => spec_quote t u (by have : t.size ≤ 60 := htx; omega)
  have HE : Hid (shwI k ⟨n, d, t⟩ = if k = 1 then (if misB ⟨n, d, t⟩ then ⟨#[78, 65]⟩ else if n = 1 then ⟨#[84, 82, 85, 69]⟩ else ⟨#[70, 65, 76, 83, 69]⟩) else if k = 2 then (if misB ⟨n, d, t⟩ then ⟨#[78, 65, 95, 110, 117, 109, 98, 101, 114, 95]⟩ else fmtN n d t) else (if misB ⟨n, d, t⟩ then ⟨#[78, 65, 95, 99, 104, 97, 114, 97, 99, 116, 101, 114, 95]⟩ else quS t)) := Lib.hid rfl
  have HN := Lib.hid (fun (h2 : k = 2) (hm : misB ⟨n, d, t⟩ = false) => num_bdF (x := ⟨n, d, t⟩) (by rw [← h2]; exact hv) hm)
  have HL := Lib.hid (fun (h2 : k = 1) (hm : misB ⟨n, d, t⟩ = false) => log_bdF (x := ⟨n, d, t⟩) (by rw [← h2]; exact hv) hm)
  have hd : misB ⟨n, d, t⟩ = decide (d = 0) := item_denF hk hv
  clear hv htx
  rw [hd] at HE HN HL
  by_cases h0 : d = 0
  · subst h0
    rw [decide_eq_true rfl] at HE
    clear HN HL hd
    obtain rfl | rfl | rfl : k = 1 ∨ k = 2 ∨ k = 3 := by omega
    · go_enter Try.func161, Try.ntmps161
      have hO := Own.nil w
      go_wp2_with (first
        | ((with_reducible refine wpl_box ?_); refine wpList_box_own rfl (by rfl) hO rfl rfl (fun b => by simp only [Act.put, zA, zB, zC]; rfl) ?_; (refine nm 0 rfl ?_; clear hO; intro b0 u hO); simp only [zL, zK] at hO)
        | ((with_reducible refine wpl_load ?_); refine wpList_load_field rfl (by rfl) hO rfl _ (by exact at0) (by rfl) (by simp only [Act.put, zA, zB, zC]; rfl) ?_)
        | fail)
      go_ret
      exact ⟨ret_str HE.out.symm, hO.below⟩
    · go_enter Try.func161, Try.ntmps161
      have hO := Own.nil w
      go_wp2_with (first
        | ((with_reducible refine wpl_box ?_); refine wpList_box_own rfl (by rfl) hO rfl rfl (fun b => by simp only [Act.put, zA, zB, zC]; rfl) ?_; (refine nm 0 rfl ?_; clear hO; intro b0 u hO); simp only [zL, zK] at hO)
        | ((with_reducible refine wpl_load ?_); refine wpList_load_field rfl (by rfl) hO rfl _ (by exact at0) (by rfl) (by simp only [Act.put, zA, zB, zC]; rfl) ?_)
        | fail)
      go_ret
      exact ⟨ret_str HE.out.symm, hO.below⟩
    · go_enter Try.func161, Try.ntmps161
      have hO := Own.nil w
      go_wp2_with (first
        | ((with_reducible refine wpl_box ?_); refine wpList_box_own rfl (by rfl) hO rfl rfl (fun b => by simp only [Act.put, zA, zB, zC]; rfl) ?_; (refine nm 0 rfl ?_; clear hO; intro b0 u hO); simp only [zL, zK] at hO)
        | ((with_reducible refine wpl_load ?_); refine wpList_load_field rfl (by rfl) hO rfl _ (by exact at0) (by rfl) (by simp only [Act.put, zA, zB, zC]; rfl) ?_)
        | fail)
      go_ret
      exact ⟨ret_str HE.out.symm, hO.below⟩
  · rw [decide_eq_false h0] at HE HN HL
    have h1 : (d == 0) = false := by simp [h0]
    clear hd
    obtain rfl | rfl | rfl : k = 1 ∨ k = 2 ∨ k = 3 := by omega
    · have h01 : n = 0 ∨ n = 1 := HL.out rfl rfl
      clear HN HL h0
      rcases h01 with rfl | rfl
      · go_enter Try.func161, Try.ntmps161
        have hO := Own.nil w
        go_wp2_with (first
          | ((with_reducible refine wpl_box ?_); refine wpList_box_own rfl (by rfl) hO rfl rfl (fun b => by simp only [Act.put, zA, zB, zC]; rfl) ?_; (refine nm 0 rfl ?_; clear hO; intro b0 u hO); simp only [zL, zK] at hO)
          | ((with_reducible refine wpl_load ?_); refine wpList_load_field rfl (by rfl) hO rfl _ (by (first | exact at0 | exact at1 | fail)) (by rfl) (by simp only [Act.put, zA, zB, zC]; rfl) ?_)
          | ((with_reducible refine wpl_build ?_); refine wpList_build_list (cs := [.string ⟨#[70, 65, 76, 83, 69]⟩, .string ⟨#[84, 82, 85, 69]⟩]) hO rfl (by rfl) [.string ⟨#[70, 65, 76, 83, 69]⟩, .string ⟨#[84, 82, 85, 69]⟩] (by rfl) (by rfl) rfl (zM rfl) (by rfl) rfl (fun b => by simp only [Act.put, zA, zB, zC]; rfl) ?_; clear hO; intro bb u hO; simp only [zL, zK] at hO)
          | fail)
        go_ret
        exact ⟨ret_str HE.out.symm, hO.below⟩
      · go_enter Try.func161, Try.ntmps161
        have hO := Own.nil w
        go_wp2_with (first
          | ((with_reducible refine wpl_box ?_); refine wpList_box_own rfl (by rfl) hO rfl rfl (fun b => by simp only [Act.put, zA, zB, zC]; rfl) ?_; (refine nm 0 rfl ?_; clear hO; intro b0 u hO); simp only [zL, zK] at hO)
          | ((with_reducible refine wpl_load ?_); refine wpList_load_field rfl (by rfl) hO rfl _ (by (first | exact at0 | exact at1 | fail)) (by rfl) (by simp only [Act.put, zA, zB, zC]; rfl) ?_)
          | ((with_reducible refine wpl_build ?_); refine wpList_build_list (cs := [.string ⟨#[70, 65, 76, 83, 69]⟩, .string ⟨#[84, 82, 85, 69]⟩]) hO rfl (by rfl) [.string ⟨#[70, 65, 76, 83, 69]⟩, .string ⟨#[84, 82, 85, 69]⟩] (by rfl) (by rfl) rfl (zM rfl) (by rfl) rfl (fun b => by simp only [Act.put, zA, zB, zC]; rfl) ?_; clear hO; intro bb u hO; simp only [zL, zK] at hO)
          | fail)
        go_ret
        exact ⟨ret_str HE.out.symm, hO.below⟩
    · have hb : 1 ≤ d ∧ d ≤ 999999999 ∧ -999999999 ≤ n ∧ n ≤ 999999999 := HN.out rfl rfl
      have CF := fun u => spec_fmtN n d t u (by omega) (by omega) (by omega) (by omega)
      clear HN HL h0
      go_enter Try.func161, Try.ntmps161
      have hO := Own.nil w
      go_wp2_with (first
        | ((with_reducible refine (CF _).mono ?_); rintro e u ⟨rfl, hb⟩; (replace hO := hO.step hb; clear hb))
        | ((with_reducible refine wpl_box ?_); refine wpList_box_own rfl (by rfl) hO rfl rfl (fun b => by simp only [Act.put, zA, zB, zC]; rfl) ?_; (refine nm 0 rfl ?_; clear hO; intro b0 u hO); simp only [zL, zK] at hO)
        | ((with_reducible refine wpl_load ?_); refine wpList_load_box rfl (by rfl) hO rfl _ (by exact at0) (by rfl) (by simp only [Act.put, zA, zB, zC]; rfl) ?_)
        | ((with_reducible refine wpl_load ?_); refine wpList_load_field rfl (by rfl) hO rfl _ (by exact at0) (by rfl) (by simp only [Act.put, zA, zB, zC]; rfl) ?_)
        | fail)
      go_ret
      exact ⟨ret_str HE.out.symm, hO.below⟩
    · clear HN HL h0
      go_enter Try.func161, Try.ntmps161
      have hO := Own.nil w
      go_wp2_with (first
        | ((with_reducible refine (CQ _).mono ?_); rintro e u ⟨rfl, hb⟩; subst hb)
        | ((with_reducible refine wpl_box ?_); refine wpList_box_own rfl (by rfl) hO rfl rfl (fun b => by simp only [Act.put, zA, zB, zC]; rfl) ?_; (refine nm 0 rfl ?_; clear hO; intro b0 u hO); simp only [zL, zK] at hO)
        | ((with_reducible refine wpl_load ?_); refine wpList_load_field rfl (by rfl) hO rfl _ (by exact at0) (by rfl) (by simp only [Act.put, zA, zB, zC]; rfl) ?_)
        | fail)
      go_ret
      exact ⟨ret_str HE.out.symm, hO.below⟩

/-- texts put together, ', ' between them -/
def jnB (l : List ByteArray) : Nat → ByteArray
  | 0 => ⟨#[]⟩
  | m + 1 => ((if m = 0 then jnB l m else (jnB l m ++ ⟨#[44, 32]⟩ : ByteArray)) ++ l.getD m ⟨#[]⟩ : ByteArray)
theorem jnB_size (l : List ByteArray) : ∀ m, m ≤ l.length → (jnB l m).size ≤ 2 * m + stz (l.take m)
  | 0, _ => Nat.zero_le _
  | m + 1, h => by
    have ih := jnB_size l m (by omega)
    have h1 := stz_take_succ (l := l) (k := m) h
    have h2 : l.getD m ⟨#[]⟩ = l[m] := by simp [List.getD_eq_getElem?_getD, show m < l.length from h]
    have h3 : (⟨#[44, 32]⟩ : ByteArray).size = 2 := rfl
    show ((if m = 0 then jnB l m else (jnB l m ++ ⟨#[44, 32]⟩ : ByteArray)) ++ l.getD m ⟨#[]⟩ : ByteArray).size ≤ _
    rw [ba_size, h2]
    split
    · omega
    · rw [ba_size]
      omega

set_option maxRecDepth 20000 in
theorem impl_joinT (A : Option Addr) (c : Nat) (l : List ByteArray) (w : World) (h : Sl w 1 A l.length (stc l)) (hn : l.length ≤ 1048576) (hz : stz l ≤ 1000000000000) :
    Calls Try.prog 202 #[.slice A l.length c, .string ⟨#[44, 32]⟩] w fun e w' => e = .returned (.string (jnB l l.length)) ∧ Below w.heap.size w w' := by
  have HZ : Hid (∀ m, m ≤ l.length → (jnB l m).size ≤ 2000000 * 2 + 1000000000000) := Lib.hid (fun m hm => by
    have h1 := jnB_size l m hm
    have h2 := stz_take_le l m
    omega)
  have HX : Hid (∀ m (hm : m < l.length), l[m].size ≤ 1000000000000) := Lib.hid (fun m hm => by
    have := stz_mem hm
    omega)
  clear hz
  go_enter Try.func202, Try.ntmps202
  have hO := Own.nil w
  go_wp2_with (first
    | ((with_reducible refine wpl_alloc ?_); refine wpList_alloc_own rfl (by rfl) hO rfl (fun b => by simp only [Act.put, zA, zB, zC]; rfl) ?_; (first | (refine nm 0 rfl ?_; clear hO; intro b0 u hO) | (refine nm 1 rfl ?_; clear hO; intro b1 u hO)); simp only [zL, zK] at hO)
    | ((with_reducible refine wpl_box ?_); refine wpList_box_own rfl (by rfl) hO rfl rfl (fun b => by simp only [Act.put, zA, zB, zC]; rfl) ?_; (first | (refine nm 0 rfl ?_; clear hO; intro b0 u hO) | (refine nm 1 rfl ?_; clear hO; intro b1 u hO)); simp only [zL, zK] at hO)
    | ((with_reducible refine wpl_load ?_); refine wpList_load_box rfl (by (first | rfl | (simp only [Region.wanted, yielded, *]; go_simp; done) | (simp [Region.wanted, yielded, *]; done) | fail)) hO rfl _ (by (first | exact at0 | exact at1)) (by rfl) (by simp only [Act.put, zA, zB, zC]; rfl) ?_)
    | ((with_reducible refine wpl_load ?_); refine wpList_load_field rfl (by (first | rfl | (simp only [Region.wanted, yielded, *]; go_simp; done) | (simp [Region.wanted, yielded, *]; done) | fail)) hO rfl _ (by (first | exact at0 | exact at1)) (by rfl) (by simp only [Act.put, zA, zB, zC]; rfl) ?_)
    | ((with_reducible refine wpl_store ?_); refine wpList_store_box rfl (by rfl) hO rfl _ (by (first | exact at0 | exact at1)) rfl (by rfl) (by rfl) (by rfl) (by rfl) (by rfl) ?_; clear hO; intro u hO; simp only [zC, zB] at hO)
    | ((with_reducible refine wpl_store ?_); refine wpList_store_field rfl (by rfl) hO rfl _ (by (first | exact at0 | exact at1)) (zM rfl) (by simp only [Act.eval, zJ, zF, zD, zE, zP]; rfl) (by rfl) (by rfl) (by rfl) ?_; clear hO; intro u hO; simp only [zC, zB] at hO)
    | fail)
  go_loopw [5, 10] (fun s i u => ∃ (m : Nat), m ≤ l.length ∧ i = .int .i64 m ∧ s = .string (jnB l m) ∧ Own w [] u) (fun _ i _ => l.length - (intOf i).toNat)
  case atStart => exact ⟨0, Nat.zero_le _, rfl, rfl, hO⟩
  case round =>
    clear hO
    obtain ⟨m, hm, rfl, rfl, hO⟩ := hrel
    by_cases hlt : m < l.length
    · obtain ⟨b, off, rfl, hb, hc⟩ := h.tx hO.below hlt rfl
      have i1 : (m : Int) < (l.length : Int) := by omega
      have z1 := HZ.out m hm
      have z2 := HX.out m hlt
      have HJ : Hid (jnB l (m + 1) = ((if m = 0 then jnB l m else (jnB l m ++ ⟨#[44, 32]⟩ : ByteArray)) ++ l[m] : ByteArray)) := Lib.hid (by
        show ((if m = 0 then jnB l m else (jnB l m ++ ⟨#[44, 32]⟩ : ByteArray)) ++ l.getD m ⟨#[]⟩ : ByteArray) = _
        simp [List.getD_eq_getElem?_getD, hlt])
      obtain ⟨x, hx⟩ : ∃ x, l[m] = x := ⟨_, rfl⟩
      rw [hx] at hc HJ z2
      obtain ⟨s, hs⟩ : ∃ s, jnB l m = s := ⟨_, rfl⟩
      rw [hs] at HJ z1
      rw [hs]
      clear hx hs
      by_cases h0 : m = 0
      · have i2 : ¬ 0 < m := by omega
        have HJ2 : Hid (jnB l (m + 1) = (s ++ x : ByteArray)) := Lib.hid (by rw [HJ.out, if_pos h0])
        clear h0
        go_wp2_with fail
        go_roundw
        case rel => exact ⟨m + 1, by omega, by go_num, by rw [HJ2.out], hO⟩
        case measure => simp [intOf]; omega
      · have i2 : 0 < m := by omega
        have HJ2 : Hid (jnB l (m + 1) = (s ++ ⟨#[44, 32]⟩ ++ x : ByteArray)) := Lib.hid (by rw [HJ.out, if_neg h0])
        have z3 : (⟨#[44, 32]⟩ : ByteArray).size = 2 := rfl
        have z4 : (s ++ ⟨#[44, 32]⟩ : ByteArray).size = s.size + 2 := by rw [ba_size, z3]
        clear h0
        go_wp2_with fail
        go_roundw
        case rel => exact ⟨m + 1, by omega, by go_num, by rw [HJ2.out], hO⟩
        case measure => simp [intOf]; omega
    · have hmn : m = l.length := by omega
      subst hmn
      go_wp2_with (first
        | ((with_reducible refine wpl_alloc ?_); refine wpList_alloc_own rfl (by rfl) hO rfl (fun b => by simp only [Act.put, zA, zB, zC]; rfl) ?_; (first | (refine nm 0 rfl ?_; clear hO; intro b0 u hO) | (refine nm 1 rfl ?_; clear hO; intro b1 u hO)); simp only [zL, zK] at hO)
        | ((with_reducible refine wpl_box ?_); refine wpList_box_own rfl (by rfl) hO rfl rfl (fun b => by simp only [Act.put, zA, zB, zC]; rfl) ?_; (first | (refine nm 0 rfl ?_; clear hO; intro b0 u hO) | (refine nm 1 rfl ?_; clear hO; intro b1 u hO)); simp only [zL, zK] at hO)
        | ((with_reducible refine wpl_load ?_); refine wpList_load_box rfl (by (first | rfl | (simp only [Region.wanted, yielded, *]; go_simp; done) | (simp [Region.wanted, yielded, *]; done) | fail)) hO rfl _ (by (first | exact at0 | exact at1)) (by rfl) (by simp only [Act.put, zA, zB, zC]; rfl) ?_)
        | ((with_reducible refine wpl_load ?_); refine wpList_load_field rfl (by (first | rfl | (simp only [Region.wanted, yielded, *]; go_simp; done) | (simp [Region.wanted, yielded, *]; done) | fail)) hO rfl _ (by (first | exact at0 | exact at1)) (by rfl) (by simp only [Act.put, zA, zB, zC]; rfl) ?_)
        | ((with_reducible refine wpl_store ?_); refine wpList_store_box rfl (by rfl) hO rfl _ (by (first | exact at0 | exact at1)) rfl (by rfl) (by rfl) (by rfl) (by rfl) (by rfl) ?_; clear hO; intro u hO; simp only [zC, zB] at hO)
        | ((with_reducible refine wpl_store ?_); refine wpList_store_field rfl (by rfl) hO rfl _ (by (first | exact at0 | exact at1)) (zM rfl) (by simp only [Act.eval, zJ, zF, zD, zE, zP]; rfl) (by rfl) (by rfl) (by rfl) ?_; clear hO; intro u hO; simp only [zC, zB] at hO)
        | fail)
      go_ret
      exact ⟨rfl, hO.below⟩

end Go.Proofs.Ytmofcbpabdbjlaa
