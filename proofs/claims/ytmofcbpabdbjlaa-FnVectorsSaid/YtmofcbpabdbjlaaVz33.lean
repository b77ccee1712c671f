/-
  What is proved: the names of combined elements (combinedName, l4Name), the kind of a part in a combination (listKind).
  Condition: texts of size at most 1048576.
-/
import Derived.Deep.Cut
import Derived.Test.YtmofcbpabdbjlaaVz6
import Derived.Test.YtmofcbpabdbjlaaVz32
namespace Go.Proofs.Ytmofcbpabdbjlaa

set_option maxRecDepth 8000

open Go.RowKit Go.ChangeShapes Go.WideShapes Go.Deep

set_option linter.unusedVariables false

set_option linter.unusedSimpArgs false

/-- the name of element k of n of a part with a label -/
def nmC (lab : ByteArray) (ns : List ByteArray) (n k : Nat) : ByteArray :=
  if za0 lab then ns.getD k ⟨#[]⟩ else if za0 (ns.getD k ⟨#[]⟩) = false then (lab ++ ⟨#[46]⟩ ++ ns.getD k ⟨#[]⟩ : ByteArray) else if n = 1 then lab else (lab ++ bstr (fmtI ((k : Int) + 1)) : ByteArray)

theorem nmC_size {lab : ByteArray} {ns : List ByteArray} {n k z : Nat} (h1 : lab.size ≤ z) (h2 : (ns.getD k ⟨#[]⟩).size ≤ z) (hk : (k : Int) ≤ 1000000) : (nmC lab ns n k).size ≤ 2 * z + 21 := by
  have h3 := fmtI_le ((k : Int) + 1) (by omega) (by omega)
  have h4 : (⟨#[46]⟩ : ByteArray).size = 1 := rfl
  unfold nmC
  split
  · omega
  · split
    · simp only [ByteArray.size_append]
      omega
    · split
      · omega
      · simp only [ByteArray.size_append]
        omega

theorem getD_len {ns : List ByteArray} {k z : Nat} (h : ∀ s ∈ ns, s.size ≤ z) : (ns.getD k ⟨#[]⟩).size ≤ z := by
  rw [List.getD_eq_getElem?_getD]
  cases hq : ns[k]? with
  | none => exact Nat.zero_le _
  | some x => exact h x (List.mem_of_getElem? hq)

theorem emptyB_no {s : ByteArray} (h : za0 s = false) : ¬ s.toList = [] := fun h2 => by
  rw [zay.2 h2] at h
  cases h

theorem impl_listKind (k : Int) (w : World) : Calls Try.prog 124 #[.int .i64 k] w fun e w' => e = .returned (.int .i64 (if k = 5 then 4 else k)) ∧ Below w.heap.size w w' := by
  by_cases h : k = 5
  · subst h
    go_enter Try.func124, Try.ntmps124
    have hO := Own.nil w
    go_wp2_with (first | ((with_reducible refine zac ?_); refine zal rfl hO rfl ?_; (first | (refine nm 0 rfl ?_; clear hO; intro b0 u hO)); simp only [zL, zK] at hO) | ((with_reducible refine zaf ?_); refine zbx rfl hO rfl rfl ?_; (first | (refine nm 0 rfl ?_; clear hO; intro b0 u hO)); simp only [zL, zK] at hO) | fail)
    go_ret
    exact ⟨rfl, hO.below⟩
  · have h2 : (k == 5) = false := by simp [h]
    have HE : Hid ((if k = 5 then 4 else k) = k) := Lib.hid (if_neg h)
    rw [HE.out]
    go_enter Try.func124, Try.ntmps124
    have hO := Own.nil w
    go_wp2_with (first | ((with_reducible refine zac ?_); refine zal rfl hO rfl ?_; (first | (refine nm 0 rfl ?_; clear hO; intro b0 u hO)); simp only [zL, zK] at hO) | ((with_reducible refine zaf ?_); refine zbx rfl hO rfl rfl ?_; (first | (refine nm 0 rfl ?_; clear hO; intro b0 u hO)); simp only [zL, zK] at hO) | fail)
    go_ret
    exact ⟨rfl, hO.below⟩

theorem impl_nameAt (v0 v1 v2 v4 v5 v6 v7 : Value) (An : Option Addr) (cn : Nat) (ns : List ByteArray) (i : Nat) (w : World) (h : Sl w 1 An ns.length (stc ns)) (hn : ns.length ≤ 1048576) :
    Calls Try.prog 180 #[.agg #[v0, v1, v2, .slice An ns.length cn, v4, v5, v6, v7], .int .i64 (i : Int)] w fun e w' => e = .returned (.string (ns.getD i ⟨#[]⟩)) ∧ Below w.heap.size w w' := by
  by_cases hi : i < ns.length
  · obtain ⟨b, off, rfl, hb, hc⟩ := h.tx (Below.refl _ _) hi rfl
    have HE : Hid (ns.getD i ⟨#[]⟩ = ns[i]) := Lib.hid (by simp [List.getD_eq_getElem?_getD, hi])
    rw [HE.out]
    obtain ⟨x, hx⟩ : ∃ x, ns[i] = x := ⟨_, rfl⟩
    rw [hx] at hc ⊢
    have i1 : (i : Int) < (ns.length : Int) := by omega
    clear HE hx h hi
    go_enter Try.func180, Try.ntmps180
    have hO := Own.nil w
    go_upto_region 2 with (first | ((with_reducible refine zaf ?_); refine zbx rfl hO rfl rfl ?_; (refine nm 0 rfl ?_; clear hO; intro b0 u hO); simp only [zL, zK] at hO) | ((with_reducible refine zaa ?_); refine zlf rfl hO rfl _ (by exact at0) ?_) | fail)
    have e0 := (hO.old hb).trans hc
    go_wp2_with (first | ((with_reducible refine zaa ?_); refine zlf rfl hO rfl _ (by exact at0) ?_) | fail)
    go_ret
    exact ⟨rfl, hO.below⟩
  · have HE : Hid (ns.getD i ⟨#[]⟩ = ⟨#[]⟩) := Lib.hid (by simp [List.getD_eq_getElem?_getD, hi])
    rw [HE.out]
    have i1 : ¬ (i : Int) < (ns.length : Int) := by omega
    clear HE h hi
    go_enter Try.func180, Try.ntmps180
    have hO := Own.nil w
    go_wp2_with (first | ((with_reducible refine zaf ?_); refine zbx rfl hO rfl rfl ?_; (refine nm 0 rfl ?_; clear hO; intro b0 u hO); simp only [zL, zK] at hO) | ((with_reducible refine zaa ?_); refine zlf rfl hO rfl _ (by exact at0) ?_) | fail)
    go_ret
    exact ⟨rfl, hO.below⟩

theorem impl_cname (k : Int) (Ai Ap An : Option Addr) (ni np ci cp cn : Nat) (v4 v5 v6 v7 : Value) (ns : List ByteArray) (lab : ByteArray) (i n : Nat) (w : World) (h : Sl w 1 An ns.length (stc ns)) (hn : ns.length ≤ 1048576) (hs : (ns.getD i ⟨#[]⟩).size ≤ 1048576) (hl : lab.size ≤ 1048576) (hi : i ≤ 1000) (hL : lenN k ni np = n) (hx : (ni : Int) + np ≤ 9223372036854775807) :
    Calls Try.prog 125 #[.agg #[.int .i64 k, .slice Ai ni ci, .slice Ap np cp, .slice An ns.length cn, v4, v5, v6, v7], .int .i64 (i : Int), .string lab] w fun e w' => e = .returned (.string (nmC lab ns n i)) ∧ Below w.heap.size w w' := by
  have CN := fun u (hb : Below w.heap.size w u) => impl_nameAt (.int .i64 k) (.slice Ai ni ci) (.slice Ap np cp) v4 v5 v6 v7 An cn ns i u (h.below hb) hn
  have CL := fun u => impl_length k Ai Ap ni np ci cp (.slice An ns.length cn) v4 v5 v6 v7 u hx
  rw [hL] at CL
  have HE : Hid (nmC lab ns n i = if za0 lab then ns.getD i ⟨#[]⟩ else if za0 (ns.getD i ⟨#[]⟩) = false then (lab ++ ⟨#[46]⟩ ++ ns.getD i ⟨#[]⟩ : ByteArray) else if n = 1 then lab else (lab ++ bstr (fmtI ((i : Int) + 1)) : ByteArray)) := Lib.hid rfl
  obtain ⟨own, ho⟩ : ∃ o, ns.getD i ⟨#[]⟩ = o := ⟨_, rfl⟩
  rw [ho] at CN HE hs
  have CF := fun u => impl_fmt ((i : Int) + 1) u (by omega) (by omega)
  have hfl := fmtI_le ((i : Int) + 1) (by omega) (by omega)
  obtain ⟨f, hf⟩ : ∃ f, bstr (fmtI ((i : Int) + 1)) = f := ⟨_, rfl⟩
  rw [hf] at CF HE hfl
  clear h hn hx hL ho hf
  cases he : za0 lab with
  | true =>
    have e1 := zay.1 he
    have e2 : lab.toList.isEmpty = true := by simp [e1]
    have HF : Hid (nmC lab ns n i = own) := Lib.hid (by rw [HE.out, he]; rfl)
    clear he
    go_enter Try.func125, Try.ntmps125
    have hO := Own.nil w
    go_wp2_with (first | ((with_reducible refine (CN _ hO.below).mono ?_); rintro e u ⟨rfl, hb⟩; (replace hO := hO.step hb; clear hb)) | ((with_reducible refine zaf ?_); refine zbx rfl hO rfl rfl ?_; (refine nm 0 rfl ?_; clear hO; intro b0 u hO); simp only [zL, zK] at hO) | ((with_reducible refine zaa ?_); refine zlb rfl hO rfl _ (by exact at0) ?_) | fail)
    go_ret
    exact ⟨za9 HF.out.symm, hO.below⟩
  | false =>
    have e1 := emptyB_no he
    have e2 : lab.toList.isEmpty = false := by simp [e1]
    cases hq : za0 own with
    | false =>
      have f1 := emptyB_no hq
      have f2 : (!own.toList.isEmpty) = true := by simp [f1]
      have HF : Hid (nmC lab ns n i = (lab ++ ⟨#[46]⟩ ++ own : ByteArray)) := Lib.hid (by rw [HE.out, he, hq]; rfl)
      clear he hq
      go_enter Try.func125, Try.ntmps125
      have hO := Own.nil w
      go_wp2_with (first | ((with_reducible refine (CN _ hO.below).mono ?_); rintro e u ⟨rfl, hb⟩; (replace hO := hO.step hb; clear hb)) | ((with_reducible refine zaf ?_); refine zbx rfl hO rfl rfl ?_; (refine nm 0 rfl ?_; clear hO; intro b0 u hO); simp only [zL, zK] at hO) | ((with_reducible refine zaa ?_); refine zlb rfl hO rfl _ (by exact at0) ?_) | fail)
      go_ret
      exact ⟨za9 HF.out.symm, hO.below⟩
    | true =>
      have f1 := zay.1 hq
      have f2 : (!own.toList.isEmpty) = false := by simp [f1]
      by_cases h1 : n = 1
      · subst h1
        have HF : Hid (nmC lab ns 1 i = lab) := Lib.hid (by rw [HE.out, he, hq]; rfl)
        clear he hq
        go_enter Try.func125, Try.ntmps125
        have hO := Own.nil w
        go_wp2_with (first | ((with_reducible refine (CN _ hO.below).mono ?_); rintro e u ⟨rfl, hb⟩; (replace hO := hO.step hb; clear hb)) | ((with_reducible refine (CL _).mono ?_); rintro e u ⟨rfl, hb⟩; (replace hO := hO.step hb; clear hb)) | ((with_reducible refine zaf ?_); refine zbx rfl hO rfl rfl ?_; (refine nm 0 rfl ?_; clear hO; intro b0 u hO); simp only [zL, zK] at hO) | ((with_reducible refine zaa ?_); refine zlb rfl hO rfl _ (by exact at0) ?_) | fail)
        go_ret
        exact ⟨za9 HF.out.symm, hO.below⟩
      · have h2 : ((n : Int) == 1) = false := by simp; omega
        have HF : Hid (nmC lab ns n i = (lab ++ f : ByteArray)) := Lib.hid (by rw [HE.out, he, hq, if_neg (by decide), if_neg (by decide), if_neg h1])
        clear he hq
        go_enter Try.func125, Try.ntmps125
        have hO := Own.nil w
        go_wp2_with (first | ((with_reducible refine (CN _ hO.below).mono ?_); rintro e u ⟨rfl, hb⟩; (replace hO := hO.step hb; clear hb)) | ((with_reducible refine (CL _).mono ?_); rintro e u ⟨rfl, hb⟩; (replace hO := hO.step hb; clear hb)) | ((with_reducible refine (CF _).mono ?_); rintro e u ⟨rfl, hb⟩; (replace hO := hO.step hb; clear hb)) | ((with_reducible refine zaf ?_); refine zbx rfl hO rfl rfl ?_; (refine nm 0 rfl ?_; clear hO; intro b0 u hO); simp only [zL, zK] at hO) | ((with_reducible refine zaa ?_); refine zlb rfl hO rfl _ (by exact at0) ?_) | fail)
        go_ret
        exact ⟨za9 HF.out.symm, hO.below⟩

theorem spec_name (k : Int) (Ai Ap An : Option Addr) (ni np ci cp cn : Nat) (v4 v5 v6 v7 : Value) (ns : List ByteArray) (lab : ByteArray) (i n : Nat) (w : World) (h : Sl w 1 An ns.length (stc ns)) (hn : ns.length ≤ 1048576) (hs : (ns.getD i ⟨#[]⟩).size ≤ 1048576) (hl : lab.size ≤ 1048576) (hi : i ≤ 1000) (hL : lenN k ni np = n) (hx : (ni : Int) + np ≤ 9223372036854775807) (hin : ns.length = 0 ∨ i < ns.length) :
    Calls Try.prog 123 #[.string lab, .agg #[.int .i64 k, .slice Ai ni ci, .slice Ap np cp, .slice An ns.length cn, v4, v5, v6, v7], .int .i64 (i : Int)] w fun e w' => e = .returned (.string (nmC lab ns n i)) ∧ Below w.heap.size w w' := by
  have CL := fun u => spec_len k Ai Ap ni np ci cp (.slice An ns.length cn) v4 v5 v6 v7 u hx
  rw [hL] at CL
  have HE : Hid (nmC lab ns n i = if za0 lab then ns.getD i ⟨#[]⟩ else if za0 (ns.getD i ⟨#[]⟩) = false then (lab ++ ⟨#[46]⟩ ++ ns.getD i ⟨#[]⟩ : ByteArray) else if n = 1 then lab else (lab ++ bstr (fmtI ((i : Int) + 1)) : ByteArray)) := Lib.hid rfl
  have HIN := Lib.hid hin
  have HTX : Hid (i < ns.length → ∃ b off, An = some ⟨b, off, none⟩ ∧ b < w.heap.size ∧ w.cell? ⟨b, off + i, none⟩ = some (.string (ns.getD i ⟨#[]⟩))) := Lib.hid (fun hi => by
    obtain ⟨b, off, e, hb, hc⟩ := h.tx (Below.refl _ _) hi rfl
    exact ⟨b, off, e, hb, by rw [hc]; simp [List.getD_eq_getElem?_getD, hi]⟩)
  have HO : Hid (ns.length = 0 → ns.getD i ⟨#[]⟩ = ⟨#[]⟩) := Lib.hid (fun h => by simp [List.getD_eq_getElem?_getD, h])
  obtain ⟨own, ho⟩ : ∃ o, ns.getD i ⟨#[]⟩ = o := ⟨_, rfl⟩
  rw [ho] at HE hs HTX HO
  have CF : ∀ u : World, Calls Try.prog 179 #[.int .i64 ((i : Int) + 1)] u fun e w' => e = .returned (.string (bstr (fmtI ((i : Int) + 1)))) ∧ Below u.heap.size u w' := fun u => (spec_fmt ((i : Int) + 1) u (by omega) (by omega)).mono fun e w' ⟨h1, h2⟩ => ⟨h1, h2 ▸ Below.refl _ _⟩
  have hfl := fmtI_le ((i : Int) + 1) (by omega) (by omega)
  obtain ⟨f, hf⟩ : ∃ f, bstr (fmtI ((i : Int) + 1)) = f := ⟨_, rfl⟩
  rw [hf] at CF HE hfl
  clear h hn hx hL ho hf hin
  go_enter Try.func123, Try.ntmps123
  have hO := Own.nil w
  go_upto_if 11 with (first | ((with_reducible refine zaf ?_); refine zbx rfl hO rfl rfl ?_; (refine nm 0 rfl ?_; clear hO; intro b0 u hO); simp only [zL, zK] at hO) | ((with_reducible refine zaa ?_); refine zlf rfl hO rfl _ (by exact at0) ?_) | fail)
  go_cut [7] from 8 (fun s u => s = .string own ∧ Own w [box b0 29 [.int .i64 k, .slice Ai ni ci, .slice Ap np cp, .slice An ns.length cn, v4, v5, v6, v7]] u)
  case first =>
    by_cases h0 : 0 < ns.length
    · have hlt : i < ns.length := by rcases HIN.out with h | h <;> omega
      obtain ⟨b, off, rfl, hb, hc⟩ := HTX.out hlt
      have i1 : (i : Int) < (ns.length : Int) := by omega
      have e0 := (hO.old hb).trans hc
      clear hlt hc hb
      go_wp2_with (first | ((with_reducible refine zaa ?_); refine zlf rfl hO rfl _ (by exact at0) ?_) | fail)
      go_meet
      case rel => exact ⟨rfl, hO⟩
    · have e := HO.out (by omega)
      subst e
      go_wp2_with fail
      go_meet
      case rel => exact ⟨rfl, hO⟩
  case rest =>
    clear hO HIN HTX HO
    obtain ⟨rfl, hO⟩ := hcut
    cases he : za0 lab with
    | true =>
      have e1 := zay.1 he
      have e2 : lab.toList.isEmpty = true := by simp [e1]
      have HF : Hid (nmC lab ns n i = own) := Lib.hid (by rw [HE.out, he]; rfl)
      clear he
      go_wp2_with fail
      go_ret
      exact ⟨za9 HF.out.symm, hO.below⟩
    | false =>
      have e1 := emptyB_no he
      have e2 : lab.toList.isEmpty = false := by simp [e1]
      cases hq : za0 own with
      | false =>
        have f1 := emptyB_no hq
        have f2 : (!own.toList.isEmpty) = true := by simp [f1]
        have HF : Hid (nmC lab ns n i = (lab ++ ⟨#[46]⟩ ++ own : ByteArray)) := Lib.hid (by rw [HE.out, he, hq]; rfl)
        clear he hq
        go_wp2_with fail
        go_ret
        exact ⟨za9 HF.out.symm, hO.below⟩
      | true =>
        have f1 := zay.1 hq
        have f2 : (!own.toList.isEmpty) = false := by simp [f1]
        by_cases h1 : n = 1
        · subst h1
          have HF : Hid (nmC lab ns 1 i = lab) := Lib.hid (by rw [HE.out, he, hq]; rfl)
          clear he hq
          go_wp2_with (first | ((with_reducible refine (CL _).mono ?_); rintro e u ⟨rfl, hb⟩; (replace hO := hO.step hb; clear hb)) | ((with_reducible refine zaa ?_); refine zlb rfl hO rfl _ (by exact at0) ?_) | fail)
          go_ret
          exact ⟨za9 HF.out.symm, hO.below⟩
        · have h2 : ((n : Int) == 1) = false := by simp; omega
          have HF : Hid (nmC lab ns n i = (lab ++ f : ByteArray)) := Lib.hid (by rw [HE.out, he, hq, if_neg (by decide), if_neg (by decide), if_neg h1])
          clear he hq
          go_wp2_with (first | ((with_reducible refine (CL _).mono ?_); rintro e u ⟨rfl, hb⟩; (replace hO := hO.step hb; clear hb)) | ((with_reducible refine (CF _).mono ?_); rintro e u ⟨rfl, hb⟩; (replace hO := hO.step hb; clear hb)) | ((with_reducible refine zaa ?_); refine zlb rfl hO rfl _ (by exact at0) ?_) | fail)
          go_ret
          exact ⟨za9 HF.out.symm, hO.below⟩

end Go.Proofs.Ytmofcbpabdbjlaa
