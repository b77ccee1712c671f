/-
  What is proved: what FormatNumber (of the program and of the reference) returns, and the statement on it; what a function that hands back an owned vector and one more value returns, cell by cell; more places of a list.
  Condition: items of 64-bit ints.
-/
import Derived.Deep.DrawnRows
import Derived.Test.YtmofcbpabdbjlaaVz3
import Derived.Test.YtmofcbpabdbjlaaVz5
import Derived.Test.YtmofcbpabdbjlaaVz6
import Derived.Test.YtmofcbpabdbjlaaVz8
import Derived.Test.YtmofcbpabdbjlaaVz14
import Derived.Test.YtmofcbpabdbjlaaVz19
namespace Go.Proofs.Ytmofcbpabdbjlaa

set_option maxRecDepth 8000

open Go.RowKit

set_option linter.unusedVariables false

set_option linter.unusedSimpArgs false

/-- the text of a number -/
def fmtN (n d : Int) (t : ByteArray) : ByteArray := if n = 0 ∧ d = 0 ∧ t = ⟨#[]⟩ then ⟨#[78, 65]⟩ else if za5 n d t = false then ⟨#[]⟩ else if d = 1 then bstr (fmtI n) else (bstr (fmtI n) ++ ⟨#[47]⟩ ++ bstr (fmtI d) : ByteArray)

theorem fmtI_le (n : Int) (h1 : -9223372036854775808 ≤ n) (h2 : n ≤ 9223372036854775807) : (bstr (fmtI n)).size ≤ 20 := by
  rw [bstr_size]
  have := dig_le 19 n.natAbs (by omega)
  unfold fmtI
  split
  · simp
  · split
    · simp; omega
    · omega

def nz (n d : Int) (t : ByteArray) : Prop := ¬ n = 0 ∨ (n = 0 ∧ ¬ d = 0) ∨ (n = 0 ∧ d = 0 ∧ ¬ t.toList = [])

theorem nz_not {n d : Int} {t : ByteArray} (h : nz n d t) : ¬ (n = 0 ∧ d = 0 ∧ t = ⟨#[]⟩) := by
  rintro ⟨rfl, rfl, rfl⟩
  rcases h with h | ⟨_, h⟩ | ⟨_, _, h⟩
  · exact h rfl
  · exact h rfl
  · exact h (by rw [ByteArray.toList_eq])

theorem itm_cases (n d : Int) (t : ByteArray) : (n = 0 ∧ d = 0 ∧ t = ⟨#[]⟩) ∨ (nz n d t ∧ za5 n d t = false) ∨ (nz n d t ∧ za5 n d t = true ∧ d = 1) ∨ (nz n d t ∧ za5 n d t = true ∧ ¬ d = 1) := by
  by_cases h : n = 0 ∧ d = 0 ∧ t = ⟨#[]⟩
  · exact .inl h
  · have hz : nz n d t := by
      unfold nz
      by_cases h1 : n = 0
      · by_cases h2 : d = 0
        · refine .inr (.inr ⟨h1, h2, fun ht => h ⟨h1, h2, ?_⟩⟩)
          rw [ByteArray.toList_eq] at ht
          cases t; rename_i a; cases a; simp_all
        · exact .inr (.inl ⟨h1, h2⟩)
      · exact .inl h1
    cases hn : za5 n d t
    · exact .inr (.inl ⟨hz, rfl⟩)
    · by_cases hd : d = 1
      · exact .inr (.inr (.inl ⟨hz, rfl, hd⟩))
      · exact .inr (.inr (.inr ⟨hz, rfl, hd⟩))

theorem fmtN_no {n d : Int} {t : ByteArray} (h : nz n d t) (hn : za5 n d t = false) : fmtN n d t = ⟨#[]⟩ := by unfold fmtN; rw [if_neg (nz_not h), if_pos hn]

theorem fmtN_one {n d : Int} {t : ByteArray} (h : nz n d t) (hn : za5 n d t = true) (hd : d = 1) : fmtN n d t = bstr (fmtI n) := by unfold fmtN; rw [if_neg (nz_not h), if_neg (by simp [hn]), if_pos hd]

theorem fmtN_two {n d : Int} {t : ByteArray} (h : nz n d t) (hn : za5 n d t = true) (hd : ¬ d = 1) : fmtN n d t = (bstr (fmtI n) ++ ⟨#[47]⟩ ++ bstr (fmtI d) : ByteArray) := by unfold fmtN; rw [if_neg (nz_not h), if_neg (by simp [hn]), if_neg hd]

theorem impl_fmtN (n d : Int) (t : ByteArray) (w : World) (h1 : -9223372036854775808 ≤ n) (h2 : n ≤ 9223372036854775807) (h3 : -9223372036854775808 ≤ d) (h4 : d ≤ 9223372036854775807) :
    Calls Try.prog 195 #[.agg #[.int .i64 n, .int .i64 d, .string t]] w fun e w' => e = .returned (.string (fmtN n d t)) ∧ Below w.heap.size w w' := by
  rcases itm_cases n d t with ⟨rfl, rfl, rfl⟩ | ⟨hz, hn⟩ | ⟨hz, hn, hd⟩ | ⟨hz, hn, hd⟩
  · go_enter Try.func195, Try.ntmps195
    have hO := Own.nil w
    go_wp2_with (first | ((with_reducible refine zaf ?_); refine zbx rfl hO rfl rfl ?_; (refine nm 0 rfl ?_; clear hO; intro b0 u hO); simp only [zL, zK] at hO) | ((with_reducible refine zaa ?_); refine zlb rfl hO rfl _ (by exact at0) ?_) | fail)
    go_ret
    exact ⟨rfl, hO.below⟩
  · have HF := Lib.hid (fmtN_no hz hn)
    rcases hz with hz | ⟨rfl, hz⟩ | ⟨rfl, rfl, hz⟩
    all_goals
      go_enter Try.func195, Try.ntmps195
      have hO := Own.nil w
      go_wp2_with (first | ((with_reducible refine zaf ?_); refine zbx rfl hO rfl rfl ?_; (refine nm 0 rfl ?_; clear hO; intro b0 u hO); simp only [zL, zK] at hO) | ((with_reducible refine zaa ?_); refine zlb rfl hO rfl _ (by exact at0) ?_) | fail)
      refine (impl_isnum _ _ _ _).mono ?_
      rintro e u ⟨rfl, hb⟩
      (replace hO := hO.step hb; clear hb)
      rw [hn]
      go_wp2_with fail
      go_ret
      exact ⟨za9 HF.out.symm, hO.below⟩
  · have HF := Lib.hid (fmtN_one hz hn hd)
    have hd2 : (d == 1) = true := by simp [hd]
    rcases hz with hz | ⟨rfl, hz⟩ | ⟨rfl, rfl, hz⟩
    all_goals
      clear hd
      go_enter Try.func195, Try.ntmps195
      have hO := Own.nil w
      go_wp2_with (first | ((with_reducible refine zaf ?_); refine zbx rfl hO rfl rfl ?_; (refine nm 0 rfl ?_; clear hO; intro b0 u hO); simp only [zL, zK] at hO) | ((with_reducible refine zaa ?_); refine zlb rfl hO rfl _ (by exact at0) ?_) | fail)
      refine (impl_isnum _ _ _ _).mono ?_
      rintro e u ⟨rfl, hb⟩
      (replace hO := hO.step hb; clear hb)
      rw [hn]
      go_wp2_with (first | ((with_reducible refine zaa ?_); refine zlf rfl hO rfl _ (by exact at0) ?_) | fail)
      refine (impl_fmt _ _ (by omega) (by omega)).mono ?_
      rintro e u ⟨rfl, hb⟩
      (replace hO := hO.step hb; clear hb)
      go_wp2_with fail
      go_ret
      exact ⟨za9 HF.out.symm, hO.below⟩
  · have HF := Lib.hid (fmtN_two hz hn hd)
    have hd2 : (d == 1) = false := by simp [hd]
    have z2 := fmtI_le d h3 h4
    have z1 := fmtI_le n h1 h2
    rcases hz with hz | ⟨rfl, hz⟩ | ⟨rfl, rfl, hz⟩
    all_goals
      go_enter Try.func195, Try.ntmps195
      have hO := Own.nil w
      go_wp2_with (first | ((with_reducible refine zaf ?_); refine zbx rfl hO rfl rfl ?_; (refine nm 0 rfl ?_; clear hO; intro b0 u hO); simp only [zL, zK] at hO) | ((with_reducible refine zaa ?_); refine zlb rfl hO rfl _ (by exact at0) ?_) | fail)
      refine (impl_isnum _ _ _ _).mono ?_
      rintro e u ⟨rfl, hb⟩
      (replace hO := hO.step hb; clear hb)
      rw [hn]
      go_wp2_with (first | ((with_reducible refine zaa ?_); refine zlf rfl hO rfl _ (by exact at0) ?_) | fail)
      refine J.wp_region_c (n := 23) [0, 1, 2, 3, 4, 5, 6, 7, 8] [] (deps := fun i => [[], [0], [0, 1], [0, 1, 2], [], [4], [4, 5], [0, 1, 2, 3, 4, 5, 6], [0, 1, 2, 3, 4, 5, 6, 7]].getD i []) (fun _ _ _ => True) (r := 0) (lst := #[true, true, true, true, true, true, true, true, true]) (by kernel_rfl) (by kernel_rfl) (by kernel_rfl) rfl (by decide) (by kernel_rfl) hO ?_
      refine zcp (h := ?_)
      refine zcc (f := fun M u hO K hK => by (exact zad hO rfl rfl _ (by exact at0) (by rfl) (by rfl) (hK _ hO))) (h := ?_)
      refine zcc (f := fun M u hO K hK => by (simp only [wp_at_zero, wp_at_succ]; go_step; refine (impl_fmt _ _ (by omega) (by omega)).mono ?_; rintro e u ⟨rfl, hb⟩; exact hK _ (hO.step hb))) (h := ?_)
      refine zcp (h := ?_)
      refine zcp (h := ?_)
      refine zcc (f := fun M u hO K hK => by (exact zad hO rfl rfl _ (by exact at0) (by rfl) (by rfl) (hK _ hO))) (h := ?_)
      refine zcc (f := fun M u hO K hK => by (simp only [wp_at_zero, wp_at_succ]; go_step; refine (impl_fmt _ _ (by omega) (by omega)).mono ?_; rintro e u ⟨rfl, hb⟩; exact hK _ (hO.step hb))) (h := ?_)
      refine zcp (h := ?_)
      refine zcp (h := ?_)
      refine J.Chain.nil ⟨?_, ?_⟩
      · exact J.Each.nil
      intro vs u hO hF
      clear hF
      simp only [List.flatMap_cons, List.flatMap_nil, List.append_nil, zL, zK] at hO
      simp only [J.putL]
      clear vs
      refine wpAny_done (by kernel_rfl) ?_ _
      go_wp2_with fail
      go_ret
      exact ⟨za9 HF.out.symm, hO.below⟩

theorem spec_fmtN (n d : Int) (t : ByteArray) (w : World) (h1 : -9223372036854775808 ≤ n) (h2 : n ≤ 9223372036854775807) (h3 : -9223372036854775808 ≤ d) (h4 : d ≤ 9223372036854775807) :
    Calls Try.prog 149 #[.agg #[.int .i64 n, .int .i64 d, .string t]] w fun e w' => e = .returned (.string (fmtN n d t)) ∧ Below w.heap.size w w' := by
  rcases itm_cases n d t with ⟨rfl, rfl, rfl⟩ | ⟨hz, hn⟩ | ⟨hz, hn, hd⟩ | ⟨hz, hn, hd⟩
  · go_enter Try.func149, Try.ntmps149
    have hO := Own.nil w
    go_wp2_with (first | ((with_reducible refine zaf ?_); refine zbx rfl hO rfl rfl ?_; (refine nm 0 rfl ?_; clear hO; intro b0 u hO); simp only [zL, zK] at hO) | ((with_reducible refine zaa ?_); refine zlb rfl hO rfl _ (by exact at0) ?_) | fail)
    go_ret
    exact ⟨rfl, hO.below⟩
  · have HF := Lib.hid (fmtN_no hz hn)
    rcases hz with hz | ⟨rfl, hz⟩ | ⟨rfl, rfl, hz⟩
    all_goals
      go_enter Try.func149, Try.ntmps149
      have hO := Own.nil w
      go_wp2_with (first | ((with_reducible refine zaf ?_); refine zbx rfl hO rfl rfl ?_; (refine nm 0 rfl ?_; clear hO; intro b0 u hO); simp only [zL, zK] at hO) | ((with_reducible refine zaa ?_); refine zlb rfl hO rfl _ (by exact at0) ?_) | fail)
      refine (spec_isnum _ _ _ _).mono ?_
      rintro e u ⟨rfl, hb⟩
      (replace hO := hO.step hb; clear hb)
      rw [hn]
      go_wp2_with fail
      go_ret
      exact ⟨za9 HF.out.symm, hO.below⟩
  · have HF := Lib.hid (fmtN_one hz hn hd)
    have hd2 : (d == 1) = true := by simp [hd]
    rcases hz with hz | ⟨rfl, hz⟩ | ⟨rfl, rfl, hz⟩
    all_goals
      clear hd
      go_enter Try.func149, Try.ntmps149
      have hO := Own.nil w
      go_wp2_with (first | ((with_reducible refine zaf ?_); refine zbx rfl hO rfl rfl ?_; (refine nm 0 rfl ?_; clear hO; intro b0 u hO); simp only [zL, zK] at hO) | ((with_reducible refine zaa ?_); refine zlb rfl hO rfl _ (by exact at0) ?_) | fail)
      refine (spec_isnum _ _ _ _).mono ?_
      rintro e u ⟨rfl, hb⟩
      (replace hO := hO.step hb; clear hb)
      rw [hn]
      go_wp2_with (first | ((with_reducible refine zaa ?_); refine zlf rfl hO rfl _ (by exact at0) ?_) | fail)
      refine (spec_fmt _ _ (by omega) (by omega)).mono ?_
      rintro e u ⟨rfl, hb⟩
      subst hb
      go_wp2_with fail
      go_ret
      exact ⟨za9 HF.out.symm, hO.below⟩
  · have HF := Lib.hid (fmtN_two hz hn hd)
    have hd2 : (d == 1) = false := by simp [hd]
    have z2 := fmtI_le d h3 h4
    have z1 := fmtI_le n h1 h2
    rcases hz with hz | ⟨rfl, hz⟩ | ⟨rfl, rfl, hz⟩
    all_goals
      go_enter Try.func149, Try.ntmps149
      have hO := Own.nil w
      go_wp2_with (first | ((with_reducible refine zaf ?_); refine zbx rfl hO rfl rfl ?_; (refine nm 0 rfl ?_; clear hO; intro b0 u hO); simp only [zL, zK] at hO) | ((with_reducible refine zaa ?_); refine zlb rfl hO rfl _ (by exact at0) ?_) | fail)
      refine (spec_isnum _ _ _ _).mono ?_
      rintro e u ⟨rfl, hb⟩
      (replace hO := hO.step hb; clear hb)
      rw [hn]
      go_wp2_with (first | ((with_reducible refine zaa ?_); refine zlf rfl hO rfl _ (by exact at0) ?_) | fail)
      refine J.wp_region_c (n := 23) [0, 1, 2, 3, 4, 5, 6, 7, 8] [] (deps := fun i => [[], [0], [0, 1], [0, 1, 2], [], [4], [4, 5], [0, 1, 2, 3, 4, 5, 6], [0, 1, 2, 3, 4, 5, 6, 7]].getD i []) (fun _ _ _ => True) (r := 0) (lst := #[true, true, true, true, true, true, true, true, true]) (by kernel_rfl) (by kernel_rfl) (by kernel_rfl) rfl (by decide) (by kernel_rfl) hO ?_
      refine zcp (h := ?_)
      refine zcc (f := fun M u hO K hK => by (exact zad hO rfl rfl _ (by exact at0) (by rfl) (by rfl) (hK _ hO))) (h := ?_)
      refine zcc (f := fun M u hO K hK => by (simp only [wp_at_zero, wp_at_succ]; go_step; refine (spec_fmt _ _ (by omega) (by omega)).mono ?_; rintro e u ⟨rfl, hb⟩; (subst hb; exact hK _ hO))) (h := ?_)
      refine zcp (h := ?_)
      refine zcp (h := ?_)
      refine zcc (f := fun M u hO K hK => by (exact zad hO rfl rfl _ (by exact at0) (by rfl) (by rfl) (hK _ hO))) (h := ?_)
      refine zcc (f := fun M u hO K hK => by (simp only [wp_at_zero, wp_at_succ]; go_step; refine (spec_fmt _ _ (by omega) (by omega)).mono ?_; rintro e u ⟨rfl, hb⟩; (subst hb; exact hK _ hO))) (h := ?_)
      refine zcp (h := ?_)
      refine zcp (h := ?_)
      refine J.Chain.nil ⟨?_, ?_⟩
      · exact J.Each.nil
      intro vs u hO hF
      clear hF
      simp only [List.flatMap_cons, List.flatMap_nil, List.append_nil, zL, zK] at hO
      simp only [J.putL]
      clear vs
      refine wpAny_done (by kernel_rfl) ?_ _
      go_wp2_with fail
      go_ret
      exact ⟨za9 HF.out.symm, hO.below⟩

end Go.Proofs.Ytmofcbpabdbjlaa

namespace Go.Proofs.Ytmofcbpabdbjlaa

set_option maxRecDepth 8000

open Go.RowKit Go.ChangeShapes Go.WideShapes Go.Deep

set_option linter.unusedVariables false

set_option linter.unusedSimpArgs false

theorem at12 {α : Type} {x0 x1 x2 x3 x4 x5 x6 x7 x8 x9 x10 x11 x12 : α} {l : List α} : (x0 :: x1 :: x2 :: x3 :: x4 :: x5 :: x6 :: x7 :: x8 :: x9 :: x10 :: x11 :: x12 :: l)[12]? = some x12 := rfl

theorem at13 {α : Type} {x0 x1 x2 x3 x4 x5 x6 x7 x8 x9 x10 x11 x12 x13 : α} {l : List α} : (x0 :: x1 :: x2 :: x3 :: x4 :: x5 :: x6 :: x7 :: x8 :: x9 :: x10 :: x11 :: x12 :: x13 :: l)[13]? = some x13 := rfl

theorem at15 {α : Type} {x0 x1 x2 x3 x4 x5 x6 x7 x8 x9 x10 x11 x12 x13 x14 x15 : α} {l : List α} : (x0 :: x1 :: x2 :: x3 :: x4 :: x5 :: x6 :: x7 :: x8 :: x9 :: x10 :: x11 :: x12 :: x13 :: x14 :: x15 :: l)[15]? = some x15 := rfl

/-- hands back an owned vector, cell by cell, and a value -/
def RetVE (t : VT) (y : Value) (w : World) (e : Ending) (w' : World) : Prop := ∃ (Q1 Q2 Q3 Q4 Q5 : Option Addr) (m1 m2 m3 m4 m5 : Nat) (F : List Res), e = .returned (.tuple #[.agg #[.int .i64 t.kind, .slice Q1 t.items.length m1, .slice Q2 t.parts.length m2, .slice Q3 t.names.length m3, .slice Q4 t.cls.length m4, .slice Q5 t.levels.length m5, .int .i64 t.code, .int .i64 t.env], y]) ∧ VO t [.int .i64 t.kind, .slice Q1 t.items.length m1, .slice Q2 t.parts.length m2, .slice Q3 t.names.length m3, .slice Q4 t.cls.length m4, .slice Q5 t.levels.length m5, .int .i64 t.code, .int .i64 t.env] F ∧ Own w [pack F] w'

theorem RetVE.ofS {P : Program} {f : Nat} {args : Array Value} {u : World} {t : VT} {s : ByteArray} (h : Calls P f args u (RetVS t s u)) : Calls P f args u (RetVE t (.string s) u) := h.mono fun e w' ⟨vs, F, he, hvo, hO⟩ => by
  obtain ⟨Q1, Q2, Q3, Q4, Q5, m1, m2, m3, m4, m5, rfl⟩ := hvo.ex
  exact ⟨Q1, Q2, Q3, Q4, Q5, m1, m2, m3, m4, m5, F, he, hvo, hO⟩

/-- hands back an owned vector and a truth -/
def RetVB (t : VT) (s : Bool) (w : World) (e : Ending) (w' : World) : Prop := ∃ vs F, e = .returned (.tuple #[.agg vs.toArray, .bool s]) ∧ VO t vs F ∧ Own w [pack F] w'

theorem RetVE.ofB {P : Program} {f : Nat} {args : Array Value} {u : World} {t : VT} {s : Bool} (h : Calls P f args u (RetVB t s u)) : Calls P f args u (RetVE t (.bool s) u) := h.mono fun e w' ⟨vs, F, he, hvo, hO⟩ => by
  obtain ⟨Q1, Q2, Q3, Q4, Q5, m1, m2, m3, m4, m5, rfl⟩ := hvo.ex
  exact ⟨Q1, Q2, Q3, Q4, Q5, m1, m2, m3, m4, m5, F, he, hvo, hO⟩

end Go.Proofs.Ytmofcbpabdbjlaa
