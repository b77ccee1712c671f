/-
  What is proved: plain facts on arithmetic of vectors: results are valid vectors, the shorter operand is repeated. No program in sight; what FormatNumber (of the program and of the reference) returns, and the statement on it; what a function that hands back an owned vector and one more value returns, cell by cell; more places of a list.
  Condition: valid vectors; items of 64-bit ints.
-/
import Derived.Deep.DrawnRows
import Derived.Test.YtmofcbpabdbjlaaGreatMz2
import Derived.Test.YtmofcbpabdbjlaaGreatMz3
import Derived.Test.YtmofcbpabdbjlaaGreatMz4
import Derived.Test.YtmofcbpabdbjlaaGreatMz6
import Derived.Test.YtmofcbpabdbjlaaGreatMz9
import Derived.Test.YtmofcbpabdbjlaaGreatMz13
import Derived.Test.YtmofcbpabdbjlaaGreatMz14
import Derived.Test.YtmofcbpabdbjlaaGreatMz20
import Derived.Test.YtmofcbpabdbjlaaGreatMz24
import Derived.Test.YtmofcbpabdbjlaaGreatMz28
namespace Go.Proofs.YtmofcbpabdbjlaaGreat

set_option maxRecDepth 8000

set_option linter.unusedVariables false

set_option linter.unusedSimpArgs false

/-- a number, or none -/
def NzB (r : Int × Int) : Prop := r = (0, 0) ∨ Nm.isNum r.1 r.2 = true

theorem nz_mk (n d : Int) : NzB (Nm.mk n d) := by
  by_cases h : (Nm.mk n d).2 = 0
  · refine .inl ?_
    unfold Nm.mk at h ⊢
    by_cases h1 : d = 0 ∨ Nm.inL n = false ∨ Nm.inL d = false
    · rw [if_pos h1]
    · rw [if_neg h1] at h ⊢
      by_cases h2 : Nm.inM (Nm.red n d) = true
      · rw [if_pos h2] at h
        have := Nm.red_pos n d (fun e => h1 (.inl e))
        omega
      · rw [if_neg h2]
  · exact .inr (Nm.mk_ok h).2.1

theorem nz_op2 {n1 d1 n2 d2 : Int} {t1 t2 : ByteArray} {r : Int × Int} (h : NzB r) : NzB (op2 n1 d1 t1 n2 d2 t2 r) := by
  unfold op2
  split
  · exact h
  · exact .inl rfl

theorem nz_pow (n d : Int) (t : ByteArray) : ∀ k, NzB (powN n d t k)
  | 0 => .inr (show Nm.isNum 1 1 = true by decide)
  | k + 1 => nz_op2 (nz_mk _ _)

theorem nz_ar (k : Nat) (n1 d1 : Int) (t1 : ByteArray) (n2 d2 : Int) (t2 : ByteArray) : NzB (arV k n1 d1 t1 n2 d2 t2) := by
  unfold arV
  split
  · exact nz_op2 (nz_mk _ _)
  · exact nz_op2 (nz_mk _ _)
  · exact nz_op2 (nz_mk _ _)
  · exact nz_op2 (nz_mk _ _)
  · refine nz_op2 ?_
    split
    · unfold powV
      split
      · exact nz_op2 (nz_mk _ _)
      · exact nz_pow _ _ _ _
    · exact .inl rfl
  · refine nz_op2 ?_
    unfold remV
    split
    · exact .inl rfl
    · exact nz_mk _ _
  · refine nz_op2 ?_
    unfold quotV
    split
    · exact .inl rfl
    · exact nz_mk _ _

theorem arF_ok (op : ByteArray) (x y : It) : itemB 2 (arF op x y) = true := by
  have h := nz_ar (opK op) x.num x.den x.text y.num y.den y.text
  unfold itemB
  rw [if_neg (by decide), if_pos rfl]
  unfold arF
  rcases h with h | h
  · rw [h]
    simp [misB]
  · rw [Bool.or_eq_true]
    refine .inr ?_
    unfold isNumI
    simp only [h, Bool.and_true]
    simp

theorem num00 : zas (0, 0).1 (0, 0).2 ⟨#[]⟩ = false := by simp [zas, Nm.isNum]

theorem nums_no {x : It} (h : x.den = 0) : zas x.num x.den x.text = false := by
  unfold zas Nm.isNum
  rw [h]
  simp

/-- what arithmetic knows when it answers -/
structure ArOk (op : ByteArray) (a b : VT) : Prop where
  va : isV a = true
  vb : isV b = true
  ko : opK op < 7
  ka : cntK a.kind a.levels.length = true
  kb : cntK b.kind b.levels.length = true
  rb : recB a.items.length b.items.length = true

theorem ar_ok {op : ByteArray} {a b : VT} (h : arS op a b = ⟨#[]⟩) : ArOk op a b ∧ arT op a b = twoT 2 (arF op) a b := by
  unfold arS at h
  split at h
  · rename_i h1
    rw [Bool.and_eq_true] at h1
    split at h
    · rename_i h2
      split at h
      · rename_i h3
        rw [Bool.and_eq_true] at h3
        split at h
        · rename_i h4
          refine ⟨⟨h1.1, h1.2, h2, h3.1, h3.2, h4⟩, ?_⟩
          unfold arT
          rw [h1.1, h1.2, h3.1, h3.2, h4, if_pos h2]
          rfl
        · exact absurd h (by decide)
      · exact absurd h (by decide)
    · exact absurd h (by decide)
  · exact absurd h (by decide)

theorem cnt_form {t : VT} (hv : isV t = true) (hc : cntK t.kind t.levels.length = true) : (t.kind = 0 ∨ t.kind = 1 ∨ t.kind = 2) ∧ t.levels = [] ∧ t.parts = [] ∧ lenV t = t.items.length ∧ t.items.length ≤ 40 ∧ (t.names = [] ∨ t.names.length = t.items.length ∧ allE t.names = false) ∧ zbk t.names = true ∧ (∀ x ∈ t.items, itemB t.kind x = true) ∧ (t.kind = 0 → t.items = []) := by
  obtain ⟨k, is, ps, ns, cs, ls, c, e⟩ := t
  have hc : cntK k ls.length = true := hc
  have hk : k = 0 ∨ k = 1 ∨ (k = 2 ∧ ls.length = 0) := by
    unfold cntK at hc
    simp only [Bool.or_eq_true, Bool.and_eq_true, decide_eq_true_eq] at hc
    rcases hc with (h | h) | h
    · exact .inl h
    · exact .inr (.inl h)
    · exact .inr (.inr h)
  have hf := node_facts (isV_node hv)
  have hi : ∀ x ∈ is, itemB k x = true := fun x hx => by
    have h3 := hf.2.2.2.2.2.2.1 x hx
    unfold itB at h3
    simp only [Bool.and_eq_true] at h3
    exact h3.1.2
  have hp : ps = [] := by
    rcases hf.2.2.2.2.2.2.2.1 with h | h
    · exact List.length_eq_zero_iff.1 h
    · omega
  have hl : ls = [] := by
    rcases hf.2.2.2.2.2.2.2.2.2.1 with h | h
    · exact List.length_eq_zero_iff.1 h
    · rcases hk with h' | h' | h'
      · omega
      · omega
      · exact List.length_eq_zero_iff.1 h'.2
  subst hp hl
  have e1 : lenN k is.length 0 = is.length := by unfold lenN; rw [if_neg (by omega)]; rfl
  rw [show ([] : List VT).length = 0 from rfl, e1] at hf
  refine ⟨by show k = 0 ∨ k = 1 ∨ k = 2; omega, rfl, rfl, e1, hf.2.1, ?_, hf.2.2.2.2.2.1, hi, fun h0 => List.length_eq_zero_iff.1 (hf.2.2.2.2.2.2.2.2.2.2.2 h0).1⟩
  rcases hf.2.2.1 with h | h
  · exact .inl (List.length_eq_zero_iff.1 h)
  · exact .inr h

theorem two_ok {op : ByteArray} {a b : VT} (h : ArOk op a b) : isV (twoT 2 (arF op) a b) = true := by
  have fa := cnt_form h.va h.ka
  have fb := cnt_form h.vb h.kb
  have hn := recN_le (m := a.items.length) (n := b.items.length) (k := 40) fa.2.2.2.2.1 fb.2.2.2.2.1
  unfold twoT
  refine isV_vecN (by decide) (by decide) (by rw [pwL_len]; exact hn) ?_ ?_ ?_
  · intro x hx
    unfold pwL at hx
    obtain ⟨i, _, rfl⟩ := List.mem_map.1 hx
    exact arF_ok _ _ _
  · rw [pwL_len]
    unfold nmQ
    split
    · rename_i hq
      rcases fa.2.2.2.2.2.1 with hz | hz
      · exact .inl hz
      · refine .inr ⟨?_, hz.2⟩
        rw [hz.1]
        exact fa.2.2.2.1.symm.trans hq.1
    · split
      · rename_i hq
        rcases fb.2.2.2.2.2.1 with hz | hz
        · exact .inl hz
        · refine .inr ⟨?_, hz.2⟩
          rw [hz.1]
          exact fb.2.2.2.1.symm.trans hq
      · exact .inl rfl
  · unfold nmQ
    split
    · exact fa.2.2.2.2.2.2.1
    · split
      · exact fb.2.2.2.2.2.2.1
      · rfl

theorem arT_ok (op : ByteArray) (a b : VT) : isV (arT op a b) = true := by
  by_cases h : arS op a b = ⟨#[]⟩
  · obtain ⟨h1, h2⟩ := ar_ok h
    rw [h2]
    exact two_ok h1
  · have : arT op a b = vecI 0 [] := by
      unfold arS at h
      unfold arT
      repeat' split
      all_goals first | rfl | (exfalso; apply h; simp_all; done)
    rw [this]
    decide

end Go.Proofs.YtmofcbpabdbjlaaGreat

namespace Go.Proofs.YtmofcbpabdbjlaaGreat

set_option maxRecDepth 8000

open Go.RowKit

set_option linter.unusedVariables false

set_option linter.unusedSimpArgs false

/-- the text of a number -/
def fmtN (n d : Int) (t : ByteArray) : ByteArray := if n = 0 ∧ d = 0 ∧ t = ⟨#[]⟩ then ⟨#[78, 65]⟩ else if zas n d t = false then ⟨#[]⟩ else if d = 1 then bstr (fmtI n) else (bstr (fmtI n) ++ ⟨#[47]⟩ ++ bstr (fmtI d) : ByteArray)

theorem fmtI_le (n : Int) (h1 : -9223372036854775808 ≤ n) (h2 : n ≤ 9223372036854775807) : (bstr (fmtI n)).size ≤ 20 := by
  rw [bstr_size]
  have := dig_le 19 n.natAbs (by omega)
  unfold fmtI
  split
  · simp
  · split
    · simp; omega
    · omega

def nz (n d : Int) (t : ByteArray) : Prop := ¬ n = 0 ∨ (n = 0 ∧ ¬ d = 0) ∨ (n = 0 ∧ d = 0 ∧ ¬ t.toList = [])

theorem nz_not {n d : Int} {t : ByteArray} (h : nz n d t) : ¬ (n = 0 ∧ d = 0 ∧ t = ⟨#[]⟩) := by
  rintro ⟨rfl, rfl, rfl⟩
  rcases h with h | ⟨_, h⟩ | ⟨_, _, h⟩
  · exact h rfl
  · exact h rfl
  · exact h (by rw [ByteArray.toList_eq])

theorem itm_cases (n d : Int) (t : ByteArray) : (n = 0 ∧ d = 0 ∧ t = ⟨#[]⟩) ∨ (nz n d t ∧ zas n d t = false) ∨ (nz n d t ∧ zas n d t = true ∧ d = 1) ∨ (nz n d t ∧ zas n d t = true ∧ ¬ d = 1) := by
  by_cases h : n = 0 ∧ d = 0 ∧ t = ⟨#[]⟩
  · exact .inl h
  · have hz : nz n d t := by
      unfold nz
      by_cases h1 : n = 0
      · by_cases h2 : d = 0
        · refine .inr (.inr ⟨h1, h2, fun ht => h ⟨h1, h2, ?_⟩⟩)
          rw [ByteArray.toList_eq] at ht
          cases t; rename_i a; cases a; simp_all
        · exact .inr (.inl ⟨h1, h2⟩)
      · exact .inl h1
    cases hn : zas n d t
    · exact .inr (.inl ⟨hz, rfl⟩)
    · by_cases hd : d = 1
      · exact .inr (.inr (.inl ⟨hz, rfl, hd⟩))
      · exact .inr (.inr (.inr ⟨hz, rfl, hd⟩))

theorem fmtN_no {n d : Int} {t : ByteArray} (h : nz n d t) (hn : zas n d t = false) : fmtN n d t = ⟨#[]⟩ := by unfold fmtN; rw [if_neg (nz_not h), if_pos hn]

theorem fmtN_one {n d : Int} {t : ByteArray} (h : nz n d t) (hn : zas n d t = true) (hd : d = 1) : fmtN n d t = bstr (fmtI n) := by unfold fmtN; rw [if_neg (nz_not h), if_neg (by simp [hn]), if_pos hd]

theorem fmtN_two {n d : Int} {t : ByteArray} (h : nz n d t) (hn : zas n d t = true) (hd : ¬ d = 1) : fmtN n d t = (bstr (fmtI n) ++ ⟨#[47]⟩ ++ bstr (fmtI d) : ByteArray) := by unfold fmtN; rw [if_neg (nz_not h), if_neg (by simp [hn]), if_neg hd]

theorem impl_fmtN (n d : Int) (t : ByteArray) (w : World) (h1 : -9223372036854775808 ≤ n) (h2 : n ≤ 9223372036854775807) (h3 : -9223372036854775808 ≤ d) (h4 : d ≤ 9223372036854775807) :
    Calls Tryz.prog 94 #[.agg #[.int .i64 n, .int .i64 d, .string t]] w fun e w' => e = .returned (.string (fmtN n d t)) ∧ Below w.heap.size w w' := by
  rcases itm_cases n d t with ⟨rfl, rfl, rfl⟩ | ⟨hz, hn⟩ | ⟨hz, hn, hd⟩ | ⟨hz, hn, hd⟩
  · go_enter Tryz.func94, Tryz.ntmps94
    have hO := Own.nil w
    go_wp2_with (first | ((with_reducible refine zad ?_); refine zbx rfl hO rfl rfl ?_; (refine nm 0 rfl ?_; clear hO; intro b0 u hO); simp only [zL, zK] at hO) | ((with_reducible refine zaa ?_); refine zlb rfl hO rfl _ (by exact at0) ?_) | fail)
    go_ret
    exact ⟨rfl, hO.below⟩
  · have HF := Lib.hid (fmtN_no hz hn)
    rcases hz with hz | ⟨rfl, hz⟩ | ⟨rfl, rfl, hz⟩
    all_goals
      go_enter Tryz.func94, Tryz.ntmps94
      have hO := Own.nil w
      go_wp2_with (first | ((with_reducible refine zad ?_); refine zbx rfl hO rfl rfl ?_; (refine nm 0 rfl ?_; clear hO; intro b0 u hO); simp only [zL, zK] at hO) | ((with_reducible refine zaa ?_); refine zlb rfl hO rfl _ (by exact at0) ?_) | fail)
      refine (zak _ _ _ _).mono ?_
      rintro e u ⟨rfl, hb⟩
      (replace hO := hO.step hb; clear hb)
      rw [hn]
      go_wp2_with fail
      go_ret
      exact ⟨ret_str HF.out.symm, hO.below⟩
  · have HF := Lib.hid (fmtN_one hz hn hd)
    have hd2 : (d == 1) = true := by simp [hd]
    rcases hz with hz | ⟨rfl, hz⟩ | ⟨rfl, rfl, hz⟩
    all_goals
      clear hd
      go_enter Tryz.func94, Tryz.ntmps94
      have hO := Own.nil w
      go_wp2_with (first | ((with_reducible refine zad ?_); refine zbx rfl hO rfl rfl ?_; (refine nm 0 rfl ?_; clear hO; intro b0 u hO); simp only [zL, zK] at hO) | ((with_reducible refine zaa ?_); refine zlb rfl hO rfl _ (by exact at0) ?_) | fail)
      refine (zak _ _ _ _).mono ?_
      rintro e u ⟨rfl, hb⟩
      (replace hO := hO.step hb; clear hb)
      rw [hn]
      go_wp2_with (first | ((with_reducible refine zaa ?_); refine zlf rfl hO rfl _ (by exact at0) ?_) | fail)
      refine (impl_fmt _ _ (by omega) (by omega)).mono ?_
      rintro e u ⟨rfl, hb⟩
      (replace hO := hO.step hb; clear hb)
      go_wp2_with fail
      go_ret
      exact ⟨ret_str HF.out.symm, hO.below⟩
  · have HF := Lib.hid (fmtN_two hz hn hd)
    have hd2 : (d == 1) = false := by simp [hd]
    have z2 := fmtI_le d h3 h4
    have z1 := fmtI_le n h1 h2
    rcases hz with hz | ⟨rfl, hz⟩ | ⟨rfl, rfl, hz⟩
    all_goals
      go_enter Tryz.func94, Tryz.ntmps94
      have hO := Own.nil w
      go_wp2_with (first | ((with_reducible refine zad ?_); refine zbx rfl hO rfl rfl ?_; (refine nm 0 rfl ?_; clear hO; intro b0 u hO); simp only [zL, zK] at hO) | ((with_reducible refine zaa ?_); refine zlb rfl hO rfl _ (by exact at0) ?_) | fail)
      refine (zak _ _ _ _).mono ?_
      rintro e u ⟨rfl, hb⟩
      (replace hO := hO.step hb; clear hb)
      rw [hn]
      go_wp2_with (first | ((with_reducible refine zaa ?_); refine zlf rfl hO rfl _ (by exact at0) ?_) | fail)
      refine J.wp_region_c (n := 23) [0, 1, 2, 3, 4, 5, 6, 7, 8] [] (deps := fun i => [[], [0], [0, 1], [0, 1, 2], [], [4], [4, 5], [0, 1, 2, 3, 4, 5, 6], [0, 1, 2, 3, 4, 5, 6, 7]].getD i []) (fun _ _ _ => True) (r := 0) (lst := #[true, true, true, true, true, true, true, true, true]) (by kernel_rfl) (by kernel_rfl) (by kernel_rfl) rfl (by decide) (by kernel_rfl) hO ?_
      refine zcp (h := ?_)
      refine zcc (f := fun M u hO K hK => by (exact zae hO rfl rfl _ (by exact at0) (by rfl) (by rfl) (hK _ hO))) (h := ?_)
      refine zcc (f := fun M u hO K hK => by (simp only [wp_at_zero, wp_at_succ]; go_step; refine (impl_fmt _ _ (by omega) (by omega)).mono ?_; rintro e u ⟨rfl, hb⟩; exact hK _ (hO.step hb))) (h := ?_)
      refine zcp (h := ?_)
      refine zcp (h := ?_)
      refine zcc (f := fun M u hO K hK => by (exact zae hO rfl rfl _ (by exact at0) (by rfl) (by rfl) (hK _ hO))) (h := ?_)
      refine zcc (f := fun M u hO K hK => by (simp only [wp_at_zero, wp_at_succ]; go_step; refine (impl_fmt _ _ (by omega) (by omega)).mono ?_; rintro e u ⟨rfl, hb⟩; exact hK _ (hO.step hb))) (h := ?_)
      refine zcp (h := ?_)
      refine zcp (h := ?_)
      refine J.Chain.nil ⟨?_, ?_⟩
      · exact J.Each.nil
      intro vs u hO hF
      clear hF
      simp only [List.flatMap_cons, List.flatMap_nil, List.append_nil, zL, zK] at hO
      simp only [J.putL]
      clear vs
      refine wpAny_done (by kernel_rfl) ?_ _
      go_upto_region 14 with fail
      go_ret
      exact ⟨ret_str HF.out.symm, hO.below⟩

theorem spec_fmtN (n d : Int) (t : ByteArray) (w : World) (h1 : -9223372036854775808 ≤ n) (h2 : n ≤ 9223372036854775807) (h3 : -9223372036854775808 ≤ d) (h4 : d ≤ 9223372036854775807) :
    Calls Tryz.prog 82 #[.agg #[.int .i64 n, .int .i64 d, .string t]] w fun e w' => e = .returned (.string (fmtN n d t)) ∧ Below w.heap.size w w' := by
  rcases itm_cases n d t with ⟨rfl, rfl, rfl⟩ | ⟨hz, hn⟩ | ⟨hz, hn, hd⟩ | ⟨hz, hn, hd⟩
  · go_enter Tryz.func82, Tryz.ntmps82
    have hO := Own.nil w
    go_wp2_with (first | ((with_reducible refine zad ?_); refine zbx rfl hO rfl rfl ?_; (refine nm 0 rfl ?_; clear hO; intro b0 u hO); simp only [zL, zK] at hO) | ((with_reducible refine zaa ?_); refine zlb rfl hO rfl _ (by exact at0) ?_) | fail)
    go_ret
    exact ⟨rfl, hO.below⟩
  · have HF := Lib.hid (fmtN_no hz hn)
    rcases hz with hz | ⟨rfl, hz⟩ | ⟨rfl, rfl, hz⟩
    all_goals
      go_enter Tryz.func82, Tryz.ntmps82
      have hO := Own.nil w
      go_wp2_with (first | ((with_reducible refine zad ?_); refine zbx rfl hO rfl rfl ?_; (refine nm 0 rfl ?_; clear hO; intro b0 u hO); simp only [zL, zK] at hO) | ((with_reducible refine zaa ?_); refine zlb rfl hO rfl _ (by exact at0) ?_) | fail)
      refine (zam _ _ _ _).mono ?_
      rintro e u ⟨rfl, hb⟩
      (replace hO := hO.step hb; clear hb)
      rw [hn]
      go_wp2_with fail
      go_ret
      exact ⟨ret_str HF.out.symm, hO.below⟩
  · have HF := Lib.hid (fmtN_one hz hn hd)
    have hd2 : (d == 1) = true := by simp [hd]
    rcases hz with hz | ⟨rfl, hz⟩ | ⟨rfl, rfl, hz⟩
    all_goals
      clear hd
      go_enter Tryz.func82, Tryz.ntmps82
      have hO := Own.nil w
      go_wp2_with (first | ((with_reducible refine zad ?_); refine zbx rfl hO rfl rfl ?_; (refine nm 0 rfl ?_; clear hO; intro b0 u hO); simp only [zL, zK] at hO) | ((with_reducible refine zaa ?_); refine zlb rfl hO rfl _ (by exact at0) ?_) | fail)
      refine (zam _ _ _ _).mono ?_
      rintro e u ⟨rfl, hb⟩
      (replace hO := hO.step hb; clear hb)
      rw [hn]
      go_wp2_with (first | ((with_reducible refine zaa ?_); refine zlf rfl hO rfl _ (by exact at0) ?_) | fail)
      refine (spec_fmt _ _ (by omega) (by omega)).mono ?_
      rintro e u ⟨rfl, hb⟩
      subst hb
      go_wp2_with fail
      go_ret
      exact ⟨ret_str HF.out.symm, hO.below⟩
  · have HF := Lib.hid (fmtN_two hz hn hd)
    have hd2 : (d == 1) = false := by simp [hd]
    have z2 := fmtI_le d h3 h4
    have z1 := fmtI_le n h1 h2
    rcases hz with hz | ⟨rfl, hz⟩ | ⟨rfl, rfl, hz⟩
    all_goals
      go_enter Tryz.func82, Tryz.ntmps82
      have hO := Own.nil w
      go_wp2_with (first | ((with_reducible refine zad ?_); refine zbx rfl hO rfl rfl ?_; (refine nm 0 rfl ?_; clear hO; intro b0 u hO); simp only [zL, zK] at hO) | ((with_reducible refine zaa ?_); refine zlb rfl hO rfl _ (by exact at0) ?_) | fail)
      refine (zam _ _ _ _).mono ?_
      rintro e u ⟨rfl, hb⟩
      (replace hO := hO.step hb; clear hb)
      rw [hn]
      go_wp2_with (first | ((with_reducible refine zaa ?_); refine zlf rfl hO rfl _ (by exact at0) ?_) | fail)
      refine J.wp_region_c (n := 23) [0, 1, 2, 3, 4, 5, 6, 7, 8] [] (deps := fun i => [[], [0], [0, 1], [0, 1, 2], [], [4], [4, 5], [0, 1, 2, 3, 4, 5, 6], [0, 1, 2, 3, 4, 5, 6, 7]].getD i []) (fun _ _ _ => True) (r := 0) (lst := #[true, true, true, true, true, true, true, true, true]) (by kernel_rfl) (by kernel_rfl) (by kernel_rfl) rfl (by decide) (by kernel_rfl) hO ?_
      refine zcp (h := ?_)
      refine zcc (f := fun M u hO K hK => by (exact zae hO rfl rfl _ (by exact at0) (by rfl) (by rfl) (hK _ hO))) (h := ?_)
      refine zcc (f := fun M u hO K hK => by (simp only [wp_at_zero, wp_at_succ]; go_step; refine (spec_fmt _ _ (by omega) (by omega)).mono ?_; rintro e u ⟨rfl, hb⟩; (subst hb; exact hK _ hO))) (h := ?_)
      refine zcp (h := ?_)
      refine zcp (h := ?_)
      refine zcc (f := fun M u hO K hK => by (exact zae hO rfl rfl _ (by exact at0) (by rfl) (by rfl) (hK _ hO))) (h := ?_)
      refine zcc (f := fun M u hO K hK => by (simp only [wp_at_zero, wp_at_succ]; go_step; refine (spec_fmt _ _ (by omega) (by omega)).mono ?_; rintro e u ⟨rfl, hb⟩; (subst hb; exact hK _ hO))) (h := ?_)
      refine zcp (h := ?_)
      refine zcp (h := ?_)
      refine J.Chain.nil ⟨?_, ?_⟩
      · exact J.Each.nil
      intro vs u hO hF
      clear hF
      simp only [List.flatMap_cons, List.flatMap_nil, List.append_nil, zL, zK] at hO
      simp only [J.putL]
      clear vs
      refine wpAny_done (by kernel_rfl) ?_ _
      go_wp2_with fail
      go_ret
      exact ⟨ret_str HF.out.symm, hO.below⟩

end Go.Proofs.YtmofcbpabdbjlaaGreat

namespace Go.Proofs.YtmofcbpabdbjlaaGreat

set_option maxRecDepth 8000

open Go.RowKit Go.ChangeShapes Go.WideShapes Go.Deep

set_option linter.unusedVariables false

set_option linter.unusedSimpArgs false

theorem at12 {α : Type} {x0 x1 x2 x3 x4 x5 x6 x7 x8 x9 x10 x11 x12 : α} {l : List α} : (x0 :: x1 :: x2 :: x3 :: x4 :: x5 :: x6 :: x7 :: x8 :: x9 :: x10 :: x11 :: x12 :: l)[12]? = some x12 := rfl

theorem at13 {α : Type} {x0 x1 x2 x3 x4 x5 x6 x7 x8 x9 x10 x11 x12 x13 : α} {l : List α} : (x0 :: x1 :: x2 :: x3 :: x4 :: x5 :: x6 :: x7 :: x8 :: x9 :: x10 :: x11 :: x12 :: x13 :: l)[13]? = some x13 := rfl

/-- hands back an owned vector, cell by cell, and a value -/
def RetVE (t : VT) (y : Value) (w : World) (e : Ending) (w' : World) : Prop := ∃ (Q1 Q2 Q3 Q4 Q5 : Option Addr) (m1 m2 m3 m4 m5 : Nat) (F : List Res), e = .returned (.tuple #[.agg #[.int .i64 t.kind, .slice Q1 t.items.length m1, .slice Q2 t.parts.length m2, .slice Q3 t.names.length m3, .slice Q4 t.cls.length m4, .slice Q5 t.levels.length m5, .int .i64 t.code, .int .i64 t.env], y]) ∧ VO t [.int .i64 t.kind, .slice Q1 t.items.length m1, .slice Q2 t.parts.length m2, .slice Q3 t.names.length m3, .slice Q4 t.cls.length m4, .slice Q5 t.levels.length m5, .int .i64 t.code, .int .i64 t.env] F ∧ Own w [pack F] w'

theorem RetVE.ofS {P : Program} {f : Nat} {args : Array Value} {u : World} {t : VT} {s : ByteArray} (h : Calls P f args u (RetVS t s u)) : Calls P f args u (RetVE t (.string s) u) := h.mono fun e w' ⟨vs, F, he, hvo, hO⟩ => by
  obtain ⟨Q1, Q2, Q3, Q4, Q5, m1, m2, m3, m4, m5, rfl⟩ := hvo.ex
  exact ⟨Q1, Q2, Q3, Q4, Q5, m1, m2, m3, m4, m5, F, he, hvo, hO⟩

/-- hands back an owned vector and a truth -/
def RetVB (t : VT) (s : Bool) (w : World) (e : Ending) (w' : World) : Prop := ∃ vs F, e = .returned (.tuple #[.agg vs.toArray, .bool s]) ∧ VO t vs F ∧ Own w [pack F] w'

theorem RetVE.ofB {P : Program} {f : Nat} {args : Array Value} {u : World} {t : VT} {s : Bool} (h : Calls P f args u (RetVB t s u)) : Calls P f args u (RetVE t (.bool s) u) := h.mono fun e w' ⟨vs, F, he, hvo, hO⟩ => by
  obtain ⟨Q1, Q2, Q3, Q4, Q5, m1, m2, m3, m4, m5, rfl⟩ := hvo.ex
  exact ⟨Q1, Q2, Q3, Q4, Q5, m1, m2, m3, m4, m5, F, he, hvo, hO⟩

end Go.Proofs.YtmofcbpabdbjlaaGreat
