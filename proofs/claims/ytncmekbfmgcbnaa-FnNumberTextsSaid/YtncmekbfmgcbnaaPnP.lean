/-
  What is proved: plain facts on the decimal texts of integers and of fractions: what is written is read back; no program in sight.
  No condition.
-/
import Derived.Test.YtncmekbfmgcbnaaParse
import Derived.Test.YtncmekbfmgcbnaaFnum
import Derived.Test.YtncmekbfmgcbnaaRv
namespace Go.Proofs.Ytncmekbfmgcbnaa
set_option linter.unusedVariables false
set_option linter.unusedSimpArgs false

theorem dch_toNat {d : Nat} (h : d < 10) : (dch d).toNat = 48 + d := by
  unfold dch
  rw [UInt8.toNat_ofNat']
  omega
theorem dval_dig : ∀ n, dval (dig n) = n := by
  intro n
  induction n using Nat.strongRecOn with
  | ind n ih =>
    by_cases h : n = 0
    · subst h; rw [dig_zero]; rfl
    · rw [dig_pos (by omega), dval_snoc, ih (n / 10) (by omega), dch_toNat (by omega)]
      omega
theorem dig_all : ∀ n, (dig n).all isDg = true := by
  intro n
  induction n using Nat.strongRecOn with
  | ind n ih =>
    by_cases h : n = 0
    · subst h; rw [dig_zero]; rfl
    · rw [dig_pos (by omega), List.all_append, ih (n / 10) (by omega)]
      simp only [List.all_cons, List.all_nil, Bool.and_true, Bool.true_and]
      unfold isDg
      rw [dch_toNat (by omega)]
      exact decide_eq_true (by omega)
theorem isDg_ne {c : UInt8} (h : isDg c = true) {x : UInt8} (hx : x.toNat < 48) : c ≠ x := by
  intro e
  subst e
  have := of_decide_eq_true h
  omega
theorem dig_head {n : Nat} : (dig n).head? ≠ some 45 := by
  intro h
  have h1 := dig_all n
  cases hd : dig n with
  | nil => rw [hd] at h; cases h
  | cons c l =>
    rw [hd] at h h1
    simp only [List.head?_cons, Option.some.injEq] at h
    simp only [List.all_cons, Bool.and_eq_true] at h1
    exact isDg_ne h1.1 (x := 45) (by decide) h
theorem prs_dig (n : Nat) : prs (dig n) = (false, dig n) := by unfold prs; rw [if_neg dig_head]

/-- sign and digits of a written integer -/
theorem prs_fmtI (n : Int) : prs (fmtI n) = (decide (n < 0), if n = 0 then [48] else dig n.natAbs) := by
  by_cases h0 : n = 0
  · subst h0; rfl
  · unfold fmtI
    rw [if_neg h0, if_neg h0]
    by_cases h1 : n < 0
    · rw [if_pos h1, decide_eq_true h1]; rfl
    · rw [if_neg h1, decide_eq_false h1, prs_dig]
theorem fmtI_val (n : Int) : sgn (prs (fmtI n)).1 (dval (prs (fmtI n)).2) = n := by
  rw [prs_fmtI]
  by_cases h0 : n = 0
  · subst h0; rfl
  · rw [if_neg h0, dval_dig]
    unfold sgn
    by_cases h1 : n < 0
    · rw [decide_eq_true h1]; simp; omega
    · rw [decide_eq_false h1]; simp; omega
theorem fmtI_inj {n m : Int} (h : fmtI n = fmtI m) : n = m := by rw [← fmtI_val n, ← fmtI_val m, h]
theorem parse_fmtI {l : List UInt8} (h : parseB l = true) : fmtI (parseN l) = l := by
  rw [parse_yes h]
  exact (of_decide_eq_true h).2.2.2
theorem parseB_fmt (n : Int) : parseB (fmtI n) = decide (-1000000000 < n ∧ n < 1000000000) := by
  unfold parseB
  rw [fmtI_val n]
  refine decide_eq_decide.2 ?_
  rw [prs_fmtI]
  by_cases h0 : n = 0
  · subst h0; simp; decide
  · simp only [if_neg h0]
    constructor
    · rintro ⟨_, h2, h3, _⟩
      have := dval_bd h3 h2
      rw [dval_dig] at this
      omega
    · intro h
      refine ⟨?_, dig_le 9 _ (by omega), dig_all _, (by first | rfl | trivial)⟩
      have := dig_ne (n := n.natAbs) (by omega)
      intro e; rw [e] at this; simp at this
theorem parseN_fmt {n : Int} (h : -1000000000 < n ∧ n < 1000000000) : parseN (fmtI n) = n := by
  rw [parse_yes (by rw [parseB_fmt]; exact decide_eq_true h), fmtI_val]
theorem fmtI_byte {n : Int} {c : UInt8} (h : c ∈ fmtI n) : c = 45 ∨ isDg c = true := by
  unfold fmtI at h
  split at h
  · right; rw [List.mem_singleton.1 h]; rfl
  · have hd : ∀ c ∈ dig n.natAbs, isDg c = true := List.all_eq_true.1 (dig_all _)
    split at h
    · rcases List.mem_cons.1 h with h | h
      · exact .inl h
      · exact .inr (hd c h)
    · exact .inr (hd c h)
theorem fmtI_noslash (n : Int) : ∀ c ∈ fmtI n, ¬ c = 47 := by
  intro c h e
  rcases fmtI_byte h with h | h
  · rw [h] at e; cases e
  · exact isDg_ne h (x := 47) (by decide) e

/-- the place of the slash -/
def sl (s : ByteArray) : Nat := s.data.toList.findIdx (· == 47)
theorem sl_le (s : ByteArray) : sl s ≤ s.size := by
  have : s.data.toList.findIdx (· == 47) ≤ s.data.toList.length := List.findIdx_le_length
  simpa [sl] using this
theorem sl_hit {s : ByteArray} {i : Nat} (h : i < s.size) (hc : s[i] = 47) (hi : i ≤ sl s) : sl s = i := by
  by_cases hlt : i < sl s
  · have := List.not_of_lt_findIdx (p := (· == 47)) (xs := s.data.toList) (i := i) hlt
    exfalso
    have e : s.data.toList[i]'(by simpa using h) = s[i] := rfl
    rw [e, hc] at this
    simp at this
  · omega
theorem sl_on {s : ByteArray} {i : Nat} (h : i < s.size) (hc : ¬ s[i] = 47) (hi : i ≤ sl s) : i + 1 ≤ sl s := by
  by_cases hlt : i < sl s
  · omega
  · have e : sl s = i := by omega
    exfalso
    have h1 : s.data.toList.findIdx (· == 47) < s.data.toList.length := by
      have : s.data.toList.length = s.size := by simp
      rw [this]; rw [show s.data.toList.findIdx (· == 47) = i from e]; exact h
    have := List.findIdx_getElem (p := (· == 47)) (xs := s.data.toList) (w := h1)
    have e2 : s.data.toList[s.data.toList.findIdx (· == 47)] = s.data.toList[i]'(by simpa using h) := by congr 1
    rw [e2] at this
    have h5 : s.data[i] = 47 := by simpa using this
    exact hc h5
theorem sl_out {s : ByteArray} {i : Nat} (h : ¬ i < s.size) (hi : i ≤ sl s) : sl s = s.size := by have := sl_le s; omega

def numS (s : ByteArray) : ByteArray := s.extract 0 (sl s)
def denS (s : ByteArray) : ByteArray := if sl s < s.size then s.extract (sl s + 1) s.size else ⟨#[49]⟩
def numL (s : ByteArray) : List UInt8 := (numS s).data.toList
def denL (s : ByteArray) : List UInt8 := (denS s).data.toList
/-- what ParseNumber says of a string other than NA -/
def pnB (s : ByteArray) : Bool := parseB (numL s) && parseB (denL s) && Nm.isNum (parseN (numL s)) (parseN (denL s)) && ((fmtN (parseN (numL s)) (parseN (denL s)) ⟨#[]⟩).toList == s.toList)
def pnV (s : ByteArray) : Int × Int := if pnB s then (parseN (numL s), parseN (denL s)) else (0, 0)

theorem mk_self {n d : Int} (h : Nm.isNum n d = true) : Nm.mk n d = (n, d) := by
  obtain ⟨a1, a2, a3, a4, a5⟩ := Nm.isNum_facts h
  have e1 : Nm.gcdI n d = 1 := by unfold Nm.gcdI; rw [a5]; rfl
  have e2 : Nm.red n d = (n, d) := by unfold Nm.red; rw [e1, if_neg (by omega)]; simp
  unfold Nm.mk
  rw [if_neg (by simp [Nm.inL]; omega), e2, if_pos (by simp [Nm.inM]; omega)]

theorem toL (s : ByteArray) : s.toList = s.data.toList := by rw [ByteArray.toList_eq]
theorem bytes_eq {a b : ByteArray} (h : a.data.toList = b.data.toList) : a = b := ByteArray.ext (Array.toList_inj.1 h)

theorem fmtN_num {p q : Int} (h : Nm.isNum p q = true) : fmtN p q ⟨#[]⟩ = if q = 1 then bstr (fmtI p) else (bstr (fmtI p) ++ ⟨#[47]⟩ ++ bstr (fmtI q) : ByteArray) := by
  have h1 := (Nm.isNum_facts h).1
  have h2 : isNumT p q ⟨#[]⟩ = true := by rw [isNumT_nil]; exact h
  unfold fmtN
  rw [if_neg (by omega), if_neg (by rw [h2]; simp)]

theorem fmtI_one : fmtI 1 = [49] := by
  have := fmt_pos (n := 1) (by omega)
  rw [show ((1 : Nat) : Int) = 1 from rfl] at this
  rw [this, dig_pos (by omega), dig_zero]
  rfl
theorem len_toList (b : ByteArray) : b.data.toList.length = b.size := by simp
theorem findIdx_app {l r : List UInt8} (h : ∀ c ∈ l, ¬ c = 47) : (l ++ 47 :: r).findIdx (· == 47) = l.length := by
  induction l with
  | nil => simp [List.findIdx_cons]
  | cons c l ih =>
    have hc : (c == 47) = false := by simpa using h c (List.mem_cons_self)
    rw [List.cons_append, List.findIdx_cons, hc, ih (fun x hx => h x (List.mem_cons_of_mem _ hx))]
    simp
theorem findIdx_none {l : List UInt8} (h : ∀ c ∈ l, ¬ c = 47) : l.findIdx (· == 47) = l.length := by
  induction l with
  | nil => rfl
  | cons c l ih =>
    have hc : (c == 47) = false := by simpa using h c (List.mem_cons_self)
    rw [List.findIdx_cons, hc, ih (fun x hx => h x (List.mem_cons_of_mem _ hx))]
    simp

/-- a written number falls into its two parts -/
theorem parts_fmt {p q : Int} (h : Nm.isNum p q = true) {s : ByteArray} (hs : fmtN p q ⟨#[]⟩ = s) : numL s = fmtI p ∧ denL s = fmtI q := by
  subst hs
  rw [fmtN_num h]
  have h1 := (Nm.isNum_facts h).1
  by_cases hq : q = 1
  · subst hq
    rw [if_pos rfl]
    have e : sl (bstr (fmtI p)) = (fmtI p).length := by unfold sl; rw [bstr_toList]; exact findIdx_none (fmtI_noslash p)
    refine ⟨?_, ?_⟩
    · unfold numL numS
      rw [e, ← bstr_size, ByteArray.extract_zero_size]; rfl
    · unfold denL denS
      rw [e, if_neg (by rw [bstr_size]; omega), fmtI_one]
  · rw [if_neg hq]
    have e0 : (bstr (fmtI p) ++ ⟨#[47]⟩ ++ bstr (fmtI q) : ByteArray).data.toList = fmtI p ++ 47 :: fmtI q := by simp [bstr]
    have e : sl (bstr (fmtI p) ++ ⟨#[47]⟩ ++ bstr (fmtI q) : ByteArray) = (fmtI p).length := by unfold sl; rw [e0]; exact findIdx_app (fmtI_noslash p)
    have es : (bstr (fmtI p) ++ ⟨#[47]⟩ ++ bstr (fmtI q) : ByteArray).size = (fmtI p).length + 1 + (fmtI q).length := by
      have := congrArg List.length e0
      rw [len_toList, List.length_append, List.length_cons] at this
      omega
    refine ⟨?_, ?_⟩
    · unfold numL numS
      rw [e]
      simp [bstr]
    · unfold denL denS
      rw [e, if_pos (by omega), es]
      simp [bstr, ByteArray.data_extract]

theorem pn_den (s : ByteArray) (h : ¬ sl s < s.size) : denL s = [49] ∧ parseB (denL s) = true ∧ parseN (denL s) = 1 := by
  have e : denL s = [49] := by unfold denL denS; rw [if_neg h]
  rw [e, ← fmtI_one]
  exact ⟨rfl, by rw [parseB_fmt]; rfl, parseN_fmt (by omega)⟩
theorem parseN_bd {l : List UInt8} (h : parseB l = true) : -1000000000 < parseN l ∧ parseN l < 1000000000 := by
  have h1 := parse_fmtI h
  rw [← h1, parseB_fmt] at h
  exact of_decide_eq_true h

/-- the reference's way: the fraction is reduced first -/
theorem pn_spec {s : ByteArray} (hna : ¬ s.toList = [78, 65]) (h1 : parseB (numL s) = true) (h2 : parseB (denL s) = true) (hf : (fmtN (Nm.mk (parseN (numL s)) (parseN (denL s))).1 (Nm.mk (parseN (numL s)) (parseN (denL s))).2 ⟨#[]⟩).toList = s.toList) :
    pnB s = true ∧ Nm.mk (parseN (numL s)) (parseN (denL s)) = (parseN (numL s), parseN (denL s)) := by
  obtain ⟨n, hn⟩ : ∃ n, parseN (numL s) = n := ⟨_, rfl⟩
  obtain ⟨d, hd⟩ : ∃ n, parseN (denL s) = n := ⟨_, rfl⟩
  have e1 := parse_fmtI h1
  have e2 := parse_fmtI h2
  unfold pnB
  rw [hn] at e1
  rw [hd] at e2
  rw [hn, hd] at hf ⊢
  have hfe : fmtN (Nm.mk n d).1 (Nm.mk n d).2 ⟨#[]⟩ = s := bytes_eq (by rw [← toL, ← toL]; exact hf)
  by_cases hq : (Nm.mk n d).2 = 0
  · exfalso
    have h0 : Nm.mk n d = (0, 0) := by
      unfold Nm.mk at hq ⊢
      by_cases g1 : d = 0 ∨ Nm.inL n = false ∨ Nm.inL d = false
      · rw [if_pos g1]
      · rw [if_neg g1] at hq ⊢
        by_cases g2 : Nm.inM (Nm.red n d) = true
        · rw [if_pos g2] at hq
          have := Nm.red_pos n d (fun e => g1 (.inl e))
          omega
        · rw [if_neg g2]
    rw [h0] at hfe
    apply hna
    rw [← hfe, toL]
    rfl
  · have hm := (Nm.mk_ok hq).2.1
    obtain ⟨f1, f2⟩ := parts_fmt hm hfe
    have g1 : n = (Nm.mk n d).1 := fmtI_inj (by rw [e1, f1])
    have g2 : d = (Nm.mk n d).2 := fmtI_inj (by rw [e2, f2])
    have hmk : Nm.mk n d = (n, d) := Prod.ext g1.symm g2.symm
    rw [hmk] at hm hf
    refine ⟨?_, hmk⟩
    rw [h1, h2, hm, hf]
    simp
theorem pn_spec' {s : ByteArray} (h : pnB s = true) : parseB (numL s) = true ∧ parseB (denL s) = true ∧ Nm.mk (parseN (numL s)) (parseN (denL s)) = (parseN (numL s), parseN (denL s)) ∧ (fmtN (parseN (numL s)) (parseN (denL s)) ⟨#[]⟩).toList = s.toList := by
  unfold pnB at h
  simp only [Bool.and_eq_true, beq_iff_eq] at h
  obtain ⟨⟨⟨h1, h2⟩, h3⟩, h4⟩ := h
  exact ⟨h1, h2, mk_self h3, h4⟩

def pnO (s : ByteArray) : Bool := (s.toList == [78, 65]) || pnB s
def pnA (s : ByteArray) : Int × Int := if s.toList = [78, 65] then (0, 0) else pnV s
theorem pn_na {s : ByteArray} (h : s.toList = [78, 65]) : pnO s = true ∧ pnA s = (0, 0) := by unfold pnO pnA; rw [if_pos h, h]; exact ⟨rfl, rfl⟩
theorem pn_no {s : ByteArray} (h : ¬ s.toList = [78, 65]) (hb : pnB s = false) : pnO s = false ∧ pnA s = (0, 0) := by unfold pnO pnA pnV; rw [if_neg h, hb]; simp [h]
theorem pn_yes {s : ByteArray} (h : ¬ s.toList = [78, 65]) (hb : pnB s = true) : pnO s = true ∧ pnA s = (parseN (numL s), parseN (denL s)) := by unfold pnO pnA pnV; rw [if_neg h, hb]; simp

end Go.Proofs.Ytncmekbfmgcbnaa
