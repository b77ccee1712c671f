/-
  What is proved: plain laws on quoted strings and on fields: what is written is read back.
  Condition: lists of short words.
-/
import Derived.Test.YtncmekbfmgcbnaaUnqP
import Derived.Test.YtncmekbfmgcbnaaSplP
import Derived.Test.YtncmekbfmgcbnaaPnQ
import Derived.Test.YtncmekbfmgcbnaaJoin
namespace Go.Proofs.Ytncmekbfmgcbnaa
set_option linter.unusedVariables false
set_option linter.unusedSimpArgs false

theorem rst_quo (t : List UInt8) : rst (quoL t) 1 = t.flatMap quo := by
  unfold rst quoL quoH
  simp
theorem unqB_quo (t : List UInt8) : unqB (quoL t) = true := by
  unfold unqB
  rw [rst_quo, unq_quos]
  exact decide_eq_true rfl
theorem unqT_quo (t : List UInt8) : unqT (quoL t) = t := by rw [unqT_yes (unqB_quo t), rst_quo, unq_quos]

def prt1 (c : UInt8) : Bool := decide (32 ≤ c.toNat ∧ c.toNat ≤ 126)
theorem hexc_prt {d : Nat} (h : d < 16) : prt1 (hexc d) = true := by
  have : ∀ d < 16, prt1 (hexc d) = true := by decide
  exact this d h
theorem quo_prt (c : UInt8) : ∀ x ∈ quo c, prt1 x = true := by
  have : ∀ n < 256, ∀ x ∈ quo (UInt8.ofNat n), prt1 x = true := by decide +kernel
  have h := this c.toNat (UInt8.toNat_lt c)
  rwa [UInt8.ofNat_toNat] at h
theorem quoL_prt (t : List UInt8) : ∀ x ∈ quoL t, prt1 x = true := by
  intro x hx
  unfold quoL quoH at hx
  rcases List.mem_append.1 hx with hx | hx
  · rcases List.mem_cons.1 hx with rfl | hx
    · rfl
    · obtain ⟨c, _, hc⟩ := List.mem_flatMap.1 hx
      exact quo_prt c x hc
  · rw [List.mem_singleton.1 hx]; rfl

theorem fmtI_nocolon (n : Int) : ∀ c ∈ fmtI n, ¬ c = 58 := by
  intro c h e
  rcases fmtI_byte h with h | h
  · rw [h] at e; cases e
  · have := of_decide_eq_true h
    rw [e] at this
    simp at this

theorem scnF_walk {t : ByteArray} {D : List UInt8} {R : List UInt8} (ht : t.data.toList = D ++ 58 :: R) (hD : ∀ c ∈ D, ¬ c = 58) : ∀ f a, a ≤ D.length → D.length ≤ a + f → scnF t f a = D.length
  | 0, a, h1, h2 => by rw [show scnF t 0 a = a from rfl]; omega
  | f + 1, a, h1, h2 => by
    have hs : t.size = D.length + 1 + R.length := by
      have := congrArg List.length ht
      rw [len_toList, List.length_append, List.length_cons] at this
      omega
    have hlt : a < t.size := by omega
    have e : t[a] = t.data.toList[a]'(by rw [len_toList]; exact hlt) := rfl
    by_cases h3 : a = D.length
    · subst h3
      refine scnF_hit hlt ?_
      rw [e]
      simp only [ht]
      simp
    · have hd : a < D.length := by omega
      rw [scnF_on hlt ?_]
      · exact scnF_walk ht hD f (a + 1) (by omega) (by omega)
      · rw [e]
        simp only [ht]
        rw [List.getElem_append_left hd]
        exact hD _ (List.getElem_mem hd)

theorem join_head (x : ByteArray) (l : List ByteArray) : joinL (x :: l) = fmtI (x.size : Int) ++ 58 :: (x.data.toList ++ joinL l) := by
  have := joinL_succ (l := x :: l) (k := 0) (by simp)
  show joinL (x :: l) = _
  simp [joinL]

theorem ext_toList (b : ByteArray) (i j : Nat) : (b.extract i j).data.toList = (b.data.toList.take j).drop i := by
  rw [List.drop_take]
  simp [ByteArray.data_extract, List.extract_eq_take_drop]

theorem spl_join : ∀ (l : List ByteArray) (f : Nat), (∀ y ∈ l, y.size ≤ 24) → l.length < f → spl f (bstr (joinL l)) = some l
  | [], f, _, hf => by
    obtain ⟨g, rfl⟩ : ∃ g, f = g + 1 := ⟨f - 1, by simp at hf; omega⟩
    exact spl_end rfl
  | x :: l, f, hl, hf => by
    obtain ⟨g, rfl⟩ : ∃ g, f = g + 1 := ⟨f - 1, by simp at hf; omega⟩
    have hx := hl x (List.mem_cons_self)
    obtain ⟨t, ht⟩ : ∃ t, bstr (joinL (x :: l)) = t := ⟨_, rfl⟩
    obtain ⟨D, hD⟩ : ∃ D, fmtI (x.size : Int) = D := ⟨_, rfl⟩
    have htl : t.data.toList = D ++ 58 :: (x.data.toList ++ joinL l) := by rw [← ht, bstr_toList, join_head, hD]
    have hsz : t.size = D.length + 1 + (x.size + (joinL l).length) := by
      have := congrArg List.length htl
      rw [len_toList, List.length_append, List.length_cons, List.length_append, len_toList] at this
      omega
    have hDl : D.length ≤ 9 := by
      have hp := parseB_fmt (x.size : Int)
      rw [decide_eq_true (by omega), hD] at hp
      have := (of_decide_eq_true hp).2.1
      rw [← hD, prs_fmtI] at this
      rw [← hD]
      unfold fmtI
      by_cases h0 : (x.size : Int) = 0
      · rw [if_pos h0]; simp
      · rw [if_neg h0] at this ⊢
        rw [if_neg (by omega)]
        exact this
    have hsc : scn t = D.length := scnF_walk htl (by rw [← hD]; exact fmtI_nocolon _) 10 0 (by omega) (by omega)
    have hhd : hdL t D.length = D := by
      unfold hdL
      rw [ext_toList, htl]
      simp
    have hP : parseB D = true := by rw [← hD, parseB_fmt]; exact decide_eq_true (by omega)
    have hN : parseN D = (x.size : Int) := by rw [← hD]; exact parseN_fmt (by omega)
    obtain ⟨r, hr⟩ : ∃ r, t.extract (D.length + 1) t.size = r := ⟨_, rfl⟩
    have hrl : r.data.toList = x.data.toList ++ joinL l := by
      rw [← hr, ext_toList, ← len_toList t, List.take_length, htl]
      rw [List.drop_append, List.drop_of_length_le (by omega)]
      simp
    have hrs : r.size = x.size + (joinL l).length := by
      have := congrArg List.length hrl
      rw [len_toList, List.length_append, len_toList] at this
      exact this
    have hok : stpOk t D.length = true := by
      have hlt : D.length < t.size := by omega
      rw [stpOk_at hlt, hhd, hP, hN, hr]
      have e : t[D.length] = 58 := by
        show t.data.toList[D.length]'(by rw [len_toList]; exact hlt) = 58
        simp only [htl]
        simp
      rw [e, decide_eq_true (show (x.size : Int) ≤ (r.size : Int) by omega), decide_eq_true (show (0 : Int) ≤ (x.size : Int) by omega)]
      rfl
    have hX : stpX t D.length = x := by
      unfold stpX
      rw [hhd, hN, hr]
      refine bytes_eq ?_
      rw [ext_toList, hrl]
      simp
    have hR : stpR t D.length = bstr (joinL l) := by
      unfold stpR
      rw [hhd, hN, hr]
      refine bytes_eq ?_
      rw [ext_toList, ← len_toList r, List.take_length, hrl, bstr_toList]
      simp
    rw [ht, spl_ok (by omega) hsc hok, hX, hR, spl_join l g (fun y hy => hl y (List.mem_cons_of_mem _ hy)) (by simp at hf; omega)]
    rfl

theorem joinL_ge : ∀ l : List ByteArray, l.length ≤ (joinL l).length
  | [] => by simp [joinL]
  | x :: l => by
    have := joinL_ge l
    rw [join_head]
    simp
    omega
theorem splR_join (l : List ByteArray) (h : ∀ y ∈ l, y.size ≤ 24) : splR (bstr (joinL l)) = some l := by
  unfold splR
  refine spl_join l _ h ?_
  have := joinL_ge l
  rw [bstr_size]
  omega

end Go.Proofs.Ytncmekbfmgcbnaa
