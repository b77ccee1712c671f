/-
  What is proved: plain facts on reading a quoted text: what is read of a text, and that it undoes the quoting.
  No condition.
-/
import Derived.Test.YtncmekbfmgcbnaaQuote
namespace Go.Proofs.Ytncmekbfmgcbnaa
set_option linter.unusedVariables false
set_option linter.unusedSimpArgs false

/-- the value of a hexadecimal digit -/
def hexd (c : UInt8) : Option Nat := (List.range 16).find? fun k => hexc k == c
def nb (c : UInt8) : Nat := (hexd c).getD 0
def hexI (c : UInt8) : Int := match hexd c with | some k => k | none => -1

theorem hexd_hexc {d : Nat} (h : d < 16) : hexd (hexc d) = some d := by
  have : ∀ d : Fin 16, hexd (hexc d.val) = some d.val := by decide
  exact this ⟨d, h⟩
theorem hexd_some {c : UInt8} {k : Nat} (h : k < 16) (hc : hexc k = c) (hj : ∀ j, j < k → ¬ hexc j = c) : hexd c = some k := by
  subst hc; exact hexd_hexc h
theorem hexd_none {c : UInt8} (hj : ∀ j, j < 16 → ¬ hexc j = c) : hexd c = none := by
  unfold hexd
  rw [List.find?_eq_none]
  intro x hx
  simpa using hj x (List.mem_range.1 hx)
theorem hexd_lt {c : UInt8} {k : Nat} (h : hexd c = some k) : k < 16 := by
  have := List.mem_of_find?_eq_some h
  exact List.mem_range.1 this
theorem nb_lt (c : UInt8) : nb c < 16 := by
  unfold nb
  cases h : hexd c with
  | none => decide
  | some k => exact hexd_lt h

/-- what is read of the text between the quotes -/
def unq : List UInt8 → List UInt8
  | [] => []
  | c :: r => if c = 92 then
      match r with
      | [] => [92]
      | d :: r' => if d = 110 then 10 :: unq r' else if d = 120 then
          match r' with
          | x :: y :: r'' => UInt8.ofNat (16 * nb x + nb y) :: unq r''
          | [] => [120]
          | [x] => [120, x]
        else d :: unq r'
    else c :: unq r

theorem unq_plain {c : UInt8} {r : List UInt8} (h : ¬ c = 92) : unq (c :: r) = c :: unq r := by rw [unq.eq_def]; simp [h]
theorem unq_end : unq [92] = [92] := by rw [unq.eq_def]; simp
theorem unq_one (x : UInt8) : unq [x] = [x] := by
  by_cases h : x = 92
  · subst h; exact unq_end
  · rw [unq_plain h]; rfl
theorem unq_n {r : List UInt8} : unq (92 :: 110 :: r) = 10 :: unq r := by rw [unq.eq_def]; simp
theorem unq_x {x y : UInt8} {r : List UInt8} : unq (92 :: 120 :: x :: y :: r) = UInt8.ofNat (16 * nb x + nb y) :: unq r := by rw [unq.eq_def]; simp
theorem unq_x0 {r : List UInt8} (h : r.length < 2) : unq (92 :: 120 :: r) = 120 :: unq r := by
  rw [unq.eq_def]
  rcases r with _ | ⟨a, _ | ⟨b, r⟩⟩
  · simp [unq]
  · simp [unq_one]
  · simp only [List.length_cons] at h; omega
theorem unq_o {d : UInt8} {r : List UInt8} (h1 : ¬ d = 110) (h2 : ¬ d = 120) : unq (92 :: d :: r) = d :: unq r := by rw [unq.eq_def]; simp [h1, h2]

theorem quo_forms (c : UInt8) : (quo c = [92, c] ∧ (c = 34 ∨ c = 92)) ∨ (quo c = [92, 110] ∧ c = 10) ∨ (∃ d e, d < 16 ∧ e < 16 ∧ quo c = [92, 120, hexc d, hexc e] ∧ c = UInt8.ofNat (16 * d + e)) ∨ (quo c = [c] ∧ ¬ c = 92) := by
  have inj : ∀ n : Nat, n < 256 → c.toNat = n → c = UInt8.ofNat n := fun n hn h => by
    apply UInt8.toNat_inj.1; rw [h]; simp; omega
  have hlt := c.toNat_lt
  unfold quo
  by_cases h1 : c.toNat = 34 ∨ c.toNat = 92
  · rw [if_pos h1]
    left
    exact ⟨rfl, h1.imp (fun h => inj 34 (by omega) h) (fun h => inj 92 (by omega) h)⟩
  · rw [if_neg h1]
    by_cases h2 : c.toNat = 10
    · rw [if_pos h2]
      right; left
      exact ⟨rfl, inj 10 (by omega) h2⟩
    · rw [if_neg h2]
      by_cases h3 : c.toNat < 32 ∨ 126 < c.toNat
      · rw [if_pos h3]
        right; right; left
        exact ⟨c.toNat / 16, c.toNat % 16, by omega, by omega, rfl, inj _ (by omega) (by omega)⟩
      · rw [if_neg h3]
        right; right; right
        refine ⟨rfl, fun h => ?_⟩
        subst h
        exact h1 (Or.inr rfl)

theorem unq_quo (c : UInt8) (r : List UInt8) : unq (quo c ++ r) = c :: unq r := by
  rcases quo_forms c with ⟨h, (rfl | rfl)⟩ | ⟨h, rfl⟩ | ⟨d, e, hd, he, h, rfl⟩ | ⟨h, hc⟩
  · rw [h]; exact unq_o (by decide) (by decide)
  · rw [h]; exact unq_o (by decide) (by decide)
  · rw [h]; exact unq_n
  · rw [h]
    refine unq_x.trans ?_
    simp [nb, hexd_hexc hd, hexd_hexc he]
  · rw [h]; exact unq_plain hc

theorem unq_quos (t : List UInt8) : unq (t.flatMap quo) = t := by
  induction t with
  | nil => rfl
  | cons c t ih => rw [List.flatMap_cons, unq_quo, ih]

/-- a text that quoting gives -/
def isQ (l : List UInt8) : Prop := ∃ t : List UInt8, l = t.flatMap quo

theorem isQ_cons {c : UInt8} {r : List UInt8} (h : isQ (c :: r)) : ∃ a r', c :: r = quo a ++ r' ∧ isQ r' := by
  obtain ⟨t, ht⟩ := h
  cases t with
  | nil => simp at ht
  | cons a t => exact ⟨a, _, by rw [ht, List.flatMap_cons], t, rfl⟩
theorem isQ_plain {c : UInt8} {r : List UInt8} (hc : ¬ c = 92) (h : isQ (c :: r)) : isQ r := by
  obtain ⟨a, r', e, hr⟩ := isQ_cons h
  rcases quo_forms a with ⟨h, _⟩ | ⟨h, _⟩ | ⟨d, g, _, _, h, _⟩ | ⟨h, _⟩ <;> rw [h] at e <;> simp only [List.cons_append, List.nil_append, List.cons.injEq] at e
  · exact absurd e.1 hc
  · exact absurd e.1 hc
  · exact absurd e.1 hc
  · rw [e.2]; exact hr
theorem isQ_end : ¬ isQ [92] := by
  intro h
  obtain ⟨a, r', e, hr⟩ := isQ_cons h
  rcases quo_forms a with ⟨h, _⟩ | ⟨h, _⟩ | ⟨d, g, _, _, h, _⟩ | ⟨h, ha⟩ <;> rw [h] at e <;> simp at e
  exact ha e.1.symm
theorem isQ_x {r : List UInt8} (h : isQ (92 :: 120 :: r)) : ∃ d e r', d < 16 ∧ e < 16 ∧ r = hexc d :: hexc e :: r' ∧ isQ r' := by
  obtain ⟨a, r', e, hr⟩ := isQ_cons h
  rcases quo_forms a with ⟨h, ha⟩ | ⟨h, _⟩ | ⟨d, g, hd, hg, h, _⟩ | ⟨h, ha⟩ <;> rw [h] at e <;> simp only [List.cons_append, List.nil_append, List.cons.injEq] at e
  · rcases ha with rfl | rfl <;> exact absurd e.2.1 (by decide)
  · exact absurd e.2.1 (by decide)
  · exact ⟨d, g, r', hd, hg, e.2.2, hr⟩
  · exact absurd e.1.symm ha
theorem isQ_o {d : UInt8} {r : List UInt8} (hd : ¬ d = 120) (h : isQ (92 :: d :: r)) : isQ r := by
  obtain ⟨a, r', e, hr⟩ := isQ_cons h
  rcases quo_forms a with ⟨h, ha⟩ | ⟨h, _⟩ | ⟨d, g, _, _, h, _⟩ | ⟨h, ha⟩ <;> rw [h] at e <;> simp only [List.cons_append, List.nil_append, List.cons.injEq] at e
  · rw [e.2.2]; exact hr
  · rw [e.2.2]; exact hr
  · exact absurd e.2.1 hd
  · exact absurd e.1.symm ha

/-- the text between the quotes, from place k on -/
def rst (l : List UInt8) (k : Nat) : List UInt8 := (l.take (l.length - 1)).drop k
/-- the text is what quoting gives -/
def unqB (l : List UInt8) : Bool := decide (quoL (unq (rst l 1)) = l)
def unqT (l : List UInt8) : List UInt8 := if unqB l then unq (rst l 1) else []

theorem rst_nil {l : List UInt8} {k : Nat} (h : l.length - 1 ≤ k) : rst l k = [] := by
  unfold rst; exact List.drop_eq_nil_of_le (by rw [List.length_take]; omega)
theorem rst_len (l : List UInt8) (k : Nat) : (rst l k).length = l.length - 1 - k := by
  unfold rst; rw [List.length_drop, List.length_take]; omega
theorem rst_cons {s : ByteArray} {k : Nat} (h : k < s.size - 1) : rst s.data.toList k = (s[k]'(by omega)) :: rst s.data.toList (k + 1) := by
  have hl : s.data.toList.length = s.size := by simp
  unfold rst
  rw [List.drop_eq_getElem_cons (by rw [List.length_take, hl]; omega)]
  congr 1
  rw [List.getElem_take]
  rfl
theorem unqB_body {l : List UInt8} (h : unqB l = true) : isQ (rst l 1) ∧ 2 ≤ l.length ∧ l.head? = some 34 ∧ l.getLast? = some 34 := by
  have h := of_decide_eq_true h
  generalize unq (rst l 1) = u at h
  subst h
  refine ⟨⟨u, ?_⟩, by simp [quoL, quoH], by simp [quoL, quoH], by simp [quoL]⟩
  simp only [rst, quoL, quoH, List.cons_append, List.length_cons, List.length_append, List.length_nil]
  have : (34 :: (u.flatMap quo ++ [34])) = (34 :: u.flatMap quo) ++ [34] := rfl
  rw [this, List.take_append_of_le_length (by simp), List.take_of_length_le (by simp)]
  rfl
theorem unqB_no {l : List UInt8} (h : ¬ isQ (rst l 1)) : unqB l = false := by
  cases hb : unqB l with
  | false => rfl
  | true => exact absurd (unqB_body hb).1 h
theorem unqT_no {l : List UInt8} (h : unqB l = false) : unqT l = [] := by simp [unqT, h]
theorem unqT_yes {l : List UInt8} (h : unqB l = true) : unqT l = unq (rst l 1) := by simp [unqT, h]
end Go.Proofs.Ytncmekbfmgcbnaa
