/-
  What is proved: a valid vector is small; the rule for regions that draw their order, its closed facts checked against a table of what comes before what (the check without one takes exponential time).
  Condition: none beyond those of the theorems.
-/
import Derived.Test.YtmofcbpabdbjlaaVz5
import Derived.Test.YtmofcbpabdbjlaaVz21
namespace Go.Proofs.Ytmofcbpabdbjlaa

set_option maxRecDepth 8000

open Go.RowKit Go.ChangeShapes Go.WideShapes Go.Deep

set_option linter.unusedVariables false

set_option linter.unusedSimpArgs false

theorem lab_short {m : Nat} {l : List ByteArray} (h : labB m l = true) : l.length ≤ m ∧ za1 l = true := by
  unfold labB at h
  rw [Bool.and_eq_true, decide_eq_true_eq] at h
  refine ⟨h.1, ?_⟩
  unfold za1
  rw [List.all_eq_true]
  intro x hx
  obtain ⟨i, hi, rfl⟩ := List.mem_iff_getElem.1 hx
  have h2 := h.2
  unfold goodN at h2
  rw [List.all_eq_true] at h2
  have h3 := h2 i (List.mem_range.2 hi)
  rw [okAt_eq hi] at h3
  simp only [Bool.and_eq_true] at h3
  exact h3.1.2

theorem stz_sh {l : List ByteArray} (h : za1 l = true) : stz l ≤ 60 * l.length := by
  induction l with
  | nil => simp [stz]
  | cons x l ih =>
    unfold za1 at h ih
    rw [List.all_cons, Bool.and_eq_true, decide_eq_true_eq] at h
    have := ih h.2
    simp only [stz, List.length_cons]
    omega

theorem itz_sh {l : List It} {z : Nat} (h : ∀ x ∈ l, x.text.size ≤ z) : itz l ≤ z * l.length := by
  induction l with
  | nil => simp [itz]
  | cons x l ih =>
    have h1 := h x (List.mem_cons_self)
    have h2 := ih fun y hy => h y (List.mem_cons_of_mem _ hy)
    simp only [itz, List.length_cons, Nat.mul_succ]
    omega

theorem empty_size {t : ByteArray} (h : t.toList.isEmpty = true) : t.size = 0 := by
  rw [ByteArray.toList_eq, List.isEmpty_iff] at h
  show t.data.size = 0
  rw [← Array.length_toList, h]
  rfl

theorem item_text {k : Int} {x : It} (h : itemB k x = true) : x.text.size ≤ 60 := by
  unfold itemB at h
  rw [Bool.or_eq_true] at h
  rcases h with h | h
  · unfold misB at h
    simp only [Bool.and_eq_true] at h
    have := empty_size h.2
    omega
  · split at h
    · simp only [Bool.and_eq_true] at h
      have := empty_size h.1.1
      omega
    · split at h
      · unfold isNumI at h
        simp only [Bool.and_eq_true] at h
        have := empty_size h.1
        omega
      · split at h
        · simp only [Bool.and_eq_true, decide_eq_true_eq] at h
          exact h.2
        · exact absurd h (by decide)

theorem itB_text {k : Int} {ls : List ByteArray} {x : It} (h : itB k ls x = true) : x.text.size ≤ 60 := by
  unfold itB at h
  simp only [Bool.and_eq_true] at h
  exact item_text h.1.2

theorem node_facts {k : Int} {is : List It} {ps : List VT} {ns cs ls : List ByteArray} {c e : Int} (h : nodeB (.mk k is ps ns cs ls c e) = true) :
    (0 ≤ k ∧ k ≤ 5) ∧ lenN k is.length ps.length ≤ 40 ∧ (ns.length = 0 ∨ (ns.length = lenN k is.length ps.length ∧ allE ns = false)) ∧ labB 3 cs = true ∧ labB 20 ls = true ∧ za1 ns = true ∧ (∀ x ∈ is, itB k ls x = true) ∧ (ps.length = 0 ∨ k = 4) ∧ (k = 5 → is.length = 0 ∧ ns.length = 0) ∧ (ls.length = 0 ∨ k = 2) ∧ (k = 5 ∨ (c = 0 ∧ e = 0)) ∧ (k = 0 → is.length = 0 ∧ cs.length = 0) := by
  unfold nodeB at h
  simp only [Bool.and_eq_true] at h
  obtain ⟨h3, h4⟩ := h
  rw [List.all_eq_true] at h4
  unfold headB at h3
  simp only [Bool.and_eq_true, Bool.or_eq_true, Bool.not_eq_true', decide_eq_true_eq, decide_eq_false_iff_not] at h3
  obtain ⟨⟨⟨⟨⟨⟨⟨⟨⟨⟨a1, a2⟩, a3⟩, a4⟩, a5⟩, a6⟩, a7⟩, a8⟩, a9⟩, a10⟩, a11⟩ := h3
  have e : lenV (.mk k is ps ns cs ls c e) = lenN k is.length ps.length := rfl
  rw [e] at a2 a5
  refine ⟨a1, a2, a5, a3, a4, a6, h4, a8, ?_, a7, a9, ?_⟩
  · intro hk
    rcases a10 with h | h
    · exact absurd hk h
    · exact ⟨h.1.1.1, h.1.1.2⟩
  · intro hk
    rcases a11 with h | h
    · exact absurd hk h
    · exact h

theorem small_node (t : VT) : ∀ n, lB n t = true → szV t ≤ 1500 + 1700 * cellsV t := by
  induction t using VT.ind with
  | _ k is ps ns cs ls c e ih =>
    intro n h
    simp only [lB, Bool.and_eq_true] at h
    obtain ⟨h1, h2⟩ := h
    have hp : ∀ p ∈ ps, szV p ≤ 1500 + 1700 * cellsV p := fun p hp => ih p hp (n - 1) (lL_mem h2 p hp).2
    have hs : ∀ l : List VT, (∀ p ∈ l, szV p ≤ 1500 + 1700 * cellsV p) → szP l ≤ 1500 * l.length + 1700 * cellsL l := by
      intro l
      induction l with
      | nil => intro _; simp [szP]
      | cons q l ih =>
        intro h
        have e1 := h q (List.mem_cons_self)
        have e2 := ih fun p hp => h p (List.mem_cons_of_mem _ hp)
        simp only [szP, cellsL, List.length_cons]
        omega
    have hs := hs ps hp
    obtain ⟨_, _, a3, a4, a5, a6, a7, a8, a9, _⟩ := node_facts h1
    have l4 := lab_short a4
    have l5 := lab_short a5
    have z3 := stz_sh a6
    have z4 := stz_sh l4.2
    have z5 := stz_sh l5.2
    have zi := itz_sh (z := 60) (l := is) fun x hx => itB_text (a7 x hx)
    have e1 : szV (.mk k is ps ns cs ls c e) = (is.length + itz is) + (ps.length + szP ps) + (ns.length + stz ns) + (cs.length + stz cs) + (ls.length + stz ls) := by simp only [szV, szI, szS, szL_eq]
    have e2 : cellsV (.mk k is ps ns cs ls c e) = lenN k is.length ps.length + cellsL ps := rfl
    rw [e1, e2]
    unfold lenN at a3 ⊢
    by_cases h5 : k = 5
    · rw [if_pos h5] at a3 ⊢
      have := a9 h5
      omega
    · rw [if_neg h5] at a3 ⊢
      omega

theorem isV_small {t : VT} (h : isV t = true) : szV t ≤ 341500 := by
  unfold isV at h
  simp only [Bool.and_eq_true, decide_eq_true_eq] at h
  have := small_node t 3 h.1
  omega

theorem isV_node {t : VT} (h : isV t = true) : nodeB t = true := by
  unfold isV at h
  simp only [Bool.and_eq_true] at h
  have h1 := h.1
  obtain ⟨k, is, ps, ns, cs, ls, c, e⟩ := t
  simp only [lB, Bool.and_eq_true] at h1
  exact h1.1

end Go.Proofs.Ytmofcbpabdbjlaa

namespace Go.Proofs.Ytmofcbpabdbjlaa.J

set_option maxRecDepth 8000

open Go Go.RowKit

set_option linter.unusedVariables false

set_option linter.unusedSimpArgs false

section

variable {P : Program} {ops : Array Oper} {Q : Exit → Act → World → Prop} {md : Region.Mode}

/-- one row of the table: the numbers that come before, as bits -/
def rowM (md : Region.Mode) (T : List Nat) (o : Oper) : Nat := o.after.toList.foldl (fun a e => if Region.binds md e then a ||| (2 ^ e.on ||| T.getD e.on 0) else a) 0

def tabOk (md : Region.Mode) (ops : Array Oper) (T : List Nat) : Bool :=
  (List.range ops.size).all fun i => match ops[i]? with
    | none => true
    | some o => (rowM md T o == T.getD i 0) && o.after.all fun e => !Region.binds md e || decide (e.on < i)

def bitT (T : List Nat) (i k : Nat) : Bool := (T.getD i 0).testBit k

theorem fold_bit (T : List Nat) (k : Nat) : ∀ (l : List Edge) (a : Nat), (l.foldl (fun a e => if Region.binds md e then a ||| (2 ^ e.on ||| T.getD e.on 0) else a) a).testBit k = true →
    a.testBit k = true ∨ ∃ e ∈ l, Region.binds md e = true ∧ (e.on = k ∨ bitT T e.on k = true)
  | [], a, h => .inl h
  | e :: l, a, h => by
    rw [List.foldl_cons] at h
    rcases fold_bit T k l _ h with h | ⟨e', he, h⟩
    · by_cases hb : Region.binds md e = true
      · rw [if_pos hb, Nat.testBit_or, Nat.testBit_or, Bool.or_eq_true, Bool.or_eq_true] at h
        rcases h with h | h | h
        · exact .inl h
        · refine .inr ⟨e, List.mem_cons_self, hb, .inl ?_⟩
          rw [Nat.testBit_two_pow] at h
          simpa using h
        · exact .inr ⟨e, List.mem_cons_self, hb, .inr h⟩
      · rw [if_neg hb] at h; exact .inl h
    · exact .inr ⟨e', List.mem_cons_of_mem _ he, h⟩

theorem bit_anc {T : List Nat} (h : tabOk md ops T = true) : ∀ (f i : Nat), i < f → i < ops.size → ∀ k, bitT T i k = true → k ∈ anc md ops f i
  | 0, i, hf, _, _, _ => by omega
  | f + 1, i, hf, hi, k, hk => by
    have h1 := h
    unfold tabOk at h1
    rw [List.all_eq_true] at h1
    have h2 := h1 i (List.mem_range.2 hi)
    have ho : ops[i]? = some ops[i] := Array.getElem?_eq_getElem hi
    rw [ho] at h2
    simp only [Bool.and_eq_true, beq_iff_eq] at h2
    obtain ⟨h3, h4⟩ := h2
    unfold bitT at hk
    rw [← h3] at hk
    unfold rowM at hk
    rcases fold_bit T k _ _ hk with h5 | ⟨e, he, hb, h5⟩
    · simp at h5
    · unfold anc
      rw [ho]
      simp only [List.mem_flatMap]
      refine ⟨e, he, ?_⟩
      rw [if_pos hb]
      rcases h5 with h5 | h5
      · rw [h5]; exact List.mem_cons_self
      · have h6 : e.on < i := by
          rw [Array.all_eq_true'] at h4
          have := h4 e (Array.mem_toList_iff.1 he)
          simpa [hb] using this
        exact List.mem_cons_of_mem _ (bit_anc h f e.on (by omega) (by omega) k h5)

def jokT (md : Region.Mode) (ops : Array Oper) (n : Nat) (D : List Nat) (deps : Nat → List Nat) (T : List Nat) : Bool :=
  decide D.Nodup && Region.noSelect ops &&
  (D.all fun i => match ops[i]? with
    | none => false
    | some o =>
      (deps i).all (fun k => D.contains k && bitT T i k && (deps k).all fun m => (deps i).contains m) &&
      (match o.guard with | none => true | some (g, _) => (deps i).contains g && (dstOf ops g).isSome) &&
      (dstOf ops i).isSome &&
      D.all (fun j => match dstOf ops j with
        | none => true
        | some t => decide (t < n) && (i == j || dstOf ops i != some t) && (!(looks ops o).contains t || (deps i).contains j))) &&
  ((List.range ops.size).all fun i => D.contains i || D.all fun k => bitT T i k) &&
  ((List.range ops.size).all fun i => match ops[i]? with
    | none => true
    | some o => o.after.all fun e => !Region.binds md e || decide (e.on < i)) && tabOk md ops T

theorem jok_of {n : Nat} {D : List Nat} {deps : Nat → List Nat} {T : List Nat} (h : jokT md ops n D deps T = true) : jok md ops n D deps = true := by
  unfold jokT at h
  simp only [Bool.and_eq_true] at h
  obtain ⟨⟨⟨⟨⟨h1, h2⟩, h3⟩, h4⟩, h5⟩, h6⟩ := h
  have hb : ∀ i, i < ops.size → ∀ k, bitT T i k = true → (anc md ops ops.size i).contains k = true := fun i hi k hk => by
    have := bit_anc h6 ops.size i hi hi k hk
    simpa using this
  unfold jok
  simp only [Bool.and_eq_true]
  refine ⟨⟨⟨⟨h1, h2⟩, ?_⟩, ?_⟩, h5⟩
  · rw [List.all_eq_true] at h3 ⊢
    intro i hi
    have := h3 i hi
    cases ho : ops[i]? with
    | none => rw [ho] at this; exact this
    | some o =>
      have hlt : i < ops.size := (Array.getElem?_eq_some_iff.1 ho).1
      rw [ho] at this
      simp only [Bool.and_eq_true] at this ⊢
      obtain ⟨⟨⟨q1, q2⟩, q3⟩, q4⟩ := this
      refine ⟨⟨⟨?_, q2⟩, q3⟩, q4⟩
      rw [List.all_eq_true] at q1 ⊢
      intro k hk
      have := q1 k hk
      simp only [Bool.and_eq_true] at this ⊢
      exact ⟨⟨this.1.1, hb i hlt k this.1.2⟩, this.2⟩
  · rw [List.all_eq_true] at h4 ⊢
    intro i hi
    have := h4 i hi
    rw [Bool.or_eq_true] at this ⊢
    rcases this with h | h
    · exact .inl h
    · right
      rw [List.all_eq_true] at h ⊢
      exact fun k hk => hb i (List.mem_range.1 hi) k (h k hk)

theorem wp_region_t {id : Nat} {n : Nat} (Dv Df : List Nat) (T : List Nat) {deps : Nat → List Nat} {a0 : Act} {w w0 : World} {L : List Res} (F : Nat → (Nat → Yv) → Yv → Prop) {r : Nat} {lst : Array Bool}
    (hm : P.follows .mixedOrders = true) (hok : jokT .any ops n (Dv ++ Df) deps T = true) (hcok : cok Dv Df deps = true) (hn : a0.tmps.size = n) (hlen : (Dv ++ Df).length ≤ ops.size) (hr : (ops.size - (Dv ++ Df).length, listedOf ops.size (Dv ++ Df)) = (r, lst)) (hG : Own w0 L w)
    (chain : Chain P ops w0 L Dv a0 fun A => Each ops (stepN P w0 L Df deps F (fun vs => putL ops (fun k => (vs k).1) Df A)) Df ∧
      ∀ (vs : Nat → Yv) (w : World), Own w0 (L ++ Df.flatMap fun i => (vs i).2) w → (∀ i ∈ Df, F i (restr (deps i) vs) (vs i)) → wpAny P .any ops Q r lst (putL ops (fun k => (vs k).1) Df A) w) :
    (Code.region id ops true).wp P Q a0 w := wp_region_c Dv Df F hm (jok_of hok) hcok hn hlen hr hG chain

end

end Go.Proofs.Ytmofcbpabdbjlaa.J
