/-
  What is proved: the rule for regions that draw their order, its closed facts checked against a table of what comes before what (the check without one takes exponential time).
  No condition.
-/
import Derived.Test.YtmofcbpabdbjlaaJ
namespace Go.Proofs.Ytmofcbpabdbjlaa.J
set_option maxRecDepth 8000
open Go Go.RowKit
set_option linter.unusedVariables false
set_option linter.unusedSimpArgs false

section
variable {P : Program} {ops : Array Oper} {Q : Exit → Act → World → Prop} {md : Region.Mode}

/-- one row of the table: the numbers that come before, as bits -/
def rowM (md : Region.Mode) (T : List Nat) (o : Oper) : Nat := o.after.toList.foldl (fun a e => if Region.binds md e then a ||| (2 ^ e.on ||| T.getD e.on 0) else a) 0
def tabOk (md : Region.Mode) (ops : Array Oper) (T : List Nat) : Bool :=
  (List.range ops.size).all fun i => match ops[i]? with
    | none => true
    | some o => (rowM md T o == T.getD i 0) && o.after.all fun e => !Region.binds md e || decide (e.on < i)
def bitT (T : List Nat) (i k : Nat) : Bool := (T.getD i 0).testBit k

theorem fold_bit (T : List Nat) (k : Nat) : ∀ (l : List Edge) (a : Nat), (l.foldl (fun a e => if Region.binds md e then a ||| (2 ^ e.on ||| T.getD e.on 0) else a) a).testBit k = true →
    a.testBit k = true ∨ ∃ e ∈ l, Region.binds md e = true ∧ (e.on = k ∨ bitT T e.on k = true)
  | [], a, h => .inl h
  | e :: l, a, h => by
    rw [List.foldl_cons] at h
    rcases fold_bit T k l _ h with h | ⟨e', he, h⟩
    · by_cases hb : Region.binds md e = true
      · rw [if_pos hb, Nat.testBit_or, Nat.testBit_or, Bool.or_eq_true, Bool.or_eq_true] at h
        rcases h with h | h | h
        · exact .inl h
        · refine .inr ⟨e, List.mem_cons_self, hb, .inl ?_⟩
          rw [Nat.testBit_two_pow] at h
          simpa using h
        · exact .inr ⟨e, List.mem_cons_self, hb, .inr h⟩
      · rw [if_neg hb] at h; exact .inl h
    · exact .inr ⟨e', List.mem_cons_of_mem _ he, h⟩

theorem bit_anc {T : List Nat} (h : tabOk md ops T = true) : ∀ (f i : Nat), i < f → i < ops.size → ∀ k, bitT T i k = true → k ∈ anc md ops f i
  | 0, i, hf, _, _, _ => by omega
  | f + 1, i, hf, hi, k, hk => by
    have h1 := h
    unfold tabOk at h1
    rw [List.all_eq_true] at h1
    have h2 := h1 i (List.mem_range.2 hi)
    have ho : ops[i]? = some ops[i] := Array.getElem?_eq_getElem hi
    rw [ho] at h2
    simp only [Bool.and_eq_true, beq_iff_eq] at h2
    obtain ⟨h3, h4⟩ := h2
    unfold bitT at hk
    rw [← h3] at hk
    unfold rowM at hk
    rcases fold_bit T k _ _ hk with h5 | ⟨e, he, hb, h5⟩
    · simp at h5
    · unfold anc
      rw [ho]
      simp only [List.mem_flatMap]
      refine ⟨e, he, ?_⟩
      rw [if_pos hb]
      rcases h5 with h5 | h5
      · rw [h5]; exact List.mem_cons_self
      · have h6 : e.on < i := by
          rw [Array.all_eq_true'] at h4
          have := h4 e (Array.mem_toList_iff.1 he)
          simpa [hb] using this
        exact List.mem_cons_of_mem _ (bit_anc h f e.on (by omega) (by omega) k h5)

def jokT (md : Region.Mode) (ops : Array Oper) (n : Nat) (D : List Nat) (deps : Nat → List Nat) (T : List Nat) : Bool :=
  decide D.Nodup && Region.noSelect ops &&
  (D.all fun i => match ops[i]? with
    | none => false
    | some o =>
      (deps i).all (fun k => D.contains k && bitT T i k && (deps k).all fun m => (deps i).contains m) &&
      (match o.guard with | none => true | some (g, _) => (deps i).contains g && (dstOf ops g).isSome) &&
      (dstOf ops i).isSome &&
      D.all (fun j => match dstOf ops j with
        | none => true
        | some t => decide (t < n) && (i == j || dstOf ops i != some t) && (!(looks ops o).contains t || (deps i).contains j))) &&
  ((List.range ops.size).all fun i => D.contains i || D.all fun k => bitT T i k) &&
  ((List.range ops.size).all fun i => match ops[i]? with
    | none => true
    | some o => o.after.all fun e => !Region.binds md e || decide (e.on < i)) && tabOk md ops T

theorem jok_of {n : Nat} {D : List Nat} {deps : Nat → List Nat} {T : List Nat} (h : jokT md ops n D deps T = true) : jok md ops n D deps = true := by
  unfold jokT at h
  simp only [Bool.and_eq_true] at h
  obtain ⟨⟨⟨⟨⟨h1, h2⟩, h3⟩, h4⟩, h5⟩, h6⟩ := h
  have hb : ∀ i, i < ops.size → ∀ k, bitT T i k = true → (anc md ops ops.size i).contains k = true := fun i hi k hk => by
    have := bit_anc h6 ops.size i hi hi k hk
    simpa using this
  unfold jok
  simp only [Bool.and_eq_true]
  refine ⟨⟨⟨⟨h1, h2⟩, ?_⟩, ?_⟩, h5⟩
  · rw [List.all_eq_true] at h3 ⊢
    intro i hi
    have := h3 i hi
    cases ho : ops[i]? with
    | none => rw [ho] at this; exact this
    | some o =>
      have hlt : i < ops.size := (Array.getElem?_eq_some_iff.1 ho).1
      rw [ho] at this
      simp only [Bool.and_eq_true] at this ⊢
      obtain ⟨⟨⟨q1, q2⟩, q3⟩, q4⟩ := this
      refine ⟨⟨⟨?_, q2⟩, q3⟩, q4⟩
      rw [List.all_eq_true] at q1 ⊢
      intro k hk
      have := q1 k hk
      simp only [Bool.and_eq_true] at this ⊢
      exact ⟨⟨this.1.1, hb i hlt k this.1.2⟩, this.2⟩
  · rw [List.all_eq_true] at h4 ⊢
    intro i hi
    have := h4 i hi
    rw [Bool.or_eq_true] at this ⊢
    rcases this with h | h
    · exact .inl h
    · right
      rw [List.all_eq_true] at h ⊢
      exact fun k hk => hb i (List.mem_range.1 hi) k (h k hk)

theorem wp_region_t {id : Nat} {n : Nat} (Dv Df : List Nat) (T : List Nat) {deps : Nat → List Nat} {a0 : Act} {w w0 : World} {L : List Res} (F : Nat → (Nat → Yv) → Yv → Prop) {r : Nat} {lst : Array Bool}
    (hm : P.follows .mixedOrders = true) (hok : jokT .any ops n (Dv ++ Df) deps T = true) (hcok : cok Dv Df deps = true) (hn : a0.tmps.size = n) (hlen : (Dv ++ Df).length ≤ ops.size) (hr : (ops.size - (Dv ++ Df).length, listedOf ops.size (Dv ++ Df)) = (r, lst)) (hG : Own w0 L w)
    (chain : Chain P ops w0 L Dv a0 fun A => Each ops (stepN P w0 L Df deps F (fun vs => putL ops (fun k => (vs k).1) Df A)) Df ∧
      ∀ (vs : Nat → Yv) (w : World), Own w0 (L ++ Df.flatMap fun i => (vs i).2) w → (∀ i ∈ Df, F i (restr (deps i) vs) (vs i)) → wpAny P .any ops Q r lst (putL ops (fun k => (vs k).1) Df A) w) :
    (Code.region id ops true).wp P Q a0 w := wp_region_c Dv Df F hm (jok_of hok) hcok hn hlen hr hG chain
end
end Go.Proofs.Ytmofcbpabdbjlaa.J
