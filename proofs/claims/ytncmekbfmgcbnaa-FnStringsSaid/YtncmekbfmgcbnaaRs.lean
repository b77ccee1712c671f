/-
  What is proved: how an argument that is a slice of bytes reads; sizes of a few numbers that are made of bits.
  No condition.
-/
import Derived.Test.YtncmekbfmgcbnaaStrs
import Derived.Deep.Slices
import Derived.Deep.Fields
import Derived.ChangeSame
import Derived.Lib.SmallJoins
namespace Go.Proofs.Ytncmekbfmgcbnaa
open Go.ChangeShapes Go.WideShapes Go.RowKit Go.Joins Go.Deep
set_option linter.unusedVariables false
set_option linter.unusedSimpArgs false

theorem flat_lenB {α : Type} {f : α → List Value} {sz : Nat} : ∀ (l : List α), (∀ x ∈ l, (f x).length = sz) → (l.flatMap f).length = l.length * sz
  | [], _ => by simp
  | x :: l, h => by
    rw [List.flatMap_cons, List.length_append, flat_lenB l (fun y hy => h y (List.mem_cons_of_mem _ hy)), h x (List.mem_cons_self), List.length_cons, Nat.succ_mul, Nat.add_comm]

theorem flat_atB {α : Type} {f : α → List Value} {sz : Nat} : ∀ (l : List α), (∀ x ∈ l, (f x).length = sz) → ∀ (i : Nat) (h : i < l.length) (j : Nat), j < sz → (l.flatMap f)[i * sz + j]? = (f l[i])[j]?
  | [], _, i, h, _, _ => by simp at h
  | x :: l, hf, 0, _, j, hj => by
    rw [List.flatMap_cons, Nat.zero_mul, Nat.zero_add, List.getElem?_append_left (by rw [hf x (List.mem_cons_self)]; exact hj)]
    rfl
  | x :: l, hf, i + 1, h, j, hj => by
    have hx := hf x (List.mem_cons_self)
    rw [List.flatMap_cons, List.getElem?_append_right (by rw [hx, Nat.succ_mul]; omega), hx, show (i + 1) * sz + j - sz = i * sz + j by rw [Nat.succ_mul]; omega]
    exact flat_atB l (fun y hy => hf y (List.mem_cons_of_mem _ hy)) i (by simpa using h) j hj

theorem list_ofB {α : Type} {p : Nat → α → Prop} : ∀ n, (∀ i, i < n → ∃ a, p i a) → ∃ l : List α, l.length = n ∧ ∀ i (h : i < l.length), p i l[i]
  | 0, _ => ⟨[], rfl, fun i h => absurd h (by simp)⟩
  | n + 1, h => by
    obtain ⟨l, hl, hp⟩ := list_ofB n (fun i hi => h i (by omega))
    obtain ⟨a, ha⟩ := h n (by omega)
    refine ⟨l ++ [a], by simp [hl], fun i hi => ?_⟩
    by_cases h0 : i < l.length
    · rw [List.getElem_append_left h0]; exact hp i h0
    · have : i = n := by simp at hi; omega
      subst this
      rw [List.getElem_append_right (by omega)]
      simpa using ha
section
variable {H : Type} {enc : TypeId × Value → H} {P : Program} {w : World} {base : Nat} {spare : Nat → Bool} {held : Bool}

theorem read_sliceB {α : Type} (f : α → List Value) (Q : α → Prop) {t e : TypeId} {sz fuel : Nat} {cs : List Value} {x : DataW H × List MemPlace} (hs0 : 0 < sz) (ht : P.underlying t = some (.slice e)) (hc : P.cellsOf e = sz)
    (hel : ∀ (n : Nat) (cs' : List Value) x', n < fuel → DataW.trod enc P w base spare held n e cs' = some x' → ∃ a, f a = cs' ∧ Q a) (h : DataW.trod enc P w base spare held fuel t cs = some x) :
    ∃ A c, ∃ l : List α, cs = [.slice A l.length c] ∧ (l.length ≤ maxLen ∧ l.length ≤ c) ∧ Sl w sz A l.length (l.flatMap f) ∧ ∀ a ∈ l, Q a ∧ (f a).length = sz := by
  rcases DataW.trod_slice ht h with ⟨rfl, _⟩ | ⟨a, len, cap, elems, rest, n, rfl, rfl, rfl, hb, hl, hm, hlen, hel', _, _⟩
  · exact ⟨none, 0, [], rfl, ⟨by simp [maxLen], by simp⟩, ⟨by simp, fun h => absurd h (by simp)⟩, by simp⟩
  · have key : ∀ i, i < len → ∃ v : α, Q v ∧ (f v).length = sz ∧ ∀ j, j < sz → w.cell? (a.add (i * sz + j)) = (f v)[j]? := fun i hi => by
      have h1 := hel' i hi
      rw [List.getElem?_eq_getElem (by omega)] at h1
      obtain ⟨cs', h2, h3⟩ := Option.bind_eq_some_iff.1 h1
      obtain ⟨v, hv, hq⟩ := hel n cs' _ (by omega) h3
      obtain ⟨_, hcl, hat⟩ := World.cells?_some h2
      rw [hc] at hcl hat
      refine ⟨v, hq, by rw [hv]; exact hcl, fun j hj => ?_⟩
      rw [hv, ← hat j hj, Go.Deep.add_add]
    obtain ⟨l, rfl, hp⟩ := list_ofB len key
    refine ⟨some a, cap, l, rfl, ⟨by omega, by omega⟩, ⟨flat_lenB l fun v hv => ?_, fun h0 => ?_⟩, fun v hv => ?_⟩
    · obtain ⟨i, hi, rfl⟩ := List.mem_iff_getElem.1 hv
      exact (hp i hi).2.1
    · have h0' := hp 0 h0
      have h1 := h0'.2.2 0 hs0
      rw [Nat.zero_mul, Nat.add_zero, List.getElem?_eq_getElem (by rw [h0'.2.1]; exact hs0)] at h1
      obtain ⟨e1, e2⟩ := addr_of_cell' h1
      refine ⟨a.block, a.off, by rw [← e1], e2, fun j u hu => ?_⟩
      have hflen : ∀ v ∈ l, (f v).length = sz := fun v hv => by
        obtain ⟨i, hi, rfl⟩ := List.mem_iff_getElem.1 hv
        exact (hp i hi).2.1
      have hj : j < l.length * sz := by rw [← flat_lenB l hflen]; exact (List.getElem?_eq_some_iff.1 hu).1
      have hq : j / sz < l.length := (Nat.div_lt_iff_lt_mul hs0).2 hj
      have hr : j % sz < sz := Nat.mod_lt _ hs0
      have e3 : j / sz * sz + j % sz = j := by rw [Nat.mul_comm]; exact Nat.div_add_mod j sz
      have h4 := (hp (j / sz) hq).2.2 (j % sz) hr
      have h5 := flat_atB l hflen (j / sz) hq (j % sz) hr
      rw [e3] at h4 h5
      rw [e1, show (⟨a.block, a.off, none⟩ : Addr).add j = ⟨a.block, a.off + j, none⟩ from by unfold Addr.add; by_cases h0 : j = 0 <;> simp [h0]] at h4
      rw [h4, ← h5, hu]
    · obtain ⟨i, hi, rfl⟩ := List.mem_iff_getElem.1 hv
      exact ⟨(hp i hi).1, (hp i hi).2.1⟩
end

def bys (l : List Int) : List Value := l.map (Value.int .u8)
theorem bys_at {l : List Int} {k : Nat} (h : k < l.length) : (bys l).getD k undef = .int .u8 (l[k]'h) := by
  simp [bys, List.getD_eq_getElem?_getD, h]
theorem Sl.by {w u : World} {A : Option Addr} {l : List Int} {n : Nat} (h : Sl w 1 A n (bys l)) (hb : Below w.heap.size w u) {i : Nat} (hi : i < n) (hl : i < l.length) : ∃ b off, A = some ⟨b, off, none⟩ ∧ b < w.heap.size ∧ u.cell? ⟨b, off + i, none⟩ = some (.int .u8 (l[i]'hl)) := by
  obtain ⟨b, off, e, hlt, hc⟩ := h.cell1 hi
  rw [bys_at hl] at hc
  exact ⟨b, off, e, hlt, (hb.cell (p := ⟨b, _, none⟩) hlt).trans hc⟩

def ArgBytes (w : World) (v : Value) : Prop := ∃ A n c l, v = .slice A n c ∧ n ≤ 9223372036854775807 ∧ Sl w 1 A n (bys l) ∧ ∀ z ∈ l, 0 ≤ z ∧ z ≤ 255

theorem arg_bytes {H : Type} {enc : TypeId × Value → H} {W : World} {base : Nat} {spare : Nat → Bool} {held : Bool} {r : Reach} {b0 : Nat} {v : Value} {d : DataW H} {p : List MemPlace}
    (hv : Value.okWide Try.prog W r b0 32 v) (h : DataW.Trod enc Try.prog W base spare held 32 v d p) : ArgBytes W v := by
  obtain ⟨A, n, c, rfl⟩ := okWide_slice Try.underlying32 hv
  obtain ⟨fuel, hf⟩ := h
  obtain ⟨A', c', l, e2, l2, s2, q2⟩ := read_sliceB (sz := 1) (fun z : Int => [Value.int .u8 z]) (fun z => 0 ≤ z ∧ z ≤ 255) (by decide) Try.underlying32 (by kernel_rfl) (fun n cs' x' hn hx => by
    obtain ⟨z, e0, _, w0⟩ := DataW.trod_int Try.underlying5 hx
    exact ⟨z, e0.symm, bounds_u8 w0⟩) hf
  simp only [Value.cells, List.cons.injEq, and_true] at e2
  rw [e2]
  have e : l.flatMap (fun z : Int => [Value.int .u8 z]) = bys l := by
    clear q2 s2 l2 e2
    unfold bys
    induction l with
    | nil => rfl
    | cons x l ih => rw [List.flatMap_cons, ih]; rfl
  exact ⟨A', _, c', l, rfl, by have := l2.1; unfold maxLen at this; exact this, by rw [← e]; exact s2, fun z hz => (q2 z hz).1⟩

theorem and_mask (x m : Int) (hm : 0 ≤ m ∧ m < 9223372036854775808) : 0 ≤ bits .and .i64 x m ∧ bits .and .i64 x m ≤ m := by
  have h2 : (BitVec.ofInt 64 m).toNat = m.toNat := by
    obtain ⟨k, rfl⟩ := Int.eq_ofNat_of_zero_le hm.1
    rw [BitVec.ofInt_natCast, BitVec.toNat_ofNat]
    exact Nat.mod_eq_of_lt (by omega)
  have h3 : (BitVec.ofInt 64 x &&& BitVec.ofInt 64 m).toNat ≤ m.toNat := by
    rw [BitVec.toNat_and, h2]
    exact Nat.and_le_right
  have e : bits .and .i64 x m = ((BitVec.ofInt 64 x &&& BitVec.ofInt 64 m).toNat : Int) := by
    show IntKind.i64.wrap ((BitVec.ofInt 64 x &&& BitVec.ofInt 64 m).toNat : Int) = _
    exact IntWalk.i64_in _ (by omega)
  rw [e]
  omega

end Go.Proofs.Ytncmekbfmgcbnaa
