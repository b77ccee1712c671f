/-
  What is proved: how an argument that is a vector reads: as a tree whose integers and lengths a machine holds. plain facts on the sizes and the marks of vectors as trees.
  No condition beyond what the reading itself gives. No condition.
-/
import Derived.Test.YtmofcbpabdbjlaaVr
import Derived.Deep.Slices
import Derived.Deep.Fields
import Derived.ChangeSame
import Derived.Lib.SmallJoins
import Derived.Test.YtmofcbpabdbjlaaFmt
namespace Go.Proofs.Ytmofcbpabdbjlaa
set_option maxRecDepth 8000

section
open Go.ChangeShapes Go.WideShapes Go.RowKit Go.Joins Go.Deep
set_option linter.unusedVariables false
set_option linter.unusedSimpArgs false

def i64B (n : Int) : Prop := -9223372036854775808 ≤ n ∧ n ≤ 9223372036854775807
def wfI (x : It) : Prop := i64B x.num ∧ i64B x.den ∧ x.text.size ≤ maxLen
def wfS (l : List ByteArray) : Prop := l.length ≤ maxLen ∧ ∀ s ∈ l, s.size ≤ maxLen
mutual
def wfV : VT → Prop
  | .mk k is ps ns cs ls c e => (i64B k ∧ i64B c ∧ i64B e) ∧ (is.length ≤ maxLen ∧ ∀ x ∈ is, wfI x) ∧ (ps.length ≤ maxLen ∧ wfL ps) ∧ wfS ns ∧ wfS cs ∧ wfS ls
def wfL : List VT → Prop
  | [] => True
  | p :: ps => wfV p ∧ wfL ps
end
theorem wfL_mem {ps : List VT} (h : wfL ps) : ∀ p ∈ ps, wfV p := by
  induction ps with
  | nil => simp
  | cons q ps ih =>
    intro p hp
    rcases List.mem_cons.1 hp with rfl | hp
    · exact h.1
    · exact ih h.2 p hp
theorem wfL_of {ps : List VT} (h : ∀ p ∈ ps, wfV p) : wfL ps := by
  induction ps with
  | nil => trivial
  | cons q ps ih => exact ⟨h q (List.mem_cons_self), ih fun p hp => h p (List.mem_cons_of_mem _ hp)⟩

theorem list_of {α : Type} {p : Nat → α → Prop} : ∀ n, (∀ i, i < n → ∃ a, p i a) → ∃ l : List α, l.length = n ∧ ∀ i (h : i < l.length), p i l[i]
  | 0, _ => ⟨[], rfl, fun i h => absurd h (by simp)⟩
  | n + 1, h => by
    obtain ⟨l, hl, hp⟩ := list_of n (fun i hi => h i (by omega))
    obtain ⟨a, ha⟩ := h n (by omega)
    refine ⟨l ++ [a], by simp [hl], fun i hi => ?_⟩
    by_cases h0 : i < l.length
    · rw [List.getElem_append_left h0]; exact hp i h0
    · have : i = n := by simp at hi; omega
      subst this
      rw [List.getElem_append_right (by omega)]
      simpa using ha

section
variable {H : Type} {enc : TypeId × Value → H} {P : Program} {w : World} {base : Nat} {spare : Nat → Bool} {held : Bool}

theorem read_slice {α : Type} (f : α → List Value) (Q : α → Prop) {t e : TypeId} {sz fuel : Nat} {cs : List Value} {x : DataW H × List MemPlace} (hs0 : 0 < sz) (ht : P.underlying t = some (.slice e)) (hc : P.cellsOf e = sz)
    (hel : ∀ (n : Nat) (cs' : List Value) x', n < fuel → DataW.trod enc P w base spare held n e cs' = some x' → ∃ a, f a = cs' ∧ Q a) (h : DataW.trod enc P w base spare held fuel t cs = some x) :
    ∃ A c, ∃ l : List α, cs = [.slice A l.length c] ∧ (l.length ≤ maxLen ∧ l.length ≤ c) ∧ Sl w sz A l.length (l.flatMap f) ∧ ∀ a ∈ l, Q a ∧ (f a).length = sz := by
  rcases DataW.trod_slice ht h with ⟨rfl, _⟩ | ⟨a, len, cap, elems, rest, n, rfl, rfl, rfl, hb, hl, hm, hlen, hel', _, _⟩
  · exact ⟨none, 0, [], rfl, ⟨by simp [maxLen], by simp⟩, ⟨by simp, fun h => absurd h (by simp)⟩, by simp⟩
  · have key : ∀ i, i < len → ∃ v : α, Q v ∧ (f v).length = sz ∧ ∀ j, j < sz → w.cell? (a.add (i * sz + j)) = (f v)[j]? := fun i hi => by
      have h1 := hel' i hi
      rw [List.getElem?_eq_getElem (by omega)] at h1
      obtain ⟨cs', h2, h3⟩ := Option.bind_eq_some_iff.1 h1
      obtain ⟨v, hv, hq⟩ := hel n cs' _ (by omega) h3
      obtain ⟨_, hcl, hat⟩ := World.cells?_some h2
      rw [hc] at hcl hat
      refine ⟨v, hq, by rw [hv]; exact hcl, fun j hj => ?_⟩
      rw [hv, ← hat j hj, Go.Deep.add_add]
    obtain ⟨l, rfl, hp⟩ := list_of len key
    refine ⟨some a, cap, l, rfl, ⟨by omega, by omega⟩, ⟨flat_len l fun v hv => ?_, fun h0 => ?_⟩, fun v hv => ?_⟩
    · obtain ⟨i, hi, rfl⟩ := List.mem_iff_getElem.1 hv
      exact (hp i hi).2.1
    · have h0' := hp 0 h0
      have h1 := h0'.2.2 0 hs0
      rw [Nat.zero_mul, Nat.add_zero, List.getElem?_eq_getElem (by rw [h0'.2.1]; exact hs0)] at h1
      obtain ⟨e1, e2⟩ := addr_of_cell' h1
      refine ⟨a.block, a.off, by rw [← e1], e2, fun j u hu => ?_⟩
      have hflen : ∀ v ∈ l, (f v).length = sz := fun v hv => by
        obtain ⟨i, hi, rfl⟩ := List.mem_iff_getElem.1 hv
        exact (hp i hi).2.1
      have hj : j < l.length * sz := by rw [← flat_len l hflen]; exact (List.getElem?_eq_some_iff.1 hu).1
      have hq : j / sz < l.length := (Nat.div_lt_iff_lt_mul hs0).2 hj
      have hr : j % sz < sz := Nat.mod_lt _ hs0
      have e3 : j / sz * sz + j % sz = j := by rw [Nat.mul_comm]; exact Nat.div_add_mod j sz
      have h4 := (hp (j / sz) hq).2.2 (j % sz) hr
      have h5 := flat_at l hflen (j / sz) hq (j % sz) hr
      rw [e3] at h4 h5
      rw [e1, show (⟨a.block, a.off, none⟩ : Addr).add j = ⟨a.block, a.off + j, none⟩ from by unfold Addr.add; by_cases h0 : j = 0 <;> simp [h0]] at h4
      rw [h4, ← h5, hu]
    · obtain ⟨i, hi, rfl⟩ := List.mem_iff_getElem.1 hv
      exact ⟨(hp i hi).1, (hp i hi).2.1⟩

theorem trod3 {t : TypeId} {f0 f1 f2 : Field} {fuel : Nat} {cs : List Value} {x : DataW H × List MemPlace} (hs : P.underlying t = some (.struct #[f0, f1, f2])) (hone : oneCellFields P #[f0, f1, f2] = true) (hC : P.cellsOf t = 3)
    (h : DataW.trod enc P w base spare held fuel t cs = some x) :
    ∃ (v0 v1 v2 : Value) (y0 y1 y2 : DataW H × List MemPlace) (n : Nat), fuel = n + 1 ∧ cs = [v0, v1, v2] ∧ DataW.trod enc P w base spare held n f0.type [v0] = some y0 ∧ DataW.trod enc P w base spare held n f1.type [v1] = some y1 ∧ DataW.trod enc P w base spare held n f2.type [v2] = some y2 := by
  obtain ⟨xs, n, hn, hx, hlen0, hlen, hg⟩ := DataW.trod_struct hs h
  match cs, hlen0.trans hC with
  | [c0, c1, c2], _ =>
    obtain ⟨o0, k0⟩ := hone_of hone 0 f0 rfl
    obtain ⟨o1, k1⟩ := hone_of hone 1 f1 rfl
    obtain ⟨o2, k2⟩ := hone_of hone 2 f2 rfl
    match xs, hlen with
    | [y0, y1, y2], _ =>
      exact ⟨c0, c1, c2, y0, y1, y2, n, hn, rfl, by simpa [Value.cells, o0, k0] using hg 0 f0 rfl, by simpa [Value.cells, o1, k1] using hg 1 f1 rfl, by simpa [Value.cells, o2, k2] using hg 2 f2 rfl⟩

theorem trod8 {t : TypeId} {f0 f1 f2 f3 f4 f5 f6 f7 : Field} {fuel : Nat} {cs : List Value} {x : DataW H × List MemPlace} (hs : P.underlying t = some (.struct #[f0, f1, f2, f3, f4, f5, f6, f7])) (hone : oneCellFields P #[f0, f1, f2, f3, f4, f5, f6, f7] = true) (hC : P.cellsOf t = 8)
    (h : DataW.trod enc P w base spare held fuel t cs = some x) :
    ∃ (v0 v1 v2 v3 v4 v5 v6 v7 : Value) (y0 y1 y2 y3 y4 y5 y6 y7 : DataW H × List MemPlace) (n : Nat), fuel = n + 1 ∧ cs = [v0, v1, v2, v3, v4, v5, v6, v7] ∧
      DataW.trod enc P w base spare held n f0.type [v0] = some y0 ∧ DataW.trod enc P w base spare held n f1.type [v1] = some y1 ∧ DataW.trod enc P w base spare held n f2.type [v2] = some y2 ∧ DataW.trod enc P w base spare held n f3.type [v3] = some y3 ∧
      DataW.trod enc P w base spare held n f4.type [v4] = some y4 ∧ DataW.trod enc P w base spare held n f5.type [v5] = some y5 ∧ DataW.trod enc P w base spare held n f6.type [v6] = some y6 ∧ DataW.trod enc P w base spare held n f7.type [v7] = some y7 := by
  obtain ⟨xs, n, hn, hx, hlen0, hlen, hg⟩ := DataW.trod_struct hs h
  match cs, hlen0.trans hC with
  | [c0, c1, c2, c3, c4, c5, c6, c7], _ =>
    obtain ⟨o0, k0⟩ := hone_of hone 0 f0 rfl
    obtain ⟨o1, k1⟩ := hone_of hone 1 f1 rfl
    obtain ⟨o2, k2⟩ := hone_of hone 2 f2 rfl
    obtain ⟨o3, k3⟩ := hone_of hone 3 f3 rfl
    obtain ⟨o4, k4⟩ := hone_of hone 4 f4 rfl
    obtain ⟨o5, k5⟩ := hone_of hone 5 f5 rfl
    obtain ⟨o6, k6⟩ := hone_of hone 6 f6 rfl
    obtain ⟨o7, k7⟩ := hone_of hone 7 f7 rfl
    match xs, hlen with
    | [y0, y1, y2, y3, y4, y5, y6, y7], _ =>
      exact ⟨c0, c1, c2, c3, c4, c5, c6, c7, y0, y1, y2, y3, y4, y5, y6, y7, n, hn, rfl, by simpa [Value.cells, o0, k0] using hg 0 f0 rfl, by simpa [Value.cells, o1, k1] using hg 1 f1 rfl, by simpa [Value.cells, o2, k2] using hg 2 f2 rfl, by simpa [Value.cells, o3, k3] using hg 3 f3 rfl,
        by simpa [Value.cells, o4, k4] using hg 4 f4 rfl, by simpa [Value.cells, o5, k5] using hg 5 f5 rfl, by simpa [Value.cells, o6, k6] using hg 6 f6 rfl, by simpa [Value.cells, o7, k7] using hg 7 f7 rfl⟩
end

section
variable {H : Type} {enc : TypeId × Value → H} {W : World} {base : Nat} {spare : Nat → Bool} {held : Bool} {r : Reach} {b0 : Nat} {v : Value} {d : DataW H} {p : List MemPlace}

theorem read_strs {fuel : Nat} {cs : List Value} {x : DataW H × List MemPlace} (h : DataW.trod enc Try.prog W base spare held fuel 23 cs = some x) :
    ∃ A c, ∃ l : List ByteArray, cs = [.slice A l.length c] ∧ (wfS l ∧ l.length ≤ c) ∧ Sl W 1 A l.length (stc l) := by
  obtain ⟨A, c, l, h1, h2, h3, h4⟩ := read_slice (sz := 1) (fun s : ByteArray => [Value.string s]) (fun s => s.size ≤ maxLen) (by decide) Try.underlying23 (by kernel_rfl) (fun n cs' x' _ hx => by
    obtain ⟨s, e0, _, w0⟩ := DataW.trod_string Try.underlying9 hx
    exact ⟨s, e0.symm, w0⟩) h
  have e : l.flatMap (fun s : ByteArray => [Value.string s]) = stc l := by clear h4 h3 h2 h1; unfold stc; induction l with
    | nil => rfl
    | cons x l ih => rw [List.flatMap_cons, ih]; rfl
  exact ⟨A, c, l, h1, ⟨⟨h2.1, fun s hs => (h4 s hs).1⟩, h2.2⟩, by rw [← e]; exact h3⟩

theorem read_items {fuel : Nat} {cs : List Value} {x : DataW H × List MemPlace} (h : DataW.trod enc Try.prog W base spare held fuel 40 cs = some x) :
    ∃ A c, ∃ l : List It, cs = [.slice A l.length c] ∧ (l.length ≤ maxLen ∧ l.length ≤ c) ∧ (∀ x ∈ l, wfI x) ∧ Sl W 3 A l.length (itc l) := by
  obtain ⟨A, c, l, h1, h2, h3, h4⟩ := read_slice (sz := 3) itc1 wfI (by decide) Try.underlying40 (by kernel_rfl) (fun n cs' x' _ hx => by
    obtain ⟨c0, c1, c2, y0, y1, y2, m, _, rfl, h0, h1, h2⟩ := trod3 Try.underlying124 (by kernel_rfl) (by kernel_rfl) hx
    obtain ⟨n, e0, _, w0⟩ := DataW.trod_int Try.underlying3 h0
    obtain ⟨q, e1, _, w1⟩ := DataW.trod_int Try.underlying3 h1
    obtain ⟨t, e2, _, w2⟩ := DataW.trod_string Try.underlying9 h2
    simp at e0 e1 e2
    subst e0 e1 e2
    exact ⟨⟨n, q, t⟩, rfl, bounds_i64 w0, bounds_i64 w1, w2⟩) h
  exact ⟨A, c, l, h1, h2, fun x hx => (h4 x hx).1, h3⟩

theorem read_vec : ∀ (fuel : Nat) (cs : List Value) (x : DataW H × List MemPlace), DataW.trod enc Try.prog W base spare held fuel 42 cs = some x → ∃ t, RdV W t cs ∧ wfV t := by
  intro fuel
  induction fuel using Nat.strongRecOn with
  | _ fuel ih =>
    intro cs x h
    obtain ⟨c0, c1, c2, c3, c4, c5, c6, c7, y0, y1, y2, y3, y4, y5, y6, y7, m, hm, rfl, h0, h1, h2, h3, h4, h5, h6, h7⟩ := trod8 Try.underlying42 (by kernel_rfl) (by kernel_rfl) h
    obtain ⟨k, e0, _, w0⟩ := DataW.trod_int Try.underlying3 h0
    obtain ⟨c, e6, _, w6⟩ := DataW.trod_int Try.underlying3 h6
    obtain ⟨e, e7, _, w7⟩ := DataW.trod_int Try.underlying3 h7
    obtain ⟨Ai, ci, is, e1, l1, i1, s1⟩ := read_items h1
    obtain ⟨An, cn, ns, e3, n3, s3⟩ := read_strs h3
    obtain ⟨Ac, cc, cs, e4, n4, s4⟩ := read_strs h4
    obtain ⟨Al, cl, ls, e5, n5, s5⟩ := read_strs h5
    obtain ⟨Ap, cp, l, e2, l2, s2, q2⟩ := read_slice (fun a : VT × List Value => a.2) (fun a => RdV W a.1 a.2 ∧ wfV a.1) (by decide : 0 < 8) Try.underlying22 (by kernel_rfl) (fun n cs' x' hn hx => by
      obtain ⟨t, ht, hw⟩ := ih n (by omega) cs' x' hx
      exact ⟨(t, cs'), rfl, ht, hw⟩) h2
    simp only [List.cons.injEq, and_true] at e0 e1 e2 e3 e4 e5 e6 e7
    subst e0 e1 e2 e3 e4 e5 e6 e7
    have hlen : (l.map (·.1)).length = l.length := List.length_map ..
    refine ⟨.mk k is (l.map (·.1)) ns cs ls c e, ?_, ⟨⟨bounds_i64 w0, bounds_i64 w6, bounds_i64 w7⟩, ⟨l1.1, i1⟩, ⟨by rw [hlen]; exact l2.1, wfL_of fun p hp => ?_⟩, n3.1, n4.1, n5.1⟩⟩
    · have hsl : Sl W 8 Ap (l.map (·.1)).length (l.map (·.2)).flatten := by rw [hlen, ← List.flatMap_def]; exact s2
      have := RdV.mk (k := k) (c := c) (e := e) (ci := ci) (cp := cp) (cn := cn) (cc := cc) (cl := cl) s1 hsl (by simp) (fun i h h' => by
        simp only [List.getElem_map]
        exact (q2 _ (List.getElem_mem _)).1.1) s3 s4 s5 ⟨l1.2, by rw [hlen]; exact l2.2, n3.2, n4.2, n5.2⟩
      rw [hlen] at this
      exact this
    · obtain ⟨a, ha, rfl⟩ := List.mem_map.1 hp
      exact (q2 a ha).1.2

def ArgVec (w : World) (v : Value) : Prop := ∃ vs t, v = .agg vs.toArray ∧ RdV w t vs ∧ wfV t
def ArgVecs (w : World) (v : Value) : Prop := ∃ A c ps pvs, v = .slice A ps.length c ∧ RdL w A ps pvs ∧ ps.length ≤ maxLen ∧ wfL ps
theorem arg_vec (hv : Value.okWide Try.prog W r b0 42 v) (h : DataW.Trod enc Try.prog W base spare held 42 v d p) : ArgVec W v := by
  obtain ⟨cs, rfl, hsz⟩ := okWide_struct Try.underlying42 hv
  obtain ⟨fuel, hf⟩ := h
  obtain ⟨t, h1, h2⟩ := read_vec fuel _ _ hf
  exact ⟨cs.toList, t, by simp, h1, h2⟩

theorem arg_vecs (hv : Value.okWide Try.prog W r b0 22 v) (h : DataW.Trod enc Try.prog W base spare held 22 v d p) : ArgVecs W v := by
  obtain ⟨A, n, c, rfl⟩ := okWide_slice Try.underlying22 hv
  obtain ⟨fuel, hf⟩ := h
  obtain ⟨Ap, cp, l, e2, l2, s2, q2⟩ := read_slice (fun a : VT × List Value => a.2) (fun a => RdV W a.1 a.2 ∧ wfV a.1) (by decide : 0 < 8) Try.underlying22 (by kernel_rfl) (fun n cs' x' hn hx => by
    obtain ⟨t, ht, hw⟩ := read_vec n cs' x' hx
    exact ⟨(t, cs'), rfl, ht, hw⟩) hf
  simp only [Value.cells, List.cons.injEq, and_true] at e2
  rw [e2]
  have hlen : (l.map (·.1)).length = l.length := List.length_map ..
  refine ⟨Ap, cp, l.map (·.1), l.map (·.2), by rw [hlen], ⟨by rw [hlen, ← List.flatMap_def]; exact s2, by simp, fun i h h' => ?_⟩, by rw [hlen]; exact l2.1, wfL_of fun p hp => ?_⟩
  · simp only [List.getElem_map]
    exact (q2 _ (List.getElem_mem _)).1.1
  · obtain ⟨a, ha, rfl⟩ := List.mem_map.1 hp
    exact (q2 a ha).1.2
end

end

section
set_option linter.unusedVariables false
set_option linter.unusedSimpArgs false

/-! sizes -/
def itz : List It → Nat
  | [] => 0
  | x :: l => x.text.size + itz l
def szI (l : List It) : Nat := l.length + itz l
mutual
def szV : VT → Nat
  | .mk k is ps ns cs ls c e => szI is + szL ps + szS ns + szS cs + szS ls
def szL : List VT → Nat
  | [] => 0
  | p :: ps => 1 + szV p + szL ps
end
/-- the size of the parts, one by one, without their number -/
def szP : List VT → Nat
  | [] => 0
  | p :: ps => szV p + szP ps
theorem szL_eq (ps : List VT) : szL ps = ps.length + szP ps := by
  induction ps with
  | nil => rfl
  | cons p ps ih => simp only [szL, szP, List.length_cons, ih]; omega
theorem itz_app (a b : List It) : itz (a ++ b) = itz a + itz b := by
  induction a with
  | nil => simp [itz]
  | cons x a ih => simp [itz, ih, Nat.add_assoc]
theorem itz_succ {l : List It} {k : Nat} (h : k < l.length) : itz (l.take (k + 1)) = itz (l.take k) + (l[k]'h).text.size := by rw [take_snoc' h, itz_app]; simp [itz]
theorem itz_take_le (l : List It) (k : Nat) : itz (l.take k) ≤ itz l := by
  have := itz_app (l.take k) (l.drop k)
  rw [List.take_append_drop] at this
  omega
theorem szP_app (a b : List VT) : szP (a ++ b) = szP a + szP b := by
  induction a with
  | nil => simp [szP]
  | cons x a ih => simp [szP, ih, Nat.add_assoc]
theorem szP_succ {l : List VT} {k : Nat} (h : k < l.length) : szP (l.take (k + 1)) = szP (l.take k) + szV (l[k]'h) := by rw [take_snoc' h, szP_app]; simp [szP]
theorem szP_take_le (l : List VT) (k : Nat) : szP (l.take k) ≤ szP l := by
  have := szP_app (l.take k) (l.drop k)
  rw [List.take_append_drop] at this
  omega
theorem szP_mem {l : List VT} {k : Nat} (h : k < l.length) : szV (l[k]'h) ≤ szP l := by
  have := szP_succ h
  have := szP_take_le l (k + 1)
  omega
theorem stz_mem {l : List ByteArray} {k : Nat} (h : k < l.length) : (l[k]'h).size ≤ stz l := by
  have := stz_take_succ h
  have := stz_take_le l (k + 1)
  omega
theorem itz_mem {l : List It} {k : Nat} (h : k < l.length) : (l[k]'h).text.size ≤ itz l := by
  have := itz_succ h
  have := itz_take_le l (k + 1)
  omega

/-! marks -/
def mtx (k : Nat) : ByteArray := bstr (109 :: (if k = 0 then [48] else dig k))
def mkI1 (k i : Nat) : It := ⟨(k + 3 * i : Nat), (k + 3 * i + 1 : Nat), mtx (k + 3 * i + 2)⟩
def mkI (k n : Nat) : List It := (List.range n).map (mkI1 k)
def mkS (k n : Nat) : List ByteArray := (List.range n).map fun i => mtx (k + i)
theorem mkI_len (k n : Nat) : (mkI k n).length = n := by simp [mkI]
theorem mkS_len (k n : Nat) : (mkS k n).length = n := by simp [mkS]
theorem mkI_succ (k n : Nat) : mkI k (n + 1) = mkI k n ++ [mkI1 k n] := by simp [mkI, List.range_succ]
theorem mkS_succ (k n : Nat) : mkS k (n + 1) = mkS k n ++ [mtx (k + n)] := by simp [mkS, List.range_succ]
theorem mkI_at {k n i : Nat} (h : i < (mkI k n).length) : (mkI k n)[i] = mkI1 k i := by simp [mkI]
theorem mkS_at {k n i : Nat} (h : i < (mkS k n).length) : (mkS k n)[i] = mtx (k + i) := by simp [mkS]
mutual
def cntV : VT → Nat
  | .mk k is ps ns cs ls c e => 3 * is.length + cntL ps + ns.length + cs.length + ls.length
def cntL : List VT → Nat
  | [] => 0
  | p :: ps => (cntV p + 3) + cntL ps
end
def setT : VT → Int → Int → Int → VT
  | .mk _ is ps ns cs ls _ _, k, c, e => .mk k is ps ns cs ls c e
mutual
def mrkV : Nat → VT → VT
  | q, .mk k is ps ns cs ls c e => .mk k (mkI q is.length) (mrkL (q + 3 * is.length) ps) (mkS (q + 3 * is.length + cntL ps) ns.length) (mkS (q + 3 * is.length + cntL ps + ns.length) cs.length)
      (mkS (q + 3 * is.length + cntL ps + ns.length + cs.length) ls.length) c e
def mrkL : Nat → List VT → List VT
  | _, [] => []
  | q, p :: ps => setT (mrkV (q + 1) p) q (q + 1 + cntV p : Nat) (q + 2 + cntV p : Nat) :: mrkL (q + 3 + cntV p) ps
end
/-- a marked part -/
def mrkP (q : Nat) (p : VT) : VT := setT (mrkV (q + 1) p) q (q + 1 + cntV p : Nat) (q + 2 + cntV p : Nat)
theorem cntL_app (a b : List VT) : cntL (a ++ b) = cntL a + cntL b := by
  induction a with
  | nil => simp [cntL]
  | cons x a ih => simp [cntL, ih, Nat.add_assoc]
theorem cntL_succ {l : List VT} {k : Nat} (h : k < l.length) : cntL (l.take (k + 1)) = cntL (l.take k) + (cntV (l[k]'h) + 3) := by rw [take_snoc' h, cntL_app]; simp [cntL]
theorem cntL_take_le (l : List VT) (k : Nat) : cntL (l.take k) ≤ cntL l := by
  have := cntL_app (l.take k) (l.drop k)
  rw [List.take_append_drop] at this
  omega
theorem cntL_mem {l : List VT} {k : Nat} (h : k < l.length) : cntV (l[k]'h) + 3 + cntL (l.take k) ≤ cntL l := by
  have := cntL_succ h
  have := cntL_take_le l (k + 1)
  omega
theorem mrkL_app (q : Nat) (a b : List VT) : mrkL q (a ++ b) = mrkL q a ++ mrkL (q + cntL a) b := by
  induction a generalizing q with
  | nil => simp [mrkL, cntL]
  | cons x a ih => simp only [List.cons_append, mrkL, cntL, ih]; rw [show q + 3 + cntV x + cntL a = q + (cntV x + 3 + cntL a) by omega]
theorem mrkL_succ (q : Nat) {l : List VT} {k : Nat} (h : k < l.length) : mrkL q (l.take (k + 1)) = mrkL q (l.take k) ++ [mrkP (q + cntL (l.take k)) (l[k]'h)] := by
  rw [take_snoc' h, mrkL_app]; simp [mrkL, mrkP]
theorem mrkL_len (q : Nat) (l : List VT) : (mrkL q l).length = l.length := by
  induction l generalizing q with
  | nil => rfl
  | cons x a ih => simp [mrkL, ih]
theorem mrkL_at (q : Nat) (l : List VT) (k : Nat) (h : k < l.length) (h' : k < (mrkL q l).length) : (mrkL q l)[k] = mrkP (q + cntL (l.take k)) l[k] := by
  have h1 := mrkL_succ q h
  have e : mrkL q l = mrkL q (l.take (k + 1)) ++ mrkL (q + cntL (l.take (k + 1))) (l.drop (k + 1)) := by rw [← mrkL_app, List.take_append_drop]
  have hl : (mrkL q (l.take k)).length = k := by rw [mrkL_len, List.length_take]; omega
  have h2 : (mrkL q l)[k]? = some (mrkP (q + cntL (l.take k)) l[k]) := by
    rw [e, h1, List.append_assoc, List.getElem?_append_right (by omega), hl, Nat.sub_self]
    rfl
  exact (List.getElem?_eq_some_iff.1 h2).2

theorem cntL_ge (ps : List VT) : 3 * ps.length ≤ cntL ps := by
  induction ps with
  | nil => simp
  | cons p ps ih => simp only [cntL, List.length_cons]; omega

mutual
theorem cnt_sz : ∀ t, cntV t ≤ 3 * szV t
  | .mk k is ps ns cs ls c e => by
    have := cntL_sz ps
    simp only [cntV, szV, szI, szS]
    omega
theorem cntL_sz : ∀ ps, cntL ps ≤ 3 * szL ps
  | [] => by simp [cntL, szL]
  | p :: ps => by
    have := cnt_sz p
    have := cntL_sz ps
    simp only [cntL, szL]
    omega
end

end

end Go.Proofs.Ytmofcbpabdbjlaa
