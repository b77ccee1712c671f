/-
  What is proved: a slice literal of one element makes a block of the call's own. a slice literal of many elements, or of none, makes a block of the call's own.
  No condition.
-/
import Derived.Test.YtmofcbpabdbjlaaW2
import Derived.Great.BuildSlice
namespace Go.Proofs.Ytmofcbpabdbjlaa
set_option maxRecDepth 8000

section
open Go Go.RowKit
set_option linter.unusedSimpArgs false
set_option linter.unusedVariables false

theorem wpl_append {P : Program} {ops : Array Oper} {Q : Exit → Act → World → Prop} {rest : List Oper} {a : Act} {w : World} {d : Option Tmp} {xs : Array Operand} {ts : Array TypeId} {ty : TypeId} {pos : String} {aft : Array Edge} {g : Option (Nat × Bool)} (h : wpList P ops Q ({ dst := d, op := .call { callee := .builtin .append, args := xs, argTypes := ts }, type := ty, pos := pos, after := aft, guard := g } :: rest) a w) :
    wpList P ops Q ({ dst := d, op := .call { callee := .builtin .append, args := xs, argTypes := ts }, type := ty, pos := pos, after := aft, guard := g } :: rest) a w := h

/-- a new slice of one element -/
def J.freshS (E : TypeId) (cs : List Value) : Value × List Res → Prop := fun x => ∃ b, x = (.slice (some ⟨b, 0, none⟩) 1 1, [box b E cs])

section
variable {P : Program} {o : Oper} {a : Act} {w w' w0 : World} {K : Act → World → Prop} {Q : Exit → Act → World → Prop} {L : List Res} {ops : Array Oper} {rest : List Oper}

theorem wp_build_one (hO : Own w0 L w) {t : TypeId} {x : Operand} (ho : o.op = .buildSlice t 1 #[(0, x)]) {E sz bytes : Nat} [hT : RowT P t E sz bytes] {v : Value} (hx : a.eval x = v) {cs : List Value} (hv : v.cells = cs.toArray) (hl : cs.length = sz) (hs : sz ≤ 1000) {d : Tmp} (hd : o.dst = some d)
    (h : ∀ b w', Own w0 (L ++ [box b E cs]) w' → K (a.put (some d) (.slice (some ⟨b, 0, none⟩) 1 1)) w') : o.wp P a w K Q := by
  obtain ⟨i, z, h1, h2, h3, h4, h5, h6, h7⟩ := hT.of
  subst h4
  refine wp_buildSlice t E 1 #[(0, x)] ho cs.toArray i z h1 h2 h3 (by omega) (by omega) ?_ ?_
  · have := Go.Great.fill_whole h7 [v] ((Array.range (1 * i.size)).map (z.cells[· % z.cells.size]!)) (by intro u hu; rw [List.mem_singleton] at hu; rw [hu, hv]; simpa using hl) (by simp)
    simpa [hx, hv] using this
  · rw [hd]
    exact h _ _ (hO.addBox E cs)

theorem wpList_build_one (hO : Own w0 L w) {t : TypeId} {x : Operand} (ho : o.op = .buildSlice t 1 #[(0, x)]) (hw : Region.wanted o (yielded ops a.tmps) = true) {E sz bytes : Nat} [hT : RowT P t E sz bytes] {v : Value} (hx : a.eval x = v) {cs : List Value} (hv : v.cells = cs.toArray) (hl : cs.length = sz) (hs : sz ≤ 1000) {d : Tmp} (hd : o.dst = some d)
    {a' : Nat → Act} (ha : ∀ b, a.put (some d) (.slice (some ⟨b, 0, none⟩) 1 1) = a' b)
    (h : ∀ b w', Own w0 (L ++ [box b E cs]) w' → wpList P ops Q rest (a' b) w') : wpList P ops Q (o :: rest) a w :=
  wpList_of (hw := hw) (wp_build_one hO ho hx hv hl hs hd fun b w' h' => by rw [ha]; exact h b w' h')

/-- append of a slice that lies in a block of the call's own -/
theorem wp_append_box (hO : Own w0 L w) {s x : Operand} {t : TypeId} (ho : o.op = .call { callee := .builtin .append, args := #[s, x], argTypes := #[t, t] })
    {E sz bytes : Nat} [hT : RowT P t E sz bytes] {A : Option Addr} {n c : Nat} (hs : a.eval s = .slice A n c) {b m c' : Nat} (hx : a.eval x = .slice (some ⟨b, 0, none⟩) m c')
    (k : Nat) {xs : List Value} (hk : L[k]? = some (row E sz (.slice A n c) n xs)) (j : Nat) {t' : TypeId} {cs : List Value} (hj : L[j]? = some (box b t' cs)) (hl : cs.length = m * sz) (h1 : cs.all (·.oneCell') = true)
    (h63 : n + m ≤ 9223372036854775807) (hbytes : (n + m) * bytes ≤ 140737488355328) {d : Tmp} (hd : o.dst = some d)
    (h : ∀ A' c' w', Own w0 (L.set k (row E sz (.slice A' (n + m) c') (n + m) (xs ++ cs))) w' → K (a.put (some d) (.slice A' (n + m) c')) w') : o.wp P a w K Q := by
  refine wp_append_row hO (Below.refl _ _) ho hs hx k hk cs hl (fun i u hu => ?_) (fun u hu => (List.all_eq_true.1 h1) u hu) h63 hbytes hd h
  have e : (⟨b, 0, none⟩ : Addr).add i = ⟨b, i, none⟩ := by
    unfold Addr.add
    by_cases h0 : i = 0 <;> simp [h0]
  rw [e, hO.cell j hj]
  exact hu
theorem wpList_append_box (hO : Own w0 L w) {s x : Operand} {t : TypeId} (ho : o.op = .call { callee := .builtin .append, args := #[s, x], argTypes := #[t, t] }) (hw : Region.wanted o (yielded ops a.tmps) = true)
    {E sz bytes : Nat} [hT : RowT P t E sz bytes] {A : Option Addr} {n c : Nat} (hs : a.eval s = .slice A n c) {b m c' : Nat} (hx : a.eval x = .slice (some ⟨b, 0, none⟩) m c')
    (k : Nat) {xs : List Value} (hk : L[k]? = some (row E sz (.slice A n c) n xs)) (j : Nat) {t' : TypeId} {cs : List Value} (hj : L[j]? = some (box b t' cs)) (hl : cs.length = m * sz) (h1 : cs.all (·.oneCell') = true)
    (h63 : n + m ≤ 9223372036854775807) (hbytes : (n + m) * bytes ≤ 140737488355328) {d : Tmp} (hd : o.dst = some d) {a' : Option Addr → Nat → Act} (ha : ∀ A' c', a.put (some d) (.slice A' (n + m) c') = a' A' c')
    (h : ∀ A' c' w', Own w0 (L.set k (row E sz (.slice A' (n + m) c') (n + m) (xs ++ cs))) w' → wpList P ops Q rest (a' A' c') w') : wpList P ops Q (o :: rest) a w :=
  wpList_of (hw := hw) (wp_append_box hO ho hs hx k hk j hj hl h1 h63 hbytes hd fun A' c' w' h' => by rw [ha]; exact h A' c' w' h')
end

end

section
open Go Go.RowKit
set_option linter.unusedSimpArgs false
set_option linter.unusedVariables false

section
variable {P : Program} {o : Oper} {a : Act} {w w' w0 : World} {K : Act → World → Prop} {Q : Exit → Act → World → Prop} {L : List Res} {ops : Array Oper} {rest : List Oper}

theorem run_build_nil {t e : TypeId} {ie : TypeInfo} (hu : P.underlying t = some (.slice e)) (hie : P.info? e = some ie) :
    (Instr.buildSlice t 0 #[]).run P w = .ok (.slice (some ⟨w.heap.size, 0, none⟩) 0 0) (w.alloc (.cells #[] e)) := by
  have hf : Instr.fill (fun i => some (i * ie.size, ie.size)) #[] [] = some #[] := rfl
  have hr : Array.range 0 = #[] := rfl
  simp [Instr.buildSlice, run_underlying hu, sizeOf, typeInfo, hie, hr, hf, newRow]

/-- a slice literal makes a block of the call's own -/
theorem wp_build_list (hO : Own w0 L w) {t : TypeId} {n : Nat} {parts : Array (Nat × Operand)} (ho : o.op = .buildSlice t n parts) {E sz bytes : Nat} [hT : RowT P t E sz bytes]
    (vs : List Value) (hx : parts.toList.map (fun p => (p.1, a.eval p.2)) = (vs.zipIdx 0).map fun x => (x.2, x.1)) (hv : vs.all (fun v => v.cells.size == sz) = true) (hn : vs.length = n) (hs : n * sz ≤ 16777216)
    {cs : List Value} (hcs : vs.flatMap (fun v => v.cells.toList) = cs) {d : Tmp} (hd : o.dst = some d)
    (h : ∀ b w', Own w0 (L ++ [box b E cs]) w' → K (a.put (some d) (.slice (some ⟨b, 0, none⟩) n n)) w') : o.wp P a w K Q := by
  obtain ⟨i, z, h1, h2, h3, h4, h5, h6, h7⟩ := hT.of
  subst h4 hn hcs
  rw [List.all_eq_true] at hv
  have hx' : (parts.map fun (i, x) => (i, a.eval x)).toList = (vs.zipIdx 0).map fun x => (x.2, x.1) := by rw [Array.toList_map]; exact hx
  cases vs with
  | nil =>
    have hp : parts.map (fun (i, x) => (i, a.eval x)) = #[] := by
      apply Array.toList_inj.1; simpa using hx'
    unfold Oper.wp execOp
    simp only [ho, Sem.run_bind]
    rw [hp]
    simp only [List.length_nil]
    rw [run_build_nil h1 h2]
    simp only [Result.andThen_ok]
    have := h _ _ (hO.addBox E [])
    rw [← hd] at this
    exact this
  | cons v0 vs =>
    refine wp_buildSlice t E _ parts ho ((v0 :: vs).flatMap fun v => v.cells.toList).toArray i z h1 h2 h3 (by omega) ?_ ?_ ?_
    · intro h0
      rcases Nat.mul_eq_zero.1 h0 with h0 | h0
      · simp at h0
      · omega
    · rw [hx']
      exact Go.Great.fill_whole h7 (v0 :: vs) ((Array.range ((v0 :: vs).length * i.size)).map (z.cells[· % z.cells.size]!)) (fun u hu => by simpa using hv u hu) (by simp)
    · rw [hd]
      exact h _ _ (hO.addBox E _)

theorem wpList_build_list (hO : Own w0 L w) {t : TypeId} {n : Nat} {parts : Array (Nat × Operand)} (ho : o.op = .buildSlice t n parts) (hw : Region.wanted o (yielded ops a.tmps) = true) {E sz bytes : Nat} [hT : RowT P t E sz bytes]
    (vs : List Value) (hx : parts.toList.map (fun p => (p.1, a.eval p.2)) = (vs.zipIdx 0).map fun x => (x.2, x.1)) (hv : vs.all (fun v => v.cells.size == sz) = true) (hn : vs.length = n) (hs : n * sz ≤ 16777216)
    {cs : List Value} (hcs : vs.flatMap (fun v => v.cells.toList) = cs) {d : Tmp} (hd : o.dst = some d) {a' : Nat → Act} (ha : ∀ b, a.put (some d) (.slice (some ⟨b, 0, none⟩) n n) = a' b)
    (h : ∀ b w', Own w0 (L ++ [box b E cs]) w' → wpList P ops Q rest (a' b) w') : wpList P ops Q (o :: rest) a w :=
  wpList_of (hw := hw) (wp_build_list hO ho vs hx hv hn hs hcs hd fun b w' h' => by rw [ha]; exact h b w' h')
end

end

end Go.Proofs.Ytmofcbpabdbjlaa
