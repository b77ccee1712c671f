/-
  What is proved: a slice literal of many elements, or of none, makes a block of the call's own.
  No condition.
-/
import Derived.Test.YtmofcbpabdbjlaaW3
namespace Go.Proofs.Ytmofcbpabdbjlaa
set_option maxRecDepth 8000
open Go Go.RowKit
set_option linter.unusedSimpArgs false
set_option linter.unusedVariables false

section
variable {P : Program} {o : Oper} {a : Act} {w w' w0 : World} {K : Act → World → Prop} {Q : Exit → Act → World → Prop} {L : List Res} {ops : Array Oper} {rest : List Oper}

theorem run_build_nil {t e : TypeId} {ie : TypeInfo} (hu : P.underlying t = some (.slice e)) (hie : P.info? e = some ie) :
    (Instr.buildSlice t 0 #[]).run P w = .ok (.slice (some ⟨w.heap.size, 0, none⟩) 0 0) (w.alloc (.cells #[] e)) := by
  have hf : Instr.fill (fun i => some (i * ie.size, ie.size)) #[] [] = some #[] := rfl
  have hr : Array.range 0 = #[] := rfl
  simp [Instr.buildSlice, run_underlying hu, sizeOf, typeInfo, hie, hr, hf, newRow]

/-- a slice literal makes a block of the call's own -/
theorem wp_build_list (hO : Own w0 L w) {t : TypeId} {n : Nat} {parts : Array (Nat × Operand)} (ho : o.op = .buildSlice t n parts) {E sz bytes : Nat} [hT : RowT P t E sz bytes]
    (vs : List Value) (hx : parts.toList.map (fun p => (p.1, a.eval p.2)) = (vs.zipIdx 0).map fun x => (x.2, x.1)) (hv : vs.all (fun v => v.cells.size == sz) = true) (hn : vs.length = n) (hs : n * sz ≤ 16777216)
    {cs : List Value} (hcs : vs.flatMap (fun v => v.cells.toList) = cs) {d : Tmp} (hd : o.dst = some d)
    (h : ∀ b w', Own w0 (L ++ [box b E cs]) w' → K (a.put (some d) (.slice (some ⟨b, 0, none⟩) n n)) w') : o.wp P a w K Q := by
  obtain ⟨i, z, h1, h2, h3, h4, h5, h6, h7⟩ := hT.of
  subst h4 hn hcs
  rw [List.all_eq_true] at hv
  have hx' : (parts.map fun (i, x) => (i, a.eval x)).toList = (vs.zipIdx 0).map fun x => (x.2, x.1) := by rw [Array.toList_map]; exact hx
  cases vs with
  | nil =>
    have hp : parts.map (fun (i, x) => (i, a.eval x)) = #[] := by
      apply Array.toList_inj.1; simpa using hx'
    unfold Oper.wp execOp
    simp only [ho, Sem.run_bind]
    rw [hp]
    simp only [List.length_nil]
    rw [run_build_nil h1 h2]
    simp only [Result.andThen_ok]
    have := h _ _ (hO.addBox E [])
    rw [← hd] at this
    exact this
  | cons v0 vs =>
    refine wp_buildSlice t E _ parts ho ((v0 :: vs).flatMap fun v => v.cells.toList).toArray i z h1 h2 h3 (by omega) ?_ ?_ ?_
    · intro h0
      rcases Nat.mul_eq_zero.1 h0 with h0 | h0
      · simp at h0
      · omega
    · rw [hx']
      exact Go.Great.fill_whole h7 (v0 :: vs) ((Array.range ((v0 :: vs).length * i.size)).map (z.cells[· % z.cells.size]!)) (fun u hu => by simpa using hv u hu) (by simp)
    · rw [hd]
      exact h _ _ (hO.addBox E _)

theorem wpList_build_list (hO : Own w0 L w) {t : TypeId} {n : Nat} {parts : Array (Nat × Operand)} (ho : o.op = .buildSlice t n parts) (hw : Region.wanted o (yielded ops a.tmps) = true) {E sz bytes : Nat} [hT : RowT P t E sz bytes]
    (vs : List Value) (hx : parts.toList.map (fun p => (p.1, a.eval p.2)) = (vs.zipIdx 0).map fun x => (x.2, x.1)) (hv : vs.all (fun v => v.cells.size == sz) = true) (hn : vs.length = n) (hs : n * sz ≤ 16777216)
    {cs : List Value} (hcs : vs.flatMap (fun v => v.cells.toList) = cs) {d : Tmp} (hd : o.dst = some d) {a' : Nat → Act} (ha : ∀ b, a.put (some d) (.slice (some ⟨b, 0, none⟩) n n) = a' b)
    (h : ∀ b w', Own w0 (L ++ [box b E cs]) w' → wpList P ops Q rest (a' b) w') : wpList P ops Q (o :: rest) a w :=
  wpList_of (hw := hw) (wp_build_list hO ho vs hx hv hn hs hcs hd fun b w' h' => by rw [ha]; exact h b w' h')
end
end Go.Proofs.Ytmofcbpabdbjlaa
