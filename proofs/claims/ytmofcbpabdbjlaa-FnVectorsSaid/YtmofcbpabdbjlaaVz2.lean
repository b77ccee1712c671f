/-
  What is proved: how single operations (loads, stores, new variables) turn what lies in the blocks that a call made itself.
  Condition: none beyond those of the theorems.
-/
import Derived.Deep.MidRow
import Derived.WalkKit
import Derived.Test.YtmofcbpabdbjlaaVz1
namespace Go.Proofs.Ytmofcbpabdbjlaa

set_option maxRecDepth 8000

open Go Go.RowKit

set_option linter.unusedSimpArgs false

set_option linter.unusedVariables false

/-- a struct type of n cells -/
class AggT (P : Program) (T : Nat) (n : outParam Nat) : Prop where
  of : ∃ d, P.underlying T = some d ∧ d.isRow = true ∧ (P.info? T).map (·.size) = some n

/-- a type of one cell -/
class OneT (P : Program) (T : Nat) : Prop where
  of : ∃ d, P.underlying T = some d ∧ d.isRow = false ∧ (P.info? T).map (·.size) = some 1

/-- the cells of a type's zero value -/
class ZeroT (P : Program) (T : Nat) (cs : outParam (List Value)) : Prop where
  of : ∃ z : Value, (P.info? T).map (·.zero) = some (some z) ∧ z.cells = cs.toArray

theorem at0 {α : Type} {x0 : α} {l : List α} : (x0 :: l)[0]? = some x0 := rfl

theorem at1 {α : Type} {x0 x1 : α} {l : List α} : (x0 :: x1 :: l)[1]? = some x1 := rfl

theorem at2 {α : Type} {x0 x1 x2 : α} {l : List α} : (x0 :: x1 :: x2 :: l)[2]? = some x2 := rfl

theorem at3 {α : Type} {x0 x1 x2 x3 : α} {l : List α} : (x0 :: x1 :: x2 :: x3 :: l)[3]? = some x3 := rfl

theorem at4 {α : Type} {x0 x1 x2 x3 x4 : α} {l : List α} : (x0 :: x1 :: x2 :: x3 :: x4 :: l)[4]? = some x4 := rfl

theorem at5 {α : Type} {x0 x1 x2 x3 x4 x5 : α} {l : List α} : (x0 :: x1 :: x2 :: x3 :: x4 :: x5 :: l)[5]? = some x5 := rfl

theorem at6 {α : Type} {x0 x1 x2 x3 x4 x5 x6 : α} {l : List α} : (x0 :: x1 :: x2 :: x3 :: x4 :: x5 :: x6 :: l)[6]? = some x6 := rfl

theorem at7 {α : Type} {x0 x1 x2 x3 x4 x5 x6 x7 : α} {l : List α} : (x0 :: x1 :: x2 :: x3 :: x4 :: x5 :: x6 :: x7 :: l)[7]? = some x7 := rfl

theorem at8 {α : Type} {x0 x1 x2 x3 x4 x5 x6 x7 x8 : α} {l : List α} : (x0 :: x1 :: x2 :: x3 :: x4 :: x5 :: x6 :: x7 :: x8 :: l)[8]? = some x8 := rfl

theorem at9 {α : Type} {x0 x1 x2 x3 x4 x5 x6 x7 x8 x9 : α} {l : List α} : (x0 :: x1 :: x2 :: x3 :: x4 :: x5 :: x6 :: x7 :: x8 :: x9 :: l)[9]? = some x9 := rfl

theorem at10 {α : Type} {x0 x1 x2 x3 x4 x5 x6 x7 x8 x9 x10 : α} {l : List α} : (x0 :: x1 :: x2 :: x3 :: x4 :: x5 :: x6 :: x7 :: x8 :: x9 :: x10 :: l)[10]? = some x10 := rfl

theorem at11 {α : Type} {x0 x1 x2 x3 x4 x5 x6 x7 x8 x9 x10 x11 : α} {l : List α} : (x0 :: x1 :: x2 :: x3 :: x4 :: x5 :: x6 :: x7 :: x8 :: x9 :: x10 :: x11 :: l)[11]? = some x11 := rfl

section

variable {P : Program} {o : Oper} {a : Act} {w w0 : World} {K : Act → World → Prop} {Q : Exit → Act → World → Prop} {L : List Res} {ops : Array Oper} {rest : List Oper}

theorem Own.range (h : Own w0 L w) (k : Nat) {b : Nat} {t : TypeId} {cs : List Value} (hk : L[k]? = some (box b t cs)) : w.rangeAt b 0 cs := fun j v hv => by
  rw [h.cell k hk, Nat.zero_add]; exact hv

theorem Own.there (h : Own w0 L w) (k : Nat) {b : Nat} {t : TypeId} {cs : List Value} (hk : L[k]? = some (box b t cs)) {n : Nat} (hn : n ≤ cs.length) : w.there b 0 n := fun j hj => by
  rw [h.cell k hk, h.mark k hk, Nat.zero_add]
  exact ⟨by rw [List.getElem?_eq_getElem (by omega)]; rfl, rfl⟩

theorem Own.setCells (h : Own w0 L w) (k : Nat) {b : Nat} {t : TypeId} : ∀ (vs : List Value) {cs : List Value} (i : Nat), L[k]? = some (box b t cs) → i + vs.length ≤ cs.length →
    Own w0 (L.set k (box b t (cs.take i ++ vs ++ cs.drop (i + vs.length)))) (w.setCells b i vs) := by
  intro vs
  induction vs generalizing w L with
  | nil =>
    intro cs i hk hl
    have e : L.set k (box b t (cs.take i ++ [] ++ cs.drop (i + ([] : List Value).length))) = L := by
      have : cs.take i ++ [] ++ cs.drop (i + ([] : List Value).length) = cs := by simp
      rw [this]
      refine List.ext_getElem? fun j => ?_
      rw [List.getElem?_set]
      split
      · rename_i e; subst e
        have := (List.getElem?_eq_some_iff.1 hk).1
        simp only [this, if_true, hk]
      · rfl
    rw [e]
    exact h
  | cons v vs ih =>
    intro cs i hk hl
    have h1 := h.store k hk i v
    have hk1 : (L.set k (box b t (cs.set i v)))[k]? = some (box b t (cs.set i v)) := by
      have := (List.getElem?_eq_some_iff.1 hk).1
      simp [this]
    have h2 := ih h1 (cs := cs.set i v) (i + 1) hk1 (by simp at hl ⊢; omega)
    rw [List.set_set] at h2
    have hil : i < cs.length := by simp at hl; omega
    have e : (cs.set i v).take (i + 1) ++ vs ++ (cs.set i v).drop (i + 1 + vs.length) = cs.take i ++ (v :: vs) ++ cs.drop (i + (v :: vs).length) := by
      rw [List.take_succ_eq_append_getElem (by simpa using hil), List.getElem_set_self, List.take_set_of_le (Nat.le_refl _), List.drop_set_of_lt (by omega)]
      simp [Nat.add_assoc, Nat.add_comm 1]
    rw [e] at h2
    exact h2

/-- a struct variable is read whole -/
theorem zah (hO : Own w0 L w) {ty : TypeId} {x : Operand} (ho : o.op = .load ty x) {b : Nat} (hx : a.eval x = .pointer (some ⟨b, 0, none⟩))
    (k : Nat) {t : TypeId} {cs : List Value} (hk : L[k]? = some (box b t cs)) {n : Nat} [hT : AggT P ty n] (hn : cs.length = n) {a' : Act} (ha : a.put o.dst (.agg cs.toArray) = a') (h : K a' w) : o.wp P a w K Q := by
  obtain ⟨d, h1, h2, h3⟩ := hT.of
  subst ha hn
  exact wp_load_mid ty x ho b 0 hx cs d (hO.range k hk) h1 h2 h3 h

/-- a cell of a variable is read -/
theorem wp_load_cell {ty : TypeId} {x : Operand} (ho : o.op = .load ty x) {p : Addr} (hx : a.eval x = .pointer (some p)) {v : Value} (hc : w.cell? p = some v) [hT : OneT P ty] {a' : Act} (ha : a.put o.dst v = a') (h : K a' w) : o.wp P a w K Q := by
  obtain ⟨d, h1, h2, h3⟩ := hT.of
  subst ha
  have hagg : (isAgg ty).run P w = .ok false w := by
    unfold isAgg
    rw [Sem.run_bind, run_underlying h1 w]
    cases d <;> simp_all [TypeDesc.isRow]
  unfold Oper.wp execOp
  simp only [ho, hx, Instr.loadAt, Instr.sureAddr, loadVar, Sem.run_bind, Sem.run_pure, Result.andThen_ok, hagg, Bool.false_eq_true, if_false]
  simp [load, Sem.run, hc, Result.andThen]
  exact h

theorem zad (hO : Own w0 L w) {ty : TypeId} {x : Operand} (ho : o.op = .load ty x) {b i : Nat} (hx : a.eval x = .pointer (some ⟨b, i, none⟩))
    (k : Nat) {t : TypeId} {cs : List Value} (hk : L[k]? = some (box b t cs)) [hT : OneT P ty] {v : Value} (hv : cs[i]? = some v) {a' : Act} (ha : a.put o.dst v = a') (h : K a' w) : o.wp P a w K Q :=
  wp_load_cell ho hx (by rw [hO.cell k hk]; exact hv) ha h

/-- a struct variable is written whole -/
theorem zas (hO : Own w0 L w) {ty : TypeId} {x y : Operand} (ho : o.op = .store ty x y) {b : Nat} (hx : a.eval x = .pointer (some ⟨b, 0, none⟩))
    (k : Nat) {t : TypeId} {cs : List Value} (hk : L[k]? = some (box b t cs)) {vs : List Value} (hy : a.eval y = .agg vs.toArray) (hn : vs.length = cs.length) {n : Nat} [hT : AggT P ty n] (hn2 : vs.length = n) (h1 : vs.all (·.oneCell') = true)
    {L' : List Res} (hL : L.set k (box b t vs) = L') (hd : o.dst = none) (h : ∀ w, Own w0 L' w → K a w) : o.wp P a w K Q := by
  obtain ⟨d, _, _, h3⟩ := hT.of
  subst hL hn2
  refine wp_store_mid ty x y ho b 0 vs.toArray hx hy (hO.there k hk (by simp; omega)) (by simpa using h3) (by simpa using h1) ?_
  have h2 := hO.setCells k vs 0 hk (by omega)
  rw [hd]
  refine h _ ?_
  simpa [hn] using h2

/-- a cell of a variable is written -/
theorem zau (hO : Own w0 L w) {ty : TypeId} {x y : Operand} (ho : o.op = .store ty x y) {b i : Nat} (hx : a.eval x = .pointer (some ⟨b, i, none⟩))
    (k : Nat) {t : TypeId} {cs : List Value} (hk : L[k]? = some (box b t cs)) (hi : i < cs.length) {v : Value} (hy : a.eval y = v) (h1 : v.oneCell' = true) [hT : OneT P ty]
    {L' : List Res} (hL : L.set k (box b t (cs.set i v)) = L') (hd : o.dst = none) (h : ∀ w, Own w0 L' w → K a w) : o.wp P a w K Q := by
  obtain ⟨d, e1, e2, e3⟩ := hT.of
  subst hL
  have hc : w.cell? ⟨b, i, none⟩ = some (cs[i]'hi) := by rw [hO.cell k hk, List.getElem?_eq_getElem hi]
  have hf := hO.mark k hk i
  have hcells : v.cells = #[v] := by cases v <;> simp_all [Value.cells, Value.oneCell']
  have hsz : (sizeOf ty).run P w = .ok 1 w := by
    unfold sizeOf typeInfo
    cases hq : P.info? ty with
    | none => rw [hq] at e3; simp at e3
    | some inf =>
      rw [hq] at e3
      simp at e3
      simp [Sem.run_bind, hq, e3]
  have hrun : (Instr.storeAt ty (.pointer (some ⟨b, i, none⟩)) v).run P w = .ok () (w.setCell ⟨b, i, none⟩ v) := by
    simp only [Instr.storeAt, Instr.sureAddr, storeVar, Sem.run_bind, Sem.run_pure, Result.andThen_ok, hsz, hcells]
    cases v <;> simp_all [storeCells, store, Sem.run, Sem.run_bind, Result.andThen, Addr.add, Value.oneCell', hc, hf]
  unfold Oper.wp execOp
  simp only [ho, hx, hy, Sem.run_bind, Sem.run_pure, Result.andThen_ok, hrun]
  show K (a.put o.dst undef) _
  rw [hd]
  exact h _ (hO.store k hk i v)

theorem run_zeroValue {T : Nat} {cs : List Value} [h : ZeroT P T cs] : ∃ z : Value, z.cells = cs.toArray ∧ ∀ w : World, (zeroValue T).run P w = .ok z w := by
  obtain ⟨z, h1, h2⟩ := h.of
  refine ⟨z, h2, fun w => ?_⟩
  unfold zeroValue typeInfo
  cases hq : P.info? T with
  | none => rw [hq] at h1; simp at h1
  | some inf =>
    rw [hq] at h1
    simp at h1
    simp [Sem.run_bind, hq, h1]

theorem Own.addBox (h : Own w0 L w) (t : TypeId) (cs : List Value) : Own w0 (L ++ [box w.heap.size t cs]) (w.alloc (.cells cs.toArray t)) :=
  (h.alloc t cs).perm (by simpa using (List.perm_append_comm (l₁ := [box w.heap.size t cs]) (l₂ := L)))

/-- a new variable -/
theorem wp_alloc_own (hO : Own w0 L w) {T : TypeId} (ho : o.op = .alloc T) {cs : List Value} [hT : ZeroT P T cs] {d : Tmp} (hd : o.dst = some d)
    (h : ∀ b w, Own w0 (L ++ [box b T cs]) w → K (a.put (some d) (.pointer (some ⟨b, 0, none⟩))) w) : o.wp P a w K Q := by
  obtain ⟨z, h1, h2⟩ := run_zeroValue (P := P) (T := T) (cs := cs)
  have hrun : (Instr.alloc T true (.tuple #[])).run P w = .ok (.pointer (some ⟨w.heap.size, 0, none⟩)) (w.alloc (.cells cs.toArray T)) := by
    unfold Instr.alloc
    simp [Sem.run_bind, h2, h1, newVar, newRow, newObj, Sem.run, Result.andThen]
  unfold Oper.wp execOp
  simp only [ho, Sem.run_bind, Sem.run_pure, Result.andThen_ok, hrun]
  show K (a.put o.dst _) _
  rw [hd]
  exact h _ _ (hO.addBox T cs)

theorem wp_box_own (hO : Own w0 L w) {T : TypeId} {x : Operand} (ho : o.op = .box T x) {cs : List Value} {v : Value} (hx : a.eval x = v) (hv : v.cells = cs.toArray) {d : Tmp} (hd : o.dst = some d)
    (h : ∀ b w, Own w0 (L ++ [box b T cs]) w → K (a.put (some d) (.pointer (some ⟨b, 0, none⟩))) w) : o.wp P a w K Q := by
  have hrun : (Instr.box T v).run P w = .ok (.pointer (some ⟨w.heap.size, 0, none⟩)) (w.alloc (.cells cs.toArray T)) := by
    unfold Instr.box
    simp [Sem.run_bind, hv, newVar, newRow, newObj, Sem.run, Result.andThen]
  unfold Oper.wp execOp
  simp only [ho, hx, Sem.run_bind, Sem.run_pure, Result.andThen_ok, hrun]
  show K (a.put o.dst _) _
  rw [hd]
  exact h _ _ (hO.addBox T cs)

/-! the same at a list of operations -/

theorem zba {hw : Region.wanted o (yielded ops a.tmps) = true} (h : o.wp P a w (wpList P ops Q rest) Q) : wpList P ops Q (o :: rest) a w := by
  unfold wpList
  rw [if_pos hw]
  exact .inl h

/-! (to try a law only at an operation of its kind) -/

theorem zaa {d : Option Tmp} {t ty : TypeId} {x : Operand} {pos : String} {aft : Array Edge} {g : Option (Nat × Bool)} (h : wpList P ops Q ({ dst := d, op := .load t x, type := ty, pos := pos, after := aft, guard := g } :: rest) a w) : wpList P ops Q ({ dst := d, op := .load t x, type := ty, pos := pos, after := aft, guard := g } :: rest) a w := h

theorem zab {d : Option Tmp} {t ty : TypeId} {x y : Operand} {pos : String} {aft : Array Edge} {g : Option (Nat × Bool)} (h : wpList P ops Q ({ dst := d, op := .store t x y, type := ty, pos := pos, after := aft, guard := g } :: rest) a w) : wpList P ops Q ({ dst := d, op := .store t x y, type := ty, pos := pos, after := aft, guard := g } :: rest) a w := h

theorem zac {d : Option Tmp} {t ty : TypeId} {pos : String} {aft : Array Edge} {g : Option (Nat × Bool)} (h : wpList P ops Q ({ dst := d, op := .alloc t, type := ty, pos := pos, after := aft, guard := g } :: rest) a w) : wpList P ops Q ({ dst := d, op := .alloc t, type := ty, pos := pos, after := aft, guard := g } :: rest) a w := h

theorem zaf {d : Option Tmp} {t ty : TypeId} {x : Operand} {pos : String} {aft : Array Edge} {g : Option (Nat × Bool)} (h : wpList P ops Q ({ dst := d, op := .box t x, type := ty, pos := pos, after := aft, guard := g } :: rest) a w) : wpList P ops Q ({ dst := d, op := .box t x, type := ty, pos := pos, after := aft, guard := g } :: rest) a w := h

theorem zag {d : Option Tmp} {t ty : TypeId} {n : Nat} {xs : Array (Nat × Operand)} {pos : String} {aft : Array Edge} {g : Option (Nat × Bool)} (h : wpList P ops Q ({ dst := d, op := .buildSlice t n xs, type := ty, pos := pos, after := aft, guard := g } :: rest) a w) : wpList P ops Q ({ dst := d, op := .buildSlice t n xs, type := ty, pos := pos, after := aft, guard := g } :: rest) a w := h

theorem wpList_load_box {ty : TypeId} {x : Operand} (ho : o.op = .load ty x) (hw : Region.wanted o (yielded ops a.tmps) = true) (hO : Own w0 L w) {b : Nat} (hx : a.eval x = .pointer (some ⟨b, 0, none⟩))
    (k : Nat) {t : TypeId} {cs : List Value} (hk : L[k]? = some (box b t cs)) {n : Nat} [hT : AggT P ty n] (hn : cs.length = n) {a' : Act} (ha : a.put o.dst (.agg cs.toArray) = a') (h : wpList P ops Q rest a' w) : wpList P ops Q (o :: rest) a w :=
  zba (hw := hw) (zah hO ho hx k hk hn ha h)

theorem zai {ty : TypeId} {x : Operand} (ho : o.op = .load ty x) (hw : Region.wanted o (yielded ops a.tmps) = true) (hO : Own w0 L w) {b i : Nat} (hx : a.eval x = .pointer (some ⟨b, i, none⟩))
    (k : Nat) {t : TypeId} {cs : List Value} (hk : L[k]? = some (box b t cs)) [hT : OneT P ty] {v : Value} (hv : cs[i]? = some v) {a' : Act} (ha : a.put o.dst v = a') (h : wpList P ops Q rest a' w) : wpList P ops Q (o :: rest) a w :=
  zba (hw := hw) (zad hO ho hx k hk hv ha h)

theorem wpList_store_box {ty : TypeId} {x y : Operand} (ho : o.op = .store ty x y) (hw : Region.wanted o (yielded ops a.tmps) = true) (hO : Own w0 L w) {b : Nat} (hx : a.eval x = .pointer (some ⟨b, 0, none⟩))
    (k : Nat) {t : TypeId} {cs : List Value} (hk : L[k]? = some (box b t cs)) {vs : List Value} (hy : a.eval y = .agg vs.toArray) (hn : vs.length = cs.length) {n : Nat} [hT : AggT P ty n] (hn2 : vs.length = n) (h1 : vs.all (·.oneCell') = true)
    {L' : List Res} (hL : L.set k (box b t vs) = L') (hd : o.dst = none) (h : ∀ w, Own w0 L' w → wpList P ops Q rest a w) : wpList P ops Q (o :: rest) a w :=
  zba (hw := hw) (zas hO ho hx k hk hy hn hn2 h1 hL hd h)

theorem wpList_store_field {ty : TypeId} {x y : Operand} (ho : o.op = .store ty x y) (hw : Region.wanted o (yielded ops a.tmps) = true) (hO : Own w0 L w) {b i : Nat} (hx : a.eval x = .pointer (some ⟨b, i, none⟩))
    (k : Nat) {t : TypeId} {cs : List Value} (hk : L[k]? = some (box b t cs)) (hi : i < cs.length) {v : Value} (hy : a.eval y = v) (h1 : v.oneCell' = true) [hT : OneT P ty]
    {L' : List Res} (hL : L.set k (box b t (cs.set i v)) = L') (hd : o.dst = none) (h : ∀ w, Own w0 L' w → wpList P ops Q rest a w) : wpList P ops Q (o :: rest) a w :=
  zba (hw := hw) (zau hO ho hx k hk hi hy h1 hL hd h)

theorem wpList_alloc_own {T : TypeId} (ho : o.op = .alloc T) (hw : Region.wanted o (yielded ops a.tmps) = true) (hO : Own w0 L w) {cs : List Value} [hT : ZeroT P T cs] {d : Tmp} (hd : o.dst = some d) {a' : Nat → Act} (ha : ∀ b, a.put (some d) (.pointer (some ⟨b, 0, none⟩)) = a' b)
    (h : ∀ b w, Own w0 (L ++ [box b T cs]) w → wpList P ops Q rest (a' b) w) : wpList P ops Q (o :: rest) a w :=
  zba (hw := hw) (wp_alloc_own hO ho hd fun b w hO => by rw [ha b]; exact h b w hO)

theorem wpList_box_own {T : TypeId} {x : Operand} (ho : o.op = .box T x) (hw : Region.wanted o (yielded ops a.tmps) = true) (hO : Own w0 L w) {cs : List Value} (hx : a.eval x = .agg cs.toArray) {d : Tmp} (hd : o.dst = some d) {a' : Nat → Act} (ha : ∀ b, a.put (some d) (.pointer (some ⟨b, 0, none⟩)) = a' b)
    (h : ∀ b w, Own w0 (L ++ [box b T cs]) w → wpList P ops Q rest (a' b) w) : wpList P ops Q (o :: rest) a w :=
  zba (hw := hw) (wp_box_own hO ho hx rfl hd fun b w hO => by rw [ha b]; exact h b w hO)

/-- (to give a new variable's block a name by its place) -/
theorem nm (q : Nat) {T : TypeId} {cs : List Value} (hq : L.length = q) {G : Nat → World → Prop} (h : ∀ b w, Own w0 (L ++ [box b T cs]) w → G b w) : ∀ b w, Own w0 (L ++ [box b T cs]) w → G b w := h

/-- the end: a struct variable is handed back -/
theorem zan {fn : Func} {R : Ending → World → Prop} {p : Tmp} {ty : TypeId} (hres : fn.results = #[.cell p ty]) (hO : Own w0 L w) {b : Nat} (hp : a.tmps.getD p undef = .pointer (some ⟨b, 0, none⟩))
    (k : Nat) {t : TypeId} {cs : List Value} (hk : L[k]? = some (box b t cs)) {n : Nat} [hT : AggT P ty n] (hn : cs.length = n) (hd : a.defers = []) (hR : R (.returned (.agg cs.toArray)) w) : bodyPost P fn R .ret a w := by
  obtain ⟨d, h1, h2, h3⟩ := hT.of
  subst hn
  refine ⟨hd, _, ?_, hR⟩
  have hl := run_loadVar_mid (P := P) w b 0 ty cs d (hO.range k hk) h1 h2 h3
  have hp' : a.tmps[p]?.getD undef = .pointer (some ⟨b, 0, none⟩) := by rw [← Array.getD_eq_getD_getElem?]; exact hp
  simp [results, hres, hp', asAddr, hl]

end

end Go.Proofs.Ytmofcbpabdbjlaa
