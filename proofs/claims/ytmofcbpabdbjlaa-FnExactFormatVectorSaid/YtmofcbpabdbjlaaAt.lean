/-
  What is proved: what a function that hands back an owned vector and one more value returns, cell by cell; more places of a list.
  Condition: none.
-/
import Derived.Test.YtmofcbpabdbjlaaSqA
import Derived.Test.YtmofcbpabdbjlaaIsA
namespace Go.Proofs.Ytmofcbpabdbjlaa
set_option maxRecDepth 8000
open Go.RowKit Go.ChangeShapes Go.WideShapes Go.Deep
set_option linter.unusedVariables false
set_option linter.unusedSimpArgs false

theorem at12 {α : Type} {x0 x1 x2 x3 x4 x5 x6 x7 x8 x9 x10 x11 x12 : α} {l : List α} : (x0 :: x1 :: x2 :: x3 :: x4 :: x5 :: x6 :: x7 :: x8 :: x9 :: x10 :: x11 :: x12 :: l)[12]? = some x12 := rfl
theorem at13 {α : Type} {x0 x1 x2 x3 x4 x5 x6 x7 x8 x9 x10 x11 x12 x13 : α} {l : List α} : (x0 :: x1 :: x2 :: x3 :: x4 :: x5 :: x6 :: x7 :: x8 :: x9 :: x10 :: x11 :: x12 :: x13 :: l)[13]? = some x13 := rfl
theorem at14 {α : Type} {x0 x1 x2 x3 x4 x5 x6 x7 x8 x9 x10 x11 x12 x13 x14 : α} {l : List α} : (x0 :: x1 :: x2 :: x3 :: x4 :: x5 :: x6 :: x7 :: x8 :: x9 :: x10 :: x11 :: x12 :: x13 :: x14 :: l)[14]? = some x14 := rfl
theorem at15 {α : Type} {x0 x1 x2 x3 x4 x5 x6 x7 x8 x9 x10 x11 x12 x13 x14 x15 : α} {l : List α} : (x0 :: x1 :: x2 :: x3 :: x4 :: x5 :: x6 :: x7 :: x8 :: x9 :: x10 :: x11 :: x12 :: x13 :: x14 :: x15 :: l)[15]? = some x15 := rfl
theorem at16 {α : Type} {x0 x1 x2 x3 x4 x5 x6 x7 x8 x9 x10 x11 x12 x13 x14 x15 x16 : α} {l : List α} : (x0 :: x1 :: x2 :: x3 :: x4 :: x5 :: x6 :: x7 :: x8 :: x9 :: x10 :: x11 :: x12 :: x13 :: x14 :: x15 :: x16 :: l)[16]? = some x16 := rfl
theorem at17 {α : Type} {x0 x1 x2 x3 x4 x5 x6 x7 x8 x9 x10 x11 x12 x13 x14 x15 x16 x17 : α} {l : List α} : (x0 :: x1 :: x2 :: x3 :: x4 :: x5 :: x6 :: x7 :: x8 :: x9 :: x10 :: x11 :: x12 :: x13 :: x14 :: x15 :: x16 :: x17 :: l)[17]? = some x17 := rfl
theorem at18 {α : Type} {x0 x1 x2 x3 x4 x5 x6 x7 x8 x9 x10 x11 x12 x13 x14 x15 x16 x17 x18 : α} {l : List α} : (x0 :: x1 :: x2 :: x3 :: x4 :: x5 :: x6 :: x7 :: x8 :: x9 :: x10 :: x11 :: x12 :: x13 :: x14 :: x15 :: x16 :: x17 :: x18 :: l)[18]? = some x18 := rfl
theorem at19 {α : Type} {x0 x1 x2 x3 x4 x5 x6 x7 x8 x9 x10 x11 x12 x13 x14 x15 x16 x17 x18 x19 : α} {l : List α} : (x0 :: x1 :: x2 :: x3 :: x4 :: x5 :: x6 :: x7 :: x8 :: x9 :: x10 :: x11 :: x12 :: x13 :: x14 :: x15 :: x16 :: x17 :: x18 :: x19 :: l)[19]? = some x19 := rfl

/-- hands back an owned vector, cell by cell, and a value -/
def RetVE (t : VT) (y : Value) (w : World) (e : Ending) (w' : World) : Prop := ∃ (Q1 Q2 Q3 Q4 Q5 : Option Addr) (m1 m2 m3 m4 m5 : Nat) (F : List Res), e = .returned (.tuple #[.agg #[.int .i64 t.kind, .slice Q1 t.items.length m1, .slice Q2 t.parts.length m2, .slice Q3 t.names.length m3, .slice Q4 t.cls.length m4, .slice Q5 t.levels.length m5, .int .i64 t.code, .int .i64 t.env], y]) ∧ VO t [.int .i64 t.kind, .slice Q1 t.items.length m1, .slice Q2 t.parts.length m2, .slice Q3 t.names.length m3, .slice Q4 t.cls.length m4, .slice Q5 t.levels.length m5, .int .i64 t.code, .int .i64 t.env] F ∧ Own w [pack F] w'
theorem RetVE.ofS {P : Program} {f : Nat} {args : Array Value} {u : World} {t : VT} {s : ByteArray} (h : Calls P f args u (RetVS t s u)) : Calls P f args u (RetVE t (.string s) u) := h.mono fun e w' ⟨vs, F, he, hvo, hO⟩ => by
  obtain ⟨Q1, Q2, Q3, Q4, Q5, m1, m2, m3, m4, m5, rfl⟩ := hvo.ex
  exact ⟨Q1, Q2, Q3, Q4, Q5, m1, m2, m3, m4, m5, F, he, hvo, hO⟩
/-- hands back an owned vector and a truth -/
def RetVB (t : VT) (s : Bool) (w : World) (e : Ending) (w' : World) : Prop := ∃ vs F, e = .returned (.tuple #[.agg vs.toArray, .bool s]) ∧ VO t vs F ∧ Own w [pack F] w'
theorem RetVE.ofB {P : Program} {f : Nat} {args : Array Value} {u : World} {t : VT} {s : Bool} (h : Calls P f args u (RetVB t s u)) : Calls P f args u (RetVE t (.bool s) u) := h.mono fun e w' ⟨vs, F, he, hvo, hO⟩ => by
  obtain ⟨Q1, Q2, Q3, Q4, Q5, m1, m2, m3, m4, m5, rfl⟩ := hvo.ex
  exact ⟨Q1, Q2, Q3, Q4, Q5, m1, m2, m3, m4, m5, F, he, hvo, hO⟩
def J.freshVE (t : VT) (y : Value) : Value × List Res → Prop := fun x => ∃ (Q1 Q2 Q3 Q4 Q5 : Option Addr) (m1 m2 m3 m4 m5 : Nat) (F : List Res), x = (.tuple #[.agg #[.int .i64 t.kind, .slice Q1 t.items.length m1, .slice Q2 t.parts.length m2, .slice Q3 t.names.length m3, .slice Q4 t.cls.length m4, .slice Q5 t.levels.length m5, .int .i64 t.code, .int .i64 t.env], y], [pack F]) ∧ VO t [.int .i64 t.kind, .slice Q1 t.items.length m1, .slice Q2 t.parts.length m2, .slice Q3 t.names.length m3, .slice Q4 t.cls.length m4, .slice Q5 t.levels.length m5, .int .i64 t.code, .int .i64 t.env] F
/-- the first part of a tuple -/
def J.ex0 (v : Value) : Value := match v with | .tuple vs => vs.getD 0 undef | _ => undef
theorem J.ex0_eq (a b : Value) : J.ex0 (.tuple #[a, b]) = a := rfl
def J.ex1 (v : Value) : Value := match v with | .tuple vs => vs.getD 1 undef | _ => undef
theorem J.ex1_eq (a b : Value) : J.ex1 (.tuple #[a, b]) = b := rfl
/-- the value is a pair's first, its second -/
def J.isFst (p : Value) : Value × List Res → Prop := fun x => ∃ y, p = .tuple #[x.1, y] ∧ x.2 = []
def J.isSnd (p : Value) : Value × List Res → Prop := fun x => ∃ y, p = .tuple #[y, x.1] ∧ x.2 = []
theorem J.isFst_of {a b : Value} : J.isFst (.tuple #[a, b]) (a, []) := ⟨b, rfl, rfl⟩
theorem J.isSnd_of {a b : Value} : J.isSnd (.tuple #[a, b]) (b, []) := ⟨a, rfl, rfl⟩
theorem J.isFst_eq {a b : Value} {x : Value × List Res} (h : J.isFst (.tuple #[a, b]) x) : x = (a, []) := by
  obtain ⟨y, h1, h2⟩ := h
  obtain ⟨x1, x2⟩ := x
  simp at h1 h2
  rw [h1.1, h2]
theorem J.isSnd_eq {a b : Value} {x : Value × List Res} (h : J.isSnd (.tuple #[a, b]) x) : x = (b, []) := by
  obtain ⟨y, h1, h2⟩ := h
  obtain ⟨x1, x2⟩ := x
  simp at h1 h2
  rw [h1.2, h2]

end Go.Proofs.Ytmofcbpabdbjlaa
