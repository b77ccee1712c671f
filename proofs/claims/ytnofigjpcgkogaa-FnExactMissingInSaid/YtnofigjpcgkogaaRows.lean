/-
  NARROWER THAN 'FOR EVERY INPUT', by the rows' own cells (each row's printed sentence says how): FnExactIsVector: loops · FnExactCellCount: loops · FnExactLengthOf: loops · FnExactEqualVectors: loops · FnExactImplicitClass: loops · FnExactMissingIn: loops · FnExactListVector: loops · FnExactNotVector: loops.
  DERIVED. THE GIVEN ROWS OF THIS SEAT. 12 by the template 'for every input the law returns true; each argument reads behind the call as it read before'; 0 by the template 'total and deterministic' (their statements: YtnofigjpcgkogaaTotals.lean).
  GIVEN WITH THE SEED: the statements are not yours to turn. If you find one false, say at which input.
  Laid BY PROGRAM, IN A SANDBOX (cutbox-rows.mjs): the forced cells as the released guide's own fill.sh prints them over the translation f54ef32af5c46e6a… (all of the seat's roots in one cut). By AI agents, Wed Nov 11 2026. No macro, syntax, notation, axiom, sorry.
-/
import Derived.Test.YtnofigjpcgkogaaChecked
import GoSem.Claim
import GoSem.ClaimJoined
import GoSem.ClaimMapViews
import Derived.JoinedTies
import Derived.KernelRfl
namespace Go.Proofs.Ytnofigjpcgkogaa
/- THE CELL 'sum', in the pinned program and in every row, IS THE sha256 OF THE DUMP (.gsa) THAT YtnofigjpcgkogaaProg.lean LOADS. Nothing in Lean hashes anything: it is a label: what it is worth is what the hold of that sum in a sandbox is worth. -/
noncomputable def Try.pinned : Pinned := { name := "ytnofigjpcgkogaa", sum := "f54ef32af5c46e6a6297fce4b452eb6e863cd98415dc588080bf85f94206c253", checked := Try.checked }
namespace Rows
def none {H : Type} : Left H := { results := [], args := [] }

/-- 'laws.FnExactLogicalVector': WHATEVER THE INPUT: true; the input reads as it did. -/
def fnExactLogicalVectorSpec : ChangeSpec := { name := "fnExactLogicalVector", fn := fun _ => fun
  | [d] => { results := [.lit (.bool true)], args := [d] }
  | _ => none }
def fnExactLogicalVectorRow : OpenClaim := { program := "ytnofigjpcgkogaa", sum := "f54ef32af5c46e6a6297fce4b452eb6e863cd98415dc588080bf85f94206c253", func := "loop.example/g03406/laws.FnExactLogicalVector", spec := "fnExactLogicalVector", recurses := true, apart := false }
def FnExactLogicalVectorSaid : Prop := fnExactLogicalVectorRow.holds Try.pinned (OpenSpec.ofChange fnExactLogicalVectorSpec)

/-- ITS FALSE NEIGHBOUR: 'it returns false'. Refute it at one input. -/
def fnExactLogicalVectorWrong : ChangeSpec := { name := "fnExactLogicalVector", fn := fun _ => fun
  | [d] => { results := [.lit (.bool false)], args := [d] }
  | _ => none }
def FnExactLogicalVectorWrongFalsely : Prop := fnExactLogicalVectorRow.holds Try.pinned (OpenSpec.ofChange fnExactLogicalVectorWrong)

/-- 'laws.FnExactSequenceOf': WHATEVER THE INPUT: true; the input reads as it did. -/
def fnExactSequenceOfSpec : ChangeSpec := { name := "fnExactSequenceOf", fn := fun _ => fun
  | [d1, d2] => { results := [.lit (.bool true)], args := [d1, d2] }
  | _ => none }
def fnExactSequenceOfRow : OpenClaim := { program := "ytnofigjpcgkogaa", sum := "f54ef32af5c46e6a6297fce4b452eb6e863cd98415dc588080bf85f94206c253", func := "loop.example/g03406/laws.FnExactSequenceOf", spec := "fnExactSequenceOf", recurses := true, apart := false }
def FnExactSequenceOfSaid : Prop := fnExactSequenceOfRow.holds Try.pinned (OpenSpec.ofChange fnExactSequenceOfSpec)

/-- ITS FALSE NEIGHBOUR: 'it returns false'. Refute it at one input. -/
def fnExactSequenceOfWrong : ChangeSpec := { name := "fnExactSequenceOf", fn := fun _ => fun
  | [d1, d2] => { results := [.lit (.bool false)], args := [d1, d2] }
  | _ => none }
def FnExactSequenceOfWrongFalsely : Prop := fnExactSequenceOfRow.holds Try.pinned (OpenSpec.ofChange fnExactSequenceOfWrong)

/-- 'laws.FnExactNumberVector': WHATEVER THE INPUT: true; the input reads as it did. -/
def fnExactNumberVectorSpec : ChangeSpec := { name := "fnExactNumberVector", fn := fun _ => fun
  | [d] => { results := [.lit (.bool true)], args := [d] }
  | _ => none }
def fnExactNumberVectorRow : OpenClaim := { program := "ytnofigjpcgkogaa", sum := "f54ef32af5c46e6a6297fce4b452eb6e863cd98415dc588080bf85f94206c253", func := "loop.example/g03406/laws.FnExactNumberVector", spec := "fnExactNumberVector", recurses := true, apart := false }
def FnExactNumberVectorSaid : Prop := fnExactNumberVectorRow.holds Try.pinned (OpenSpec.ofChange fnExactNumberVectorSpec)

/-- ITS FALSE NEIGHBOUR: 'it returns false'. Refute it at one input. -/
def fnExactNumberVectorWrong : ChangeSpec := { name := "fnExactNumberVector", fn := fun _ => fun
  | [d] => { results := [.lit (.bool false)], args := [d] }
  | _ => none }
def FnExactNumberVectorWrongFalsely : Prop := fnExactNumberVectorRow.holds Try.pinned (OpenSpec.ofChange fnExactNumberVectorWrong)

/-- 'laws.FnExactTextVector': WHATEVER THE INPUT: true; the input reads as it did. -/
def fnExactTextVectorSpec : ChangeSpec := { name := "fnExactTextVector", fn := fun _ => fun
  | [d] => { results := [.lit (.bool true)], args := [d] }
  | _ => none }
def fnExactTextVectorRow : OpenClaim := { program := "ytnofigjpcgkogaa", sum := "f54ef32af5c46e6a6297fce4b452eb6e863cd98415dc588080bf85f94206c253", func := "loop.example/g03406/laws.FnExactTextVector", spec := "fnExactTextVector", recurses := true, apart := false }
def FnExactTextVectorSaid : Prop := fnExactTextVectorRow.holds Try.pinned (OpenSpec.ofChange fnExactTextVectorSpec)

/-- ITS FALSE NEIGHBOUR: 'it returns false'. Refute it at one input. -/
def fnExactTextVectorWrong : ChangeSpec := { name := "fnExactTextVector", fn := fun _ => fun
  | [d] => { results := [.lit (.bool false)], args := [d] }
  | _ => none }
def FnExactTextVectorWrongFalsely : Prop := fnExactTextVectorRow.holds Try.pinned (OpenSpec.ofChange fnExactTextVectorWrong)

/-- 'laws.FnExactIsVector': WHATEVER THE INPUT: true; the input reads as it did. -/
def fnExactIsVectorSpec : ChangeSpec := { name := "fnExactIsVector", fn := fun _ => fun
  | [d] => { results := [.lit (.bool true)], args := [d] }
  | _ => none }
def fnExactIsVectorRow : OpenClaim := { program := "ytnofigjpcgkogaa", sum := "f54ef32af5c46e6a6297fce4b452eb6e863cd98415dc588080bf85f94206c253", func := "loop.example/g03406/laws.FnExactIsVector", spec := "fnExactIsVector", recurses := true, loops := true, apart := false }
def FnExactIsVectorSaid : Prop := fnExactIsVectorRow.holds Try.pinned (OpenSpec.ofChange fnExactIsVectorSpec)

/-- ITS FALSE NEIGHBOUR: 'it returns false'. Refute it at one input. -/
def fnExactIsVectorWrong : ChangeSpec := { name := "fnExactIsVector", fn := fun _ => fun
  | [d] => { results := [.lit (.bool false)], args := [d] }
  | _ => none }
def FnExactIsVectorWrongFalsely : Prop := fnExactIsVectorRow.holds Try.pinned (OpenSpec.ofChange fnExactIsVectorWrong)

/-- 'laws.FnExactCellCount': WHATEVER THE INPUT: true; the input reads as it did. -/
def fnExactCellCountSpec : ChangeSpec := { name := "fnExactCellCount", fn := fun _ => fun
  | [d] => { results := [.lit (.bool true)], args := [d] }
  | _ => none }
def fnExactCellCountRow : OpenClaim := { program := "ytnofigjpcgkogaa", sum := "f54ef32af5c46e6a6297fce4b452eb6e863cd98415dc588080bf85f94206c253", func := "loop.example/g03406/laws.FnExactCellCount", spec := "fnExactCellCount", recurses := true, loops := true, apart := false }
def FnExactCellCountSaid : Prop := fnExactCellCountRow.holds Try.pinned (OpenSpec.ofChange fnExactCellCountSpec)

/-- ITS FALSE NEIGHBOUR: 'it returns false'. Refute it at one input. -/
def fnExactCellCountWrong : ChangeSpec := { name := "fnExactCellCount", fn := fun _ => fun
  | [d] => { results := [.lit (.bool false)], args := [d] }
  | _ => none }
def FnExactCellCountWrongFalsely : Prop := fnExactCellCountRow.holds Try.pinned (OpenSpec.ofChange fnExactCellCountWrong)

/-- 'laws.FnExactLengthOf': WHATEVER THE INPUT: true; the input reads as it did. -/
def fnExactLengthOfSpec : ChangeSpec := { name := "fnExactLengthOf", fn := fun _ => fun
  | [d] => { results := [.lit (.bool true)], args := [d] }
  | _ => none }
def fnExactLengthOfRow : OpenClaim := { program := "ytnofigjpcgkogaa", sum := "f54ef32af5c46e6a6297fce4b452eb6e863cd98415dc588080bf85f94206c253", func := "loop.example/g03406/laws.FnExactLengthOf", spec := "fnExactLengthOf", recurses := true, loops := true, apart := false }
def FnExactLengthOfSaid : Prop := fnExactLengthOfRow.holds Try.pinned (OpenSpec.ofChange fnExactLengthOfSpec)

/-- ITS FALSE NEIGHBOUR: 'it returns false'. Refute it at one input. -/
def fnExactLengthOfWrong : ChangeSpec := { name := "fnExactLengthOf", fn := fun _ => fun
  | [d] => { results := [.lit (.bool false)], args := [d] }
  | _ => none }
def FnExactLengthOfWrongFalsely : Prop := fnExactLengthOfRow.holds Try.pinned (OpenSpec.ofChange fnExactLengthOfWrong)

/-- 'laws.FnExactEqualVectors': WHATEVER THE INPUT: true; the input reads as it did. -/
def fnExactEqualVectorsSpec : ChangeSpec := { name := "fnExactEqualVectors", fn := fun _ => fun
  | [d1, d2] => { results := [.lit (.bool true)], args := [d1, d2] }
  | _ => none }
def fnExactEqualVectorsRow : OpenClaim := { program := "ytnofigjpcgkogaa", sum := "f54ef32af5c46e6a6297fce4b452eb6e863cd98415dc588080bf85f94206c253", func := "loop.example/g03406/laws.FnExactEqualVectors", spec := "fnExactEqualVectors", recurses := true, loops := true, apart := false }
def FnExactEqualVectorsSaid : Prop := fnExactEqualVectorsRow.holds Try.pinned (OpenSpec.ofChange fnExactEqualVectorsSpec)

/-- ITS FALSE NEIGHBOUR: 'it returns false'. Refute it at one input. -/
def fnExactEqualVectorsWrong : ChangeSpec := { name := "fnExactEqualVectors", fn := fun _ => fun
  | [d1, d2] => { results := [.lit (.bool false)], args := [d1, d2] }
  | _ => none }
def FnExactEqualVectorsWrongFalsely : Prop := fnExactEqualVectorsRow.holds Try.pinned (OpenSpec.ofChange fnExactEqualVectorsWrong)

/-- 'laws.FnExactImplicitClass': WHATEVER THE INPUT: true; the input reads as it did. -/
def fnExactImplicitClassSpec : ChangeSpec := { name := "fnExactImplicitClass", fn := fun _ => fun
  | [d] => { results := [.lit (.bool true)], args := [d] }
  | _ => none }
def fnExactImplicitClassRow : OpenClaim := { program := "ytnofigjpcgkogaa", sum := "f54ef32af5c46e6a6297fce4b452eb6e863cd98415dc588080bf85f94206c253", func := "loop.example/g03406/laws.FnExactImplicitClass", spec := "fnExactImplicitClass", recurses := true, loops := true, apart := false }
def FnExactImplicitClassSaid : Prop := fnExactImplicitClassRow.holds Try.pinned (OpenSpec.ofChange fnExactImplicitClassSpec)

/-- ITS FALSE NEIGHBOUR: 'it returns false'. Refute it at one input. -/
def fnExactImplicitClassWrong : ChangeSpec := { name := "fnExactImplicitClass", fn := fun _ => fun
  | [d] => { results := [.lit (.bool false)], args := [d] }
  | _ => none }
def FnExactImplicitClassWrongFalsely : Prop := fnExactImplicitClassRow.holds Try.pinned (OpenSpec.ofChange fnExactImplicitClassWrong)

/-- 'laws.FnExactMissingIn': WHATEVER THE INPUT: true; the input reads as it did. -/
def fnExactMissingInSpec : ChangeSpec := { name := "fnExactMissingIn", fn := fun _ => fun
  | [d] => { results := [.lit (.bool true)], args := [d] }
  | _ => none }
def fnExactMissingInRow : OpenClaim := { program := "ytnofigjpcgkogaa", sum := "f54ef32af5c46e6a6297fce4b452eb6e863cd98415dc588080bf85f94206c253", func := "loop.example/g03406/laws.FnExactMissingIn", spec := "fnExactMissingIn", recurses := true, loops := true, apart := false }
def FnExactMissingInSaid : Prop := fnExactMissingInRow.holds Try.pinned (OpenSpec.ofChange fnExactMissingInSpec)

/-- ITS FALSE NEIGHBOUR: 'it returns false'. Refute it at one input. -/
def fnExactMissingInWrong : ChangeSpec := { name := "fnExactMissingIn", fn := fun _ => fun
  | [d] => { results := [.lit (.bool false)], args := [d] }
  | _ => none }
def FnExactMissingInWrongFalsely : Prop := fnExactMissingInRow.holds Try.pinned (OpenSpec.ofChange fnExactMissingInWrong)

/-- 'laws.FnExactListVector': WHATEVER THE INPUT: true; the input reads as it did. -/
def fnExactListVectorSpec : ChangeSpec := { name := "fnExactListVector", fn := fun _ => fun
  | [d1, d2] => { results := [.lit (.bool true)], args := [d1, d2] }
  | _ => none }
def fnExactListVectorRow : OpenClaim := { program := "ytnofigjpcgkogaa", sum := "f54ef32af5c46e6a6297fce4b452eb6e863cd98415dc588080bf85f94206c253", func := "loop.example/g03406/laws.FnExactListVector", spec := "fnExactListVector", recurses := true, loops := true, apart := false }
def FnExactListVectorSaid : Prop := fnExactListVectorRow.holds Try.pinned (OpenSpec.ofChange fnExactListVectorSpec)

/-- ITS FALSE NEIGHBOUR: 'it returns false'. Refute it at one input. -/
def fnExactListVectorWrong : ChangeSpec := { name := "fnExactListVector", fn := fun _ => fun
  | [d1, d2] => { results := [.lit (.bool false)], args := [d1, d2] }
  | _ => none }
def FnExactListVectorWrongFalsely : Prop := fnExactListVectorRow.holds Try.pinned (OpenSpec.ofChange fnExactListVectorWrong)

/-- 'laws.FnExactNotVector': WHATEVER THE INPUT: true; the input reads as it did. -/
def fnExactNotVectorSpec : ChangeSpec := { name := "fnExactNotVector", fn := fun _ => fun
  | [d] => { results := [.lit (.bool true)], args := [d] }
  | _ => none }
def fnExactNotVectorRow : OpenClaim := { program := "ytnofigjpcgkogaa", sum := "f54ef32af5c46e6a6297fce4b452eb6e863cd98415dc588080bf85f94206c253", func := "loop.example/g03406/laws.FnExactNotVector", spec := "fnExactNotVector", recurses := true, loops := true, apart := false }
def FnExactNotVectorSaid : Prop := fnExactNotVectorRow.holds Try.pinned (OpenSpec.ofChange fnExactNotVectorSpec)

/-- ITS FALSE NEIGHBOUR: 'it returns false'. Refute it at one input. -/
def fnExactNotVectorWrong : ChangeSpec := { name := "fnExactNotVector", fn := fun _ => fun
  | [d] => { results := [.lit (.bool false)], args := [d] }
  | _ => none }
def FnExactNotVectorWrongFalsely : Prop := fnExactNotVectorRow.holds Try.pinned (OpenSpec.ofChange fnExactNotVectorWrong)

/- THE SECOND FORM. 'bulk': how many values and letters a reading holds, each counted each time it is reached (what is shared counts as often as it is met; a slice's spare places count too). A statement '..UptoSaid' is the law's where the arguments, and the package variables that the reading takes, are together of bulk at most 1048576: NARROWER than '..Said'. Prove '..Said' where nothing that the law and all that it calls make is longer than what came in: it says more and counts as full. Else prove '..UptoSaid'. A law counts once. -/
mutual
def uptoBulk {H : Type} : DataW H → Nat
  | .lit (.string bytes) => bytes.length + 1
  | .lit _ => 1
  | .nil => 1
  | .ptr d => uptoBulk d + 1
  | .slice elems spare => uptoBulkAll elems + uptoBulkAll spare + 1
  | .agg parts => uptoBulkAll parts + 1
  | .iface _ d => uptoBulk d + 1
  | .map entries => uptoBulkEntries entries + 1
  | .held _ => 1
def uptoBulkAll {H : Type} : List (DataW H) → Nat
  | [] => 0
  | d :: r => uptoBulk d + uptoBulkAll r
def uptoBulkEntries {H : Type} : List (Lit × DataW H) → Nat
  | [] => 0
  | x :: r => uptoBulkEntry x + uptoBulkEntries r
def uptoBulkEntry {H : Type} : Lit × DataW H → Nat
  | (.string bytes, d) => bytes.length + uptoBulk d + 1
  | (_, d) => uptoBulk d + 1
 end
def uptoSmall : (H : Type) → List (DataW H) → Bool := fun _ ds => decide (uptoBulkAll ds ≤ 1048576)
def OpenSpec.upto (s : _root_.Go.ChangeSpec) : _root_.Go.OpenSpec := { _root_.Go.OpenSpec.ofChange s with cond := some uptoSmall }

/-- 'laws.FnExactLogicalVector', WHERE WHAT IT READS IS OF BULK AT MOST 1048576: true; the input reads as it did. -/
def fnExactLogicalVectorUptoRow : OpenClaim := { program := "ytnofigjpcgkogaa", sum := "f54ef32af5c46e6a6297fce4b452eb6e863cd98415dc588080bf85f94206c253", func := "loop.example/g03406/laws.FnExactLogicalVector", spec := "fnExactLogicalVector", recurses := true, apart := false, narrowed := true }
def FnExactLogicalVectorUptoSaid : Prop := fnExactLogicalVectorUptoRow.holds Try.pinned (OpenSpec.upto fnExactLogicalVectorSpec)

/-- 'laws.FnExactSequenceOf', WHERE WHAT IT READS IS OF BULK AT MOST 1048576: true; the input reads as it did. -/
def fnExactSequenceOfUptoRow : OpenClaim := { program := "ytnofigjpcgkogaa", sum := "f54ef32af5c46e6a6297fce4b452eb6e863cd98415dc588080bf85f94206c253", func := "loop.example/g03406/laws.FnExactSequenceOf", spec := "fnExactSequenceOf", recurses := true, apart := false, narrowed := true }
def FnExactSequenceOfUptoSaid : Prop := fnExactSequenceOfUptoRow.holds Try.pinned (OpenSpec.upto fnExactSequenceOfSpec)

/-- 'laws.FnExactNumberVector', WHERE WHAT IT READS IS OF BULK AT MOST 1048576: true; the input reads as it did. -/
def fnExactNumberVectorUptoRow : OpenClaim := { program := "ytnofigjpcgkogaa", sum := "f54ef32af5c46e6a6297fce4b452eb6e863cd98415dc588080bf85f94206c253", func := "loop.example/g03406/laws.FnExactNumberVector", spec := "fnExactNumberVector", recurses := true, apart := false, narrowed := true }
def FnExactNumberVectorUptoSaid : Prop := fnExactNumberVectorUptoRow.holds Try.pinned (OpenSpec.upto fnExactNumberVectorSpec)

/-- 'laws.FnExactTextVector', WHERE WHAT IT READS IS OF BULK AT MOST 1048576: true; the input reads as it did. -/
def fnExactTextVectorUptoRow : OpenClaim := { program := "ytnofigjpcgkogaa", sum := "f54ef32af5c46e6a6297fce4b452eb6e863cd98415dc588080bf85f94206c253", func := "loop.example/g03406/laws.FnExactTextVector", spec := "fnExactTextVector", recurses := true, apart := false, narrowed := true }
def FnExactTextVectorUptoSaid : Prop := fnExactTextVectorUptoRow.holds Try.pinned (OpenSpec.upto fnExactTextVectorSpec)

/-- 'laws.FnExactIsVector', WHERE WHAT IT READS IS OF BULK AT MOST 1048576: true; the input reads as it did. -/
def fnExactIsVectorUptoRow : OpenClaim := { program := "ytnofigjpcgkogaa", sum := "f54ef32af5c46e6a6297fce4b452eb6e863cd98415dc588080bf85f94206c253", func := "loop.example/g03406/laws.FnExactIsVector", spec := "fnExactIsVector", recurses := true, loops := true, apart := false, narrowed := true }
def FnExactIsVectorUptoSaid : Prop := fnExactIsVectorUptoRow.holds Try.pinned (OpenSpec.upto fnExactIsVectorSpec)

/-- 'laws.FnExactCellCount', WHERE WHAT IT READS IS OF BULK AT MOST 1048576: true; the input reads as it did. -/
def fnExactCellCountUptoRow : OpenClaim := { program := "ytnofigjpcgkogaa", sum := "f54ef32af5c46e6a6297fce4b452eb6e863cd98415dc588080bf85f94206c253", func := "loop.example/g03406/laws.FnExactCellCount", spec := "fnExactCellCount", recurses := true, loops := true, apart := false, narrowed := true }
def FnExactCellCountUptoSaid : Prop := fnExactCellCountUptoRow.holds Try.pinned (OpenSpec.upto fnExactCellCountSpec)

/-- 'laws.FnExactLengthOf', WHERE WHAT IT READS IS OF BULK AT MOST 1048576: true; the input reads as it did. -/
def fnExactLengthOfUptoRow : OpenClaim := { program := "ytnofigjpcgkogaa", sum := "f54ef32af5c46e6a6297fce4b452eb6e863cd98415dc588080bf85f94206c253", func := "loop.example/g03406/laws.FnExactLengthOf", spec := "fnExactLengthOf", recurses := true, loops := true, apart := false, narrowed := true }
def FnExactLengthOfUptoSaid : Prop := fnExactLengthOfUptoRow.holds Try.pinned (OpenSpec.upto fnExactLengthOfSpec)

/-- 'laws.FnExactEqualVectors', WHERE WHAT IT READS IS OF BULK AT MOST 1048576: true; the input reads as it did. -/
def fnExactEqualVectorsUptoRow : OpenClaim := { program := "ytnofigjpcgkogaa", sum := "f54ef32af5c46e6a6297fce4b452eb6e863cd98415dc588080bf85f94206c253", func := "loop.example/g03406/laws.FnExactEqualVectors", spec := "fnExactEqualVectors", recurses := true, loops := true, apart := false, narrowed := true }
def FnExactEqualVectorsUptoSaid : Prop := fnExactEqualVectorsUptoRow.holds Try.pinned (OpenSpec.upto fnExactEqualVectorsSpec)

/-- 'laws.FnExactImplicitClass', WHERE WHAT IT READS IS OF BULK AT MOST 1048576: true; the input reads as it did. -/
def fnExactImplicitClassUptoRow : OpenClaim := { program := "ytnofigjpcgkogaa", sum := "f54ef32af5c46e6a6297fce4b452eb6e863cd98415dc588080bf85f94206c253", func := "loop.example/g03406/laws.FnExactImplicitClass", spec := "fnExactImplicitClass", recurses := true, loops := true, apart := false, narrowed := true }
def FnExactImplicitClassUptoSaid : Prop := fnExactImplicitClassUptoRow.holds Try.pinned (OpenSpec.upto fnExactImplicitClassSpec)

/-- 'laws.FnExactMissingIn', WHERE WHAT IT READS IS OF BULK AT MOST 1048576: true; the input reads as it did. -/
def fnExactMissingInUptoRow : OpenClaim := { program := "ytnofigjpcgkogaa", sum := "f54ef32af5c46e6a6297fce4b452eb6e863cd98415dc588080bf85f94206c253", func := "loop.example/g03406/laws.FnExactMissingIn", spec := "fnExactMissingIn", recurses := true, loops := true, apart := false, narrowed := true }
def FnExactMissingInUptoSaid : Prop := fnExactMissingInUptoRow.holds Try.pinned (OpenSpec.upto fnExactMissingInSpec)

/-- 'laws.FnExactListVector', WHERE WHAT IT READS IS OF BULK AT MOST 1048576: true; the input reads as it did. -/
def fnExactListVectorUptoRow : OpenClaim := { program := "ytnofigjpcgkogaa", sum := "f54ef32af5c46e6a6297fce4b452eb6e863cd98415dc588080bf85f94206c253", func := "loop.example/g03406/laws.FnExactListVector", spec := "fnExactListVector", recurses := true, loops := true, apart := false, narrowed := true }
def FnExactListVectorUptoSaid : Prop := fnExactListVectorUptoRow.holds Try.pinned (OpenSpec.upto fnExactListVectorSpec)

/-- 'laws.FnExactNotVector', WHERE WHAT IT READS IS OF BULK AT MOST 1048576: true; the input reads as it did. -/
def fnExactNotVectorUptoRow : OpenClaim := { program := "ytnofigjpcgkogaa", sum := "f54ef32af5c46e6a6297fce4b452eb6e863cd98415dc588080bf85f94206c253", func := "loop.example/g03406/laws.FnExactNotVector", spec := "fnExactNotVector", recurses := true, loops := true, apart := false, narrowed := true }
def FnExactNotVectorUptoSaid : Prop := fnExactNotVectorUptoRow.holds Try.pinned (OpenSpec.upto fnExactNotVectorSpec)

end Rows
end Go.Proofs.Ytnofigjpcgkogaa
