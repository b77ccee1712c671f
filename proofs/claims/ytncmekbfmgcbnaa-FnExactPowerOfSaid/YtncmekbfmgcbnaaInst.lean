/-
  What is proved: sizes and zero values of this seat's types.
  No condition.
-/
import Derived.Test.YtncmekbfmgcbnaaW
import Derived.Test.YtncmekbfmgcbnaaChecked
namespace Go.Proofs.Ytncmekbfmgcbnaa
open Go Go.RowKit

instance : AggT Try.prog 25 3 := ⟨⟨_, Try.underlying25, rfl, by kernel_rfl⟩⟩
instance : ZeroT Try.prog 25 [.int .i64 0, .int .i64 0, .string ⟨#[]⟩] := ⟨⟨.agg #[.int .i64 0, .int .i64 0, .string ⟨#[]⟩], by kernel_rfl, rfl⟩⟩

instance : AggT Try.prog 23 3 := ⟨⟨_, Try.underlying23, rfl, by kernel_rfl⟩⟩
instance : ZeroT Try.prog 23 [.int .i64 0, .int .i64 0, .string ⟨#[]⟩] := ⟨⟨.agg #[.int .i64 0, .int .i64 0, .string ⟨#[]⟩], by kernel_rfl, rfl⟩⟩

instance : OneT Try.prog 3 := ⟨⟨_, Try.underlying3, rfl, by kernel_rfl⟩⟩

instance : OneT Try.prog 4 := ⟨⟨_, Try.underlying4, rfl, by kernel_rfl⟩⟩

instance : OneT Try.prog 9 := ⟨⟨_, Try.underlying9, rfl, by kernel_rfl⟩⟩

instance : OneT Try.prog 5 := ⟨⟨_, Try.underlying5, rfl, by kernel_rfl⟩⟩

instance : OneT Try.prog 32 := ⟨⟨_, Try.underlying32, rfl, by kernel_rfl⟩⟩

instance : OneT Try.prog 36 := ⟨⟨_, Try.underlying36, rfl, by kernel_rfl⟩⟩

instance : OneT Try.prog 41 := ⟨⟨_, Try.underlying41, rfl, by kernel_rfl⟩⟩

end Go.Proofs.Ytncmekbfmgcbnaa
