/-
  What is proved: sizes and zero values of this seat's types.
  No condition.
-/
import Derived.Test.YtncmekbfmgcbnaaW2
import Derived.Test.YtncmekbfmgcbnaaChecked
namespace Go.Proofs.Ytncmekbfmgcbnaa
open Go Go.RowKit

instance : AggT Try.prog 25 3 := ⟨⟨_, Try.underlying25, rfl, by kernel_rfl⟩⟩
instance : ZeroT Try.prog 25 [.int .i64 0, .int .i64 0, .string ⟨#[]⟩] := ⟨⟨.agg #[.int .i64 0, .int .i64 0, .string ⟨#[]⟩], by kernel_rfl, rfl⟩⟩

instance : AggT Try.prog 23 3 := ⟨⟨_, Try.underlying23, rfl, by kernel_rfl⟩⟩
instance : ZeroT Try.prog 23 [.int .i64 0, .int .i64 0, .string ⟨#[]⟩] := ⟨⟨.agg #[.int .i64 0, .int .i64 0, .string ⟨#[]⟩], by kernel_rfl, rfl⟩⟩

instance : OneT Try.prog 3 := ⟨⟨_, Try.underlying3, rfl, by kernel_rfl⟩⟩

instance : OneT Try.prog 4 := ⟨⟨_, Try.underlying4, rfl, by kernel_rfl⟩⟩

instance : OneT Try.prog 9 := ⟨⟨_, Try.underlying9, rfl, by kernel_rfl⟩⟩

instance : OneT Try.prog 5 := ⟨⟨_, Try.underlying5, rfl, by kernel_rfl⟩⟩

instance : OneT Try.prog 32 := ⟨⟨_, Try.underlying32, rfl, by kernel_rfl⟩⟩

instance : OneT Try.prog 36 := ⟨⟨_, Try.underlying36, rfl, by kernel_rfl⟩⟩

instance : OneT Try.prog 41 := ⟨⟨_, Try.underlying41, rfl, by kernel_rfl⟩⟩

instance : StrT Try.prog 9 := ⟨Try.underlying9⟩

instance : ByteRow Try.prog 32 5 := ⟨by
  obtain ⟨i, hi, hzz⟩ := Option.map_eq_some_iff.1 (show (Try.prog.info? 5).map (fun i => (i.zero, i.size, i.bytes)) = some (some (.int .u8 0), 1, 1) by kernel_rfl)
  simp only [Prod.mk.injEq] at hzz
  exact ⟨i, Try.underlying32, hi, hzz.1, hzz.2.1, hzz.2.2⟩⟩

instance : RowT Try.prog 32 5 1 1 := .mk' (.int .u8 0) Try.underlying32 (by kernel_rfl) rfl (by decide)

instance : RowT Try.prog 36 3 1 8 := .mk' (.int .i64 0) Try.underlying36 (by kernel_rfl) rfl (by decide)

instance : RowT Try.prog 41 9 1 16 := .mk' (.string ⟨#[]⟩) Try.underlying41 (by kernel_rfl) rfl (by decide)

end Go.Proofs.Ytncmekbfmgcbnaa
