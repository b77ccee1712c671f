/-
  What is proved: things that a call made enter the things of its caller; a block that is known whole read as a row.
  No condition.
-/
import Derived.Test.YtmofcbpabdbjlaaOwn
import Derived.Test.YtmofcbpabdbjlaaBase
namespace Go.Proofs.Ytmofcbpabdbjlaa
set_option maxRecDepth 8000
open Go Go.RowKit

section
variable {w0 w w' : World} {L N : List Res}

theorem Own.call (h : Own w0 L w) (h' : Own w N w') : Own w0 (N ++ L) w' := by
  have hs := h.step h'.below
  refine ⟨hs.below, fun r hr => ?_, fun r hr b hb => ?_, List.pairwise_append.2 ⟨h'.sep, hs.sep, fun r hr s hsm b hrb hsb => ?_⟩⟩
  · rcases List.mem_append.1 hr with hr | hr
    · exact h'.holds r hr
    · exact hs.holds r hr
  · rcases List.mem_append.1 hr with hr | hr
    · have := h'.lo r hr b hb
      exact ⟨Nat.le_trans h.below.size this.1, this.2⟩
    · exact hs.lo r hr b hb
  · have := h'.lo r hr b hrb
    have := h.lo s hsm b hsb
    omega

theorem Own.box_sl (h : Own w0 L w) (k : Nat) {b : Nat} {t : TypeId} {cs : List Value} {sz n : Nat} (hk : L[k]? = some (box b t cs)) (hn : cs.length = n * sz) : Sl w sz (some ⟨b, 0, none⟩) n cs :=
  ⟨hn, fun _ => ⟨b, 0, rfl, (h.lt k hk).2, fun j u hu => by rw [Nat.zero_add, h.cell k hk]; exact hu⟩⟩
end
end Go.Proofs.Ytmofcbpabdbjlaa
