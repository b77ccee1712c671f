/-
  What is proved: how appends, made slices and stores into them turn what lies in the blocks that a call made itself. sizes and zero values of this seat's types.
  Condition: none beyond those of the theorems.
-/
import Derived.Lib.AppendStr
import Derived.Maps.AppendAt
import Derived.Test.YtmofcbpabdbjlaaChecked
import Derived.Test.YtmofcbpabdbjlaaVz1
import Derived.Test.YtmofcbpabdbjlaaVz2
namespace Go.Proofs.Ytmofcbpabdbjlaa

set_option maxRecDepth 8000

section

open Go Go.RowKit

set_option linter.unusedSimpArgs false

set_option linter.unusedVariables false

/-- a slice type: its element's type, cells, bytes -/
class RowT (P : Program) (T : TypeId) (E sz bytes : outParam Nat) : Prop where
  of : ∃ (i : TypeInfo) (z : Value), P.underlying T = some (.slice E) ∧ P.info? E = some i ∧ i.zero = some z ∧ i.size = sz ∧ i.bytes = bytes ∧ z.cells.size = sz ∧ 0 < sz

theorem RowT.mk' {P : Program} {T E sz bytes : Nat} (z : Value) (h1 : P.underlying T = some (.slice E)) (h2 : (P.info? E).map (fun i => (i.zero, i.size, i.bytes)) = some (some z, sz, bytes)) (h3 : z.cells.size = sz) (h4 : 0 < sz) : RowT P T E sz bytes := by
  obtain ⟨i, hi, hzz⟩ := Option.map_eq_some_iff.1 h2
  simp only [Prod.mk.injEq] at hzz
  exact ⟨i, z, h1, hi, hzz.1, hzz.2.1, hzz.2.2, h3, h4⟩

class StrT (P : Program) (U : TypeId) : Prop where
  of : P.underlying U = some .string

/-- bytes -/
class ByteRow (P : Program) (T : TypeId) (E : outParam Nat) : Prop where
  of : ∃ (i : TypeInfo), P.underlying T = some (.slice E) ∧ P.info? E = some i ∧ i.zero = some (.int .u8 0) ∧ i.size = 1 ∧ i.bytes = 1

section

variable {P : Program} {o : Oper} {a : Act} {w w' w0 : World} {K : Act → World → Prop} {Q : Exit → Act → World → Prop} {L : List Res} {ops : Array Oper} {rest : List Oper}

theorem own_slice {base e sz n : Nat} {v : Value} {xs : List Value} (h : w.ownsRow base e sz v n xs) : ∃ A c, v = .slice A n c := by
  rcases h.2 with ⟨rfl, rfl⟩ | ⟨g, cap, cur, rfl, _⟩
  · exact ⟨none, 0, rfl⟩
  · exact ⟨_, _, rfl⟩

theorem own_base {base base' e sz n : Nat} {v : Value} {xs : List Value} (h : w.ownsRow base e sz v n xs) (hb : ∀ k, v.ownBlock = some k → base' ≤ k) : w.ownsRow base' e sz v n xs := by
  refine ⟨h.1, ?_⟩
  rcases h.2 with h2 | ⟨g, cap, cur, hv, hg, hh, r⟩
  · exact .inl h2
  · exact .inr ⟨g, cap, cur, hv, hb g (by rw [hv]; rfl), hh, r⟩

/-- the row at place k has grown -/
theorem Own.grow (h : Own w0 L w) (k : Nat) {e sz n n' : Nat} {v v' : Value} {xs xs' : List Value} (hk : L[k]? = some (row e sz v n xs)) (hown : w'.ownsRow w0.heap.size e sz v' n' xs') (hg : w.grownBy w' v.ownBlock)
    (hb : v'.ownBlock = v.ownBlock ∨ ∀ k, v'.ownBlock = some k → w.heap.size ≤ k) : Own w0 (L.set k (row e sz v' n' xs')) w' :=
  h.at_ k hk fun L' h' => h'.turn hg.os hg.tape hg.output hg.size (fun b hb1 hb2 => hg.block b hb1 (fun e => hb2 e.symm)) (own_base hown (fun _ _ => Nat.zero_le _)) (fun b hb1 => by
    rcases hb with hb | hb
    · left; show v.ownBlock = some b; rw [← hb]; exact hb1
    · right; exact ⟨hb b hb1, (hown.lt b hb1).2⟩)

/-- a nil slice is a row, too -/
theorem Own.addNil (h : Own w0 L w) (e sz : Nat) : Own w0 (L ++ [row e sz (.slice none 0 0) 0 []]) w := by
  refine (h.add (Below.refl _ _) (row e sz (.slice none 0 0) 0 []) (World.ownsRow_nil _ _ _ _) (fun b hb => by cases hb)).perm ?_
  exact (List.perm_append_comm (l₁ := [_]) (l₂ := L))

/-- what a callee has handed back -/
theorem Own.addRow (h : Own w0 L w) {e sz n : Nat} {v : Value} {xs : List Value} (hb : Below w.heap.size w w') (hown : w'.ownsRow w.heap.size e sz v n xs) : Own w0 (L ++ [row e sz v n xs]) w' := by
  refine (h.add hb (row e sz v n xs) (own_base hown (fun _ _ => Nat.zero_le _)) (fun b hb => hown.lt b hb)).perm ?_
  exact (List.perm_append_comm (l₁ := [_]) (l₂ := L))

theorem Own.row_own (h : Own w0 L w) (k : Nat) {e sz n : Nat} {v : Value} {xs : List Value} (hk : L[k]? = some (row e sz v n xs)) : w.ownsRow w0.heap.size e sz v n xs :=
  own_base (h.get k hk) (fun b hb => (h.lo _ (List.mem_of_getElem? hk) b hb).1)

theorem Own.row_sl (h : Own w0 L w) (k : Nat) {e sz n c : Nat} {A : Option Addr} {xs : List Value} (hk : L[k]? = some (row e sz (.slice A n c) n xs)) : Sl w sz A n xs := Sl.of_own (h.row_own k hk)

/-- append of a slice's elements to a row of the call's own; news are the elements' cells -/
theorem wp_append_row (hO : Own w0 L w) {W : World} (hW : Below w.heap.size w W) {s x : Operand} {t : TypeId} (ho : o.op = .call { callee := .builtin .append, args := #[s, x], argTypes := #[t, t] })
    {E sz bytes : Nat} [hT : RowT P t E sz bytes] {A : Option Addr} {n c : Nat} (hs : a.eval s = .slice A n c) {ad : Addr} {m c' : Nat} (hx : a.eval x = .slice (some ad) m c')
    (k : Nat) {xs : List Value} (hk : L[k]? = some (row E sz (.slice A n c) n xs)) (news : List Value) (hl : news.length = m * sz) (hnews : ∀ j u, news[j]? = some u → W.cell? (ad.add j) = some u) (h1 : ∀ u ∈ news, u.oneCell' = true)
    (h63 : n + m ≤ 9223372036854775807) (hbytes : (n + m) * bytes ≤ 140737488355328) {d : Tmp} (hd : o.dst = some d)
    (h : ∀ A' c' w', Own w0 (L.set k (row E sz (.slice A' (n + m) c') (n + m) (xs ++ news))) w' → K (a.put (some d) (.slice A' (n + m) c')) w') : o.wp P a W K Q := by
  obtain ⟨i, z, t1, t2, t3, t4, t5, t6, t7⟩ := hT.of
  have hO' := hO.step hW
  obtain ⟨v', w', hr, h2, h3, _, h5⟩ := run_append_own_at (P := P) W w0.heap.size t o.type E i z sz bytes t1 t2 t3 t4 t5 t6 t7 (.slice A n c) n xs (hO'.row_own k hk) ad m c' news hl hnews h1 (by unfold maxLen; omega) hbytes hO'.below.size
  obtain ⟨A', c1, rfl⟩ := own_slice h2
  unfold Oper.wp execOp
  simp only [ho, resolve, invoke, builtin, Sem.run_bind, Sem.run_pure, Result.andThen_ok, List.map_toArray, List.map_cons, List.map_nil, hs, hx, hr]
  show K (a.put o.dst _) _
  rw [hd]
  refine h A' c1 w' (hO'.grow k hk h2 h3 ?_)
  rcases h5 with h5 | h5
  · exact .inl h5
  · exact .inr fun q hq => by rw [h5] at hq; injection hq with hq; omega

/-! at a list of operations -/

end

end

section

open Go Go.RowKit

instance : AggT Try.prog 83 3 := ⟨⟨_, Try.underlying83, rfl, by kernel_rfl⟩⟩

instance : ZeroT Try.prog 83 [.int .i64 0, .int .i64 0, .string ⟨#[]⟩] := ⟨⟨.agg #[.int .i64 0, .int .i64 0, .string ⟨#[]⟩], by kernel_rfl, rfl⟩⟩

instance : AggT Try.prog 124 3 := ⟨⟨_, Try.underlying124, rfl, by kernel_rfl⟩⟩

instance : ZeroT Try.prog 124 [.int .i64 0, .int .i64 0, .string ⟨#[]⟩] := ⟨⟨.agg #[.int .i64 0, .int .i64 0, .string ⟨#[]⟩], by kernel_rfl, rfl⟩⟩

instance : AggT Try.prog 29 8 := ⟨⟨_, Try.underlying29, rfl, by kernel_rfl⟩⟩

instance : ZeroT Try.prog 29 [.int .i64 0, .slice none 0 0, .slice none 0 0, .slice none 0 0, .slice none 0 0, .slice none 0 0, .int .i64 0, .int .i64 0] := ⟨⟨.agg #[.int .i64 0, .slice none 0 0, .slice none 0 0, .slice none 0 0, .slice none 0 0, .slice none 0 0, .int .i64 0, .int .i64 0], by kernel_rfl, rfl⟩⟩

instance : AggT Try.prog 42 8 := ⟨⟨_, Try.underlying42, rfl, by kernel_rfl⟩⟩

instance : ZeroT Try.prog 42 [.int .i64 0, .slice none 0 0, .slice none 0 0, .slice none 0 0, .slice none 0 0, .slice none 0 0, .int .i64 0, .int .i64 0] := ⟨⟨.agg #[.int .i64 0, .slice none 0 0, .slice none 0 0, .slice none 0 0, .slice none 0 0, .slice none 0 0, .int .i64 0, .int .i64 0], by kernel_rfl, rfl⟩⟩

instance : OneT Try.prog 3 := ⟨⟨_, Try.underlying3, rfl, by kernel_rfl⟩⟩

instance : OneT Try.prog 4 := ⟨⟨_, Try.underlying4, rfl, by kernel_rfl⟩⟩

instance : OneT Try.prog 9 := ⟨⟨_, Try.underlying9, rfl, by kernel_rfl⟩⟩

instance : OneT Try.prog 5 := ⟨⟨_, Try.underlying5, rfl, by kernel_rfl⟩⟩

instance : OneT Try.prog 58 := ⟨⟨_, Try.underlying58, rfl, by kernel_rfl⟩⟩

instance : OneT Try.prog 75 := ⟨⟨_, Try.underlying75, rfl, by kernel_rfl⟩⟩

instance : OneT Try.prog 23 := ⟨⟨_, Try.underlying23, rfl, by kernel_rfl⟩⟩

instance : OneT Try.prog 26 := ⟨⟨_, Try.underlying26, rfl, by kernel_rfl⟩⟩

instance : OneT Try.prog 40 := ⟨⟨_, Try.underlying40, rfl, by kernel_rfl⟩⟩

instance : OneT Try.prog 27 := ⟨⟨_, Try.underlying27, rfl, by kernel_rfl⟩⟩

instance : OneT Try.prog 22 := ⟨⟨_, Try.underlying22, rfl, by kernel_rfl⟩⟩

instance : StrT Try.prog 9 := ⟨Try.underlying9⟩

instance : ByteRow Try.prog 58 5 := ⟨by
  obtain ⟨i, hi, hzz⟩ := Option.map_eq_some_iff.1 (show (Try.prog.info? 5).map (fun i => (i.zero, i.size, i.bytes)) = some (some (.int .u8 0), 1, 1) by kernel_rfl)
  simp only [Prod.mk.injEq] at hzz
  exact ⟨i, Try.underlying58, hi, hzz.1, hzz.2.1, hzz.2.2⟩⟩

instance : RowT Try.prog 58 5 1 1 := .mk' (.int .u8 0) Try.underlying58 (by kernel_rfl) rfl (by decide)

instance : RowT Try.prog 75 3 1 8 := .mk' (.int .i64 0) Try.underlying75 (by kernel_rfl) rfl (by decide)

instance : RowT Try.prog 23 9 1 16 := .mk' (.string ⟨#[]⟩) Try.underlying23 (by kernel_rfl) rfl (by decide)

instance : RowT Try.prog 26 83 3 32 := .mk' (.agg #[.int .i64 0, .int .i64 0, .string ⟨#[]⟩]) Try.underlying26 (by kernel_rfl) rfl (by decide)

instance : RowT Try.prog 40 124 3 32 := .mk' (.agg #[.int .i64 0, .int .i64 0, .string ⟨#[]⟩]) Try.underlying40 (by kernel_rfl) rfl (by decide)

instance : RowT Try.prog 27 29 8 144 := .mk' (.agg #[.int .i64 0, .slice none 0 0, .slice none 0 0, .slice none 0 0, .slice none 0 0, .slice none 0 0, .int .i64 0, .int .i64 0]) Try.underlying27 (by kernel_rfl) rfl (by decide)

instance : RowT Try.prog 22 42 8 144 := .mk' (.agg #[.int .i64 0, .slice none 0 0, .slice none 0 0, .slice none 0 0, .slice none 0 0, .slice none 0 0, .int .i64 0, .int .i64 0]) Try.underlying22 (by kernel_rfl) rfl (by decide)

end

end Go.Proofs.Ytmofcbpabdbjlaa
