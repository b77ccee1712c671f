/-
  What is proved: how appends, made slices and stores into them turn what lies in the blocks that a call made itself. sizes and zero values of this seat's types; how an argument that is a slice of strings reads; what the statements' sizes, copies and comparisons of slices of strings return; how an argument that is a slice of bytes reads; sizes of a few numbers that are made of bits; a slice literal of one element makes a block of the call's own. a slice literal of many elements, or of none, makes a block of the call's own.
  Condition: the slices that are copied hold at most 1048576 strings.
-/
import Derived.ChangeSame
import Derived.Deep.Fields
import Derived.Deep.Slices
import Derived.Great.BuildSlice
import Derived.Lib.AppendStr
import Derived.Lib.SmallJoins
import Derived.Maps.AppendAt
import Derived.SliceStrings
import Derived.Test.YtmofcbpabdbjlaaGreatChecked
import Derived.WalkSmall
import Derived.Test.YtmofcbpabdbjlaaGreatMz1
namespace Go.Proofs.YtmofcbpabdbjlaaGreat

set_option maxRecDepth 8000

section

open Go Go.RowKit

set_option linter.unusedSimpArgs false

set_option linter.unusedVariables false

/-- a slice type: its element's type, cells, bytes -/
class RowT (P : Program) (T : TypeId) (E sz bytes : outParam Nat) : Prop where
  of : ∃ (i : TypeInfo) (z : Value), P.underlying T = some (.slice E) ∧ P.info? E = some i ∧ i.zero = some z ∧ i.size = sz ∧ i.bytes = bytes ∧ z.cells.size = sz ∧ 0 < sz

theorem RowT.mk' {P : Program} {T E sz bytes : Nat} (z : Value) (h1 : P.underlying T = some (.slice E)) (h2 : (P.info? E).map (fun i => (i.zero, i.size, i.bytes)) = some (some z, sz, bytes)) (h3 : z.cells.size = sz) (h4 : 0 < sz) : RowT P T E sz bytes := by
  obtain ⟨i, hi, hzz⟩ := Option.map_eq_some_iff.1 h2
  simp only [Prod.mk.injEq] at hzz
  exact ⟨i, z, h1, hi, hzz.1, hzz.2.1, hzz.2.2, h3, h4⟩

class StrT (P : Program) (U : TypeId) : Prop where
  of : P.underlying U = some .string

/-- bytes -/
class ByteRow (P : Program) (T : TypeId) (E : outParam Nat) : Prop where
  of : ∃ (i : TypeInfo), P.underlying T = some (.slice E) ∧ P.info? E = some i ∧ i.zero = some (.int .u8 0) ∧ i.size = 1 ∧ i.bytes = 1

section

variable {P : Program} {o : Oper} {a : Act} {w w' w0 : World} {K : Act → World → Prop} {Q : Exit → Act → World → Prop} {L : List Res} {ops : Array Oper} {rest : List Oper}

theorem own_slice {base e sz n : Nat} {v : Value} {xs : List Value} (h : w.ownsRow base e sz v n xs) : ∃ A c, v = .slice A n c := by
  rcases h.2 with ⟨rfl, rfl⟩ | ⟨g, cap, cur, rfl, _⟩
  · exact ⟨none, 0, rfl⟩
  · exact ⟨_, _, rfl⟩

theorem own_base {base base' e sz n : Nat} {v : Value} {xs : List Value} (h : w.ownsRow base e sz v n xs) (hb : ∀ k, v.ownBlock = some k → base' ≤ k) : w.ownsRow base' e sz v n xs := by
  refine ⟨h.1, ?_⟩
  rcases h.2 with h2 | ⟨g, cap, cur, hv, hg, hh, r⟩
  · exact .inl h2
  · exact .inr ⟨g, cap, cur, hv, hb g (by rw [hv]; rfl), hh, r⟩

/-- the row at place k has grown -/
theorem Own.grow (h : Own w0 L w) (k : Nat) {e sz n n' : Nat} {v v' : Value} {xs xs' : List Value} (hk : L[k]? = some (row e sz v n xs)) (hown : w'.ownsRow w0.heap.size e sz v' n' xs') (hg : w.grownBy w' v.ownBlock)
    (hb : v'.ownBlock = v.ownBlock ∨ ∀ k, v'.ownBlock = some k → w.heap.size ≤ k) : Own w0 (L.set k (row e sz v' n' xs')) w' :=
  h.at_ k hk fun L' h' => h'.turn hg.os hg.tape hg.output hg.size (fun b hb1 hb2 => hg.block b hb1 (fun e => hb2 e.symm)) (own_base hown (fun _ _ => Nat.zero_le _)) (fun b hb1 => by
    rcases hb with hb | hb
    · left; show v.ownBlock = some b; rw [← hb]; exact hb1
    · right; exact ⟨hb b hb1, (hown.lt b hb1).2⟩)

/-- a nil slice is a row, too -/
theorem Own.addNil (h : Own w0 L w) (e sz : Nat) : Own w0 (L ++ [row e sz (.slice none 0 0) 0 []]) w := by
  refine (h.add (Below.refl _ _) (row e sz (.slice none 0 0) 0 []) (World.ownsRow_nil _ _ _ _) (fun b hb => by cases hb)).perm ?_
  exact (List.perm_append_comm (l₁ := [_]) (l₂ := L))

/-- what a callee has handed back -/
theorem Own.addRow (h : Own w0 L w) {e sz n : Nat} {v : Value} {xs : List Value} (hb : Below w.heap.size w w') (hown : w'.ownsRow w.heap.size e sz v n xs) : Own w0 (L ++ [row e sz v n xs]) w' := by
  refine (h.add hb (row e sz v n xs) (own_base hown (fun _ _ => Nat.zero_le _)) (fun b hb => hown.lt b hb)).perm ?_
  exact (List.perm_append_comm (l₁ := [_]) (l₂ := L))

theorem Own.row_own (h : Own w0 L w) (k : Nat) {e sz n : Nat} {v : Value} {xs : List Value} (hk : L[k]? = some (row e sz v n xs)) : w.ownsRow w0.heap.size e sz v n xs :=
  own_base (h.get k hk) (fun b hb => (h.lo _ (List.mem_of_getElem? hk) b hb).1)

theorem Own.row_sl (h : Own w0 L w) (k : Nat) {e sz n c : Nat} {A : Option Addr} {xs : List Value} (hk : L[k]? = some (row e sz (.slice A n c) n xs)) : Sl w sz A n xs := Sl.of_own (h.row_own k hk)

/-- append of a slice's elements to a row of the call's own; news are the elements' cells -/
theorem wp_append_row (hO : Own w0 L w) {W : World} (hW : Below w.heap.size w W) {s x : Operand} {t : TypeId} (ho : o.op = .call { callee := .builtin .append, args := #[s, x], argTypes := #[t, t] })
    {E sz bytes : Nat} [hT : RowT P t E sz bytes] {A : Option Addr} {n c : Nat} (hs : a.eval s = .slice A n c) {ad : Addr} {m c' : Nat} (hx : a.eval x = .slice (some ad) m c')
    (k : Nat) {xs : List Value} (hk : L[k]? = some (row E sz (.slice A n c) n xs)) (news : List Value) (hl : news.length = m * sz) (hnews : ∀ j u, news[j]? = some u → W.cell? (ad.add j) = some u) (h1 : ∀ u ∈ news, u.oneCell' = true)
    (h63 : n + m ≤ 9223372036854775807) (hbytes : (n + m) * bytes ≤ 140737488355328) {d : Tmp} (hd : o.dst = some d)
    (h : ∀ A' c' w', Own w0 (L.set k (row E sz (.slice A' (n + m) c') (n + m) (xs ++ news))) w' → K (a.put (some d) (.slice A' (n + m) c')) w') : o.wp P a W K Q := by
  obtain ⟨i, z, t1, t2, t3, t4, t5, t6, t7⟩ := hT.of
  have hO' := hO.step hW
  obtain ⟨v', w', hr, h2, h3, _, h5⟩ := run_append_own_at (P := P) W w0.heap.size t o.type E i z sz bytes t1 t2 t3 t4 t5 t6 t7 (.slice A n c) n xs (hO'.row_own k hk) ad m c' news hl hnews h1 (by unfold maxLen; omega) hbytes hO'.below.size
  obtain ⟨A', c1, rfl⟩ := own_slice h2
  unfold Oper.wp execOp
  simp only [ho, resolve, invoke, builtin, Sem.run_bind, Sem.run_pure, Result.andThen_ok, List.map_toArray, List.map_cons, List.map_nil, hs, hx, hr]
  show K (a.put o.dst _) _
  rw [hd]
  refine h A' c1 w' (hO'.grow k hk h2 h3 ?_)
  rcases h5 with h5 | h5
  · exact .inl h5
  · exact .inr fun q hq => by rw [h5] at hq; injection hq with hq; omega

/-- append of what a slice literal has just laid -/
theorem wp_append_lit (hO : Own w0 L w) {cs : List Value} {t' : TypeId} {s x : Operand} {t : TypeId} (ho : o.op = .call { callee := .builtin .append, args := #[s, x], argTypes := #[t, t] })
    {E sz bytes : Nat} [hT : RowT P t E sz bytes] {A : Option Addr} {n c : Nat} (hs : a.eval s = .slice A n c) {m c' : Nat} (hx : a.eval x = .slice (some ⟨w.heap.size, 0, none⟩) m c')
    (k : Nat) {xs : List Value} (hk : L[k]? = some (row E sz (.slice A n c) n xs)) (hl : cs.length = m * sz) (h1 : cs.all (·.oneCell') = true)
    (h63 : n + m ≤ 9223372036854775807) (hbytes : (n + m) * bytes ≤ 140737488355328) {d : Tmp} (hd : o.dst = some d)
    (h : ∀ A' c' w', Own w0 (L.set k (row E sz (.slice A' (n + m) c') (n + m) (xs ++ cs))) w' → K (a.put (some d) (.slice A' (n + m) c')) w') : o.wp P a (w.alloc (.cells cs.toArray t')) K Q := by
  refine wp_append_row hO ((Below.refl _ _).alloc (Nat.le_refl _) _) ho hs hx k hk cs hl (fun j u hu => ?_) (fun u hu => ?_) h63 hbytes hd h
  · have e : (⟨w.heap.size, 0, none⟩ : Addr).add j = ⟨w.heap.size, j, none⟩ := by
      unfold Addr.add
      by_cases h0 : j = 0 <;> simp [h0]
    rw [e, cell_of_row _ _ _ cs.toArray t' (0, 0) (heap_alloc_new w _)]
    simpa using hu
  · exact (List.all_eq_true.1 h1) u hu

theorem run_append_str_at (w : World) (base : Nat) (t u ty e : TypeId) (i : TypeInfo) (ht : P.underlying t = some (.slice e)) (hu : P.underlying u = some .string) (hi : P.info? e = some i) (hz : i.zero = some (.int .u8 0))
    (hsize : i.size = 1) (hby : i.bytes = 1)
    (v : Value) (n : Nat) (xs : List Value) (hown : w.ownsRow base e 1 v n xs) (s : ByteArray)
    (h63 : n + s.size ≤ maxLen) (hbytes : n + s.size ≤ 140737488355328) (hbase : base ≤ w.heap.size) :
    ∃ v' w', (Builtin.append_ #[t, u] ty #[v, .string s]).run P w = .ok v' w' ∧ w'.ownsRow base e 1 v' (n + s.size) (xs ++ Lib.strCells s) ∧ w.grownBy w' v.ownBlock ∧
      (v'.ownBlock = v.ownBlock ∨ ∀ k, v'.ownBlock = some k → w.heap.size ≤ k) := by
  have hsmall : n + s.size ≤ 9223372036854775807 := by simp only [maxLen] at h63; omega
  have hxl : xs.length = n := by simpa using hown.1
  rcases hown.2 with ⟨rfl, rfl⟩ | ⟨g, cap, cur, rfl, hbg, hg, hnc, hcm, hcs, htake⟩
  · obtain ⟨v', w', hr, h2, h3, _⟩ := Lib.run_append_own_string (P := P) w w.heap.size t u ty e i ht hu hi hz hsize hby (.slice none 0 0) 0 xs ⟨hown.1, .inl ⟨rfl, rfl⟩⟩ s h63 hbytes (Nat.le_refl _)
    exact ⟨v', w', hr, own_base h2 (fun k hk => Nat.le_trans hbase (h2.lt k hk).1), h3, .inr fun k hk => (h2.lt k hk).1⟩
  · obtain ⟨v', w', hr, h2, h3, _⟩ := Lib.run_append_own_string (P := P) w base t u ty e i ht hu hi hz hsize hby _ n xs hown s h63 hbytes hbase
    refine ⟨v', w', hr, h2, h3, ?_⟩
    by_cases hroom : n + s.size ≤ cap
    · have hcs' : cur.size = cap := by simpa using hcs
      have hr2 := Lib.run_append_room_string (P := P) w t u ty e i ht hu hi hsize g n cap cur hg s hroom (by omega)
      rw [hr] at hr2
      injection hr2 with e1 e2
      exact .inl (by rw [e1]; rfl)
    · have holds : ∀ j u, xs[j]? = some u → w.cell? ((⟨g, 0, none⟩ : Addr).add j) = some u := hown.cells (g := g) rfl
      have hr2 := Lib.run_append_grow_string (P := P) w t u ty e i (.int .u8 0) ht hu hi hz ⟨g, 0, none⟩ n cap xs (by rw [hsize]; simpa using hxl) holds s (by omega) (by omega) (by rw [hby]; exact growslice_fits (by omega) (by omega))
      rw [hr] at hr2
      injection hr2 with e1 e2
      refine .inr fun k hk => ?_
      rw [e1] at hk
      have h6 : some w.heap.size = some k := hk
      injection h6 with h6
      omega

/-- append of a string's bytes -/
theorem wp_append_str (hO : Own w0 L w) {s x : Operand} {t u : TypeId} (ho : o.op = .call { callee := .builtin .append, args := #[s, x], argTypes := #[t, u] })
    {E : Nat} [hT : ByteRow P t E] [hU : StrT P u] {A : Option Addr} {n c : Nat} (hs : a.eval s = .slice A n c) {y : ByteArray} (hx : a.eval x = .string y)
    (k : Nat) {xs : List Value} (hk : L[k]? = some (row E 1 (.slice A n c) n xs)) (h63 : n + y.size ≤ 140737488355328) {d : Tmp} (hd : o.dst = some d)
    (h : ∀ A' c' w', Own w0 (L.set k (row E 1 (.slice A' (n + y.size) c') (n + y.size) (xs ++ Lib.strCells y))) w' → K (a.put (some d) (.slice A' (n + y.size) c')) w') : o.wp P a w K Q := by
  obtain ⟨i, t1, t2, t3, t4, t5⟩ := hT.of
  obtain ⟨v', w', hr, h2, h3, h5⟩ := run_append_str_at (P := P) w w0.heap.size t u o.type E i t1 hU.of t2 t3 t4 t5 (.slice A n c) n xs (hO.row_own k hk) y (by unfold maxLen; omega) h63 hO.below.size
  obtain ⟨A', c1, rfl⟩ := own_slice h2
  unfold Oper.wp execOp
  simp only [ho, resolve, invoke, builtin, Sem.run_bind, Sem.run_pure, Result.andThen_ok, List.map_toArray, List.map_cons, List.map_nil, hs, hx, hr]
  show K (a.put o.dst _) _
  rw [hd]
  exact h A' c1 w' (hO.grow k hk h2 h3 h5)

/-! at a list of operations -/

theorem wpList_append_lit (hO : Own w0 L w) {cs : List Value} {t' : TypeId} {s x : Operand} {t : TypeId} (ho : o.op = .call { callee := .builtin .append, args := #[s, x], argTypes := #[t, t] }) (hw : Region.wanted o (yielded ops a.tmps) = true)
    {E sz bytes : Nat} [hT : RowT P t E sz bytes] {A : Option Addr} {n c : Nat} (hs : a.eval s = .slice A n c) {m c' : Nat} (hx : a.eval x = .slice (some ⟨w.heap.size, 0, none⟩) m c')
    (k : Nat) {xs : List Value} (hk : L[k]? = some (row E sz (.slice A n c) n xs)) (hl : cs.length = m * sz) (h1 : cs.all (·.oneCell') = true)
    (h63 : n + m ≤ 9223372036854775807) (hbytes : (n + m) * bytes ≤ 140737488355328) {d : Tmp} (hd : o.dst = some d) {a' : Option Addr → Nat → Act} (ha : ∀ A' c', a.put (some d) (.slice A' (n + m) c') = a' A' c')
    (h : ∀ A' c' w', Own w0 (L.set k (row E sz (.slice A' (n + m) c') (n + m) (xs ++ cs))) w' → wpList P ops Q rest (a' A' c') w') : wpList P ops Q (o :: rest) a (w.alloc (.cells cs.toArray t')) :=
  zbd (hw := hw) (wp_append_lit hO ho hs hx k hk hl h1 h63 hbytes hd fun A' c' w' h' => by rw [ha]; exact h A' c' w' h')

theorem wpList_append_str (hO : Own w0 L w) {s x : Operand} {t u : TypeId} (ho : o.op = .call { callee := .builtin .append, args := #[s, x], argTypes := #[t, u] }) (hw : Region.wanted o (yielded ops a.tmps) = true)
    {E : Nat} [hT : ByteRow P t E] [hU : StrT P u] {A : Option Addr} {n c : Nat} (hs : a.eval s = .slice A n c) {y : ByteArray} (hx : a.eval x = .string y)
    (k : Nat) {xs : List Value} (hk : L[k]? = some (row E 1 (.slice A n c) n xs)) (h63 : n + y.size ≤ 140737488355328) {d : Tmp} (hd : o.dst = some d) {a' : Option Addr → Nat → Act} (ha : ∀ A' c', a.put (some d) (.slice A' (n + y.size) c') = a' A' c')
    (h : ∀ A' c' w', Own w0 (L.set k (row E 1 (.slice A' (n + y.size) c') (n + y.size) (xs ++ Lib.strCells y))) w' → wpList P ops Q rest (a' A' c') w') : wpList P ops Q (o :: rest) a w :=
  zbd (hw := hw) (wp_append_str hO ho hs hx k hk h63 hd fun A' c' w' h' => by rw [ha]; exact h A' c' w' h')

end

end

section

open Go Go.RowKit

instance : AggT Tryz.prog 35 3 := ⟨⟨_, Tryz.underlying35, rfl, by kernel_rfl⟩⟩

instance : ZeroT Tryz.prog 35 [.int .i64 0, .int .i64 0, .string ⟨#[]⟩] := ⟨⟨.agg #[.int .i64 0, .int .i64 0, .string ⟨#[]⟩], by kernel_rfl, rfl⟩⟩

instance : AggT Tryz.prog 28 8 := ⟨⟨_, Tryz.underlying28, rfl, by kernel_rfl⟩⟩

instance : ZeroT Tryz.prog 28 [.int .i64 0, .slice none 0 0, .slice none 0 0, .slice none 0 0, .slice none 0 0, .slice none 0 0, .int .i64 0, .int .i64 0] := ⟨⟨.agg #[.int .i64 0, .slice none 0 0, .slice none 0 0, .slice none 0 0, .slice none 0 0, .slice none 0 0, .int .i64 0, .int .i64 0], by kernel_rfl, rfl⟩⟩

instance : OneT Tryz.prog 3 := ⟨⟨_, Tryz.underlying3, rfl, by kernel_rfl⟩⟩

instance : OneT Tryz.prog 4 := ⟨⟨_, Tryz.underlying4, rfl, by kernel_rfl⟩⟩

instance : OneT Tryz.prog 9 := ⟨⟨_, Tryz.underlying9, rfl, by kernel_rfl⟩⟩

instance : OneT Tryz.prog 5 := ⟨⟨_, Tryz.underlying5, rfl, by kernel_rfl⟩⟩

instance : OneT Tryz.prog 22 := ⟨⟨_, Tryz.underlying22, rfl, by kernel_rfl⟩⟩

instance : OneT Tryz.prog 45 := ⟨⟨_, Tryz.underlying45, rfl, by kernel_rfl⟩⟩

instance : OneT Tryz.prog 26 := ⟨⟨_, Tryz.underlying26, rfl, by kernel_rfl⟩⟩

instance : OneT Tryz.prog 24 := ⟨⟨_, Tryz.underlying24, rfl, by kernel_rfl⟩⟩

instance : OneT Tryz.prog 25 := ⟨⟨_, Tryz.underlying25, rfl, by kernel_rfl⟩⟩

instance : StrT Tryz.prog 9 := ⟨Tryz.underlying9⟩

instance : ByteRow Tryz.prog 22 5 := ⟨by
  obtain ⟨i, hi, hzz⟩ := Option.map_eq_some_iff.1 (show (Tryz.prog.info? 5).map (fun i => (i.zero, i.size, i.bytes)) = some (some (.int .u8 0), 1, 1) by kernel_rfl)
  simp only [Prod.mk.injEq] at hzz
  exact ⟨i, Tryz.underlying22, hi, hzz.1, hzz.2.1, hzz.2.2⟩⟩

instance : RowT Tryz.prog 22 5 1 1 := .mk' (.int .u8 0) Tryz.underlying22 (by kernel_rfl) rfl (by decide)

instance : RowT Tryz.prog 45 3 1 8 := .mk' (.int .i64 0) Tryz.underlying45 (by kernel_rfl) rfl (by decide)

instance : RowT Tryz.prog 26 9 1 16 := .mk' (.string ⟨#[]⟩) Tryz.underlying26 (by kernel_rfl) rfl (by decide)

instance : RowT Tryz.prog 24 35 3 32 := .mk' (.agg #[.int .i64 0, .int .i64 0, .string ⟨#[]⟩]) Tryz.underlying24 (by kernel_rfl) rfl (by decide)

instance : RowT Tryz.prog 25 28 8 144 := .mk' (.agg #[.int .i64 0, .slice none 0 0, .slice none 0 0, .slice none 0 0, .slice none 0 0, .slice none 0 0, .int .i64 0, .int .i64 0]) Tryz.underlying25 (by kernel_rfl) rfl (by decide)

end

end Go.Proofs.YtmofcbpabdbjlaaGreat

namespace Go.Proofs.YtmofcbpabdbjlaaGreat

set_option maxRecDepth 8000

open Go.RowKit Go.ChangeShapes Go.WideShapes

set_option linter.unusedVariables false

set_option linter.unusedSimpArgs false

/-- the cells of a slice of strings -/
def stc (l : List ByteArray) : List Value := l.map Value.string

theorem stc_len (l : List ByteArray) : (stc l).length = l.length := by simp [stc]

theorem stc_at {l : List ByteArray} {k : Nat} (h : k < l.length) : (stc l).getD k undef = .string (l[k]'h) := by
  simp [stc, List.getD_eq_getElem?_getD, h]

theorem stc_app (a b : List ByteArray) : stc (a ++ b) = stc a ++ stc b := by simp [stc]

/-- the bytes of a list of strings, and one for each -/
def stz : List ByteArray → Nat
  | [] => 0
  | s :: l => s.size + stz l

theorem stz_app (a b : List ByteArray) : stz (a ++ b) = stz a + stz b := by
  induction a with
  | nil => simp [stz]
  | cons x a ih => simp [stz, ih, Nat.add_assoc]

theorem addr_of_cell' {w : World} {x : Addr} {v : Value} (h : w.cell? (x.add 0) = some v) : x = ⟨x.block, x.off, none⟩ ∧ x.block < w.heap.size := by
  have hs : (x.add 0).spot = none := World.cell?_spot h
  have hb := World.block_lt_of_cell? w _ h
  obtain ⟨b, off, spot⟩ := x
  simp [Addr.add] at hs hb
  subst hs
  exact ⟨rfl, hb⟩

def szS (l : List ByteArray) : Nat := l.length + stz l

end Go.Proofs.YtmofcbpabdbjlaaGreat

namespace Go.Proofs.YtmofcbpabdbjlaaGreat

set_option maxRecDepth 8000

open Go.ChangeShapes Go.WideShapes Go.RowKit Go.Joins Go.Deep

set_option linter.unusedVariables false

set_option linter.unusedSimpArgs false

theorem flat_lenB {α : Type} {f : α → List Value} {sz : Nat} : ∀ (l : List α), (∀ x ∈ l, (f x).length = sz) → (l.flatMap f).length = l.length * sz
  | [], _ => by simp
  | x :: l, h => by
    rw [List.flatMap_cons, List.length_append, flat_lenB l (fun y hy => h y (List.mem_cons_of_mem _ hy)), h x (List.mem_cons_self), List.length_cons, Nat.succ_mul, Nat.add_comm]

theorem flat_atB {α : Type} {f : α → List Value} {sz : Nat} : ∀ (l : List α), (∀ x ∈ l, (f x).length = sz) → ∀ (i : Nat) (h : i < l.length) (j : Nat), j < sz → (l.flatMap f)[i * sz + j]? = (f l[i])[j]?
  | [], _, i, h, _, _ => by simp at h
  | x :: l, hf, 0, _, j, hj => by
    rw [List.flatMap_cons, Nat.zero_mul, Nat.zero_add, List.getElem?_append_left (by rw [hf x (List.mem_cons_self)]; exact hj)]
    rfl
  | x :: l, hf, i + 1, h, j, hj => by
    have hx := hf x (List.mem_cons_self)
    rw [List.flatMap_cons, List.getElem?_append_right (by rw [hx, Nat.succ_mul]; omega), hx, show (i + 1) * sz + j - sz = i * sz + j by rw [Nat.succ_mul]; omega]
    exact flat_atB l (fun y hy => hf y (List.mem_cons_of_mem _ hy)) i (by simpa using h) j hj

theorem list_ofB {α : Type} {p : Nat → α → Prop} : ∀ n, (∀ i, i < n → ∃ a, p i a) → ∃ l : List α, l.length = n ∧ ∀ i (h : i < l.length), p i l[i]
  | 0, _ => ⟨[], rfl, fun i h => absurd h (by simp)⟩
  | n + 1, h => by
    obtain ⟨l, hl, hp⟩ := list_ofB n (fun i hi => h i (by omega))
    obtain ⟨a, ha⟩ := h n (by omega)
    refine ⟨l ++ [a], by simp [hl], fun i hi => ?_⟩
    by_cases h0 : i < l.length
    · rw [List.getElem_append_left h0]; exact hp i h0
    · have : i = n := by simp at hi; omega
      subst this
      rw [List.getElem_append_right (by omega)]
      simpa using ha

section

variable {H : Type} {enc : TypeId × Value → H} {P : Program} {w : World} {base : Nat} {spare : Nat → Bool} {held : Bool}

theorem read_sliceB {α : Type} (f : α → List Value) (Q : α → Prop) {t e : TypeId} {sz fuel : Nat} {cs : List Value} {x : DataW H × List MemPlace} (hs0 : 0 < sz) (ht : P.underlying t = some (.slice e)) (hc : P.cellsOf e = sz)
    (hel : ∀ (n : Nat) (cs' : List Value) x', n < fuel → DataW.trod enc P w base spare held n e cs' = some x' → ∃ a, f a = cs' ∧ Q a) (h : DataW.trod enc P w base spare held fuel t cs = some x) :
    ∃ A c, ∃ l : List α, cs = [.slice A l.length c] ∧ (l.length ≤ maxLen ∧ l.length ≤ c) ∧ Sl w sz A l.length (l.flatMap f) ∧ ∀ a ∈ l, Q a ∧ (f a).length = sz := by
  rcases DataW.trod_slice ht h with ⟨rfl, _⟩ | ⟨a, len, cap, elems, rest, n, rfl, rfl, rfl, hb, hl, hm, hlen, hel', _, _⟩
  · exact ⟨none, 0, [], rfl, ⟨by simp [maxLen], by simp⟩, ⟨by simp, fun h => absurd h (by simp)⟩, by simp⟩
  · have key : ∀ i, i < len → ∃ v : α, Q v ∧ (f v).length = sz ∧ ∀ j, j < sz → w.cell? (a.add (i * sz + j)) = (f v)[j]? := fun i hi => by
      have h1 := hel' i hi
      rw [List.getElem?_eq_getElem (by omega)] at h1
      obtain ⟨cs', h2, h3⟩ := Option.bind_eq_some_iff.1 h1
      obtain ⟨v, hv, hq⟩ := hel n cs' _ (by omega) h3
      obtain ⟨_, hcl, hat⟩ := World.cells?_some h2
      rw [hc] at hcl hat
      refine ⟨v, hq, by rw [hv]; exact hcl, fun j hj => ?_⟩
      rw [hv, ← hat j hj, Go.Deep.add_add]
    obtain ⟨l, rfl, hp⟩ := list_ofB len key
    refine ⟨some a, cap, l, rfl, ⟨by omega, by omega⟩, ⟨flat_lenB l fun v hv => ?_, fun h0 => ?_⟩, fun v hv => ?_⟩
    · obtain ⟨i, hi, rfl⟩ := List.mem_iff_getElem.1 hv
      exact (hp i hi).2.1
    · have h0' := hp 0 h0
      have h1 := h0'.2.2 0 hs0
      rw [Nat.zero_mul, Nat.add_zero, List.getElem?_eq_getElem (by rw [h0'.2.1]; exact hs0)] at h1
      obtain ⟨e1, e2⟩ := addr_of_cell' h1
      refine ⟨a.block, a.off, by rw [← e1], e2, fun j u hu => ?_⟩
      have hflen : ∀ v ∈ l, (f v).length = sz := fun v hv => by
        obtain ⟨i, hi, rfl⟩ := List.mem_iff_getElem.1 hv
        exact (hp i hi).2.1
      have hj : j < l.length * sz := by rw [← flat_lenB l hflen]; exact (List.getElem?_eq_some_iff.1 hu).1
      have hq : j / sz < l.length := (Nat.div_lt_iff_lt_mul hs0).2 hj
      have hr : j % sz < sz := Nat.mod_lt _ hs0
      have e3 : j / sz * sz + j % sz = j := by rw [Nat.mul_comm]; exact Nat.div_add_mod j sz
      have h4 := (hp (j / sz) hq).2.2 (j % sz) hr
      have h5 := flat_atB l hflen (j / sz) hq (j % sz) hr
      rw [e3] at h4 h5
      rw [e1, show (⟨a.block, a.off, none⟩ : Addr).add j = ⟨a.block, a.off + j, none⟩ from by unfold Addr.add; by_cases h0 : j = 0 <;> simp [h0]] at h4
      rw [h4, ← h5, hu]
    · obtain ⟨i, hi, rfl⟩ := List.mem_iff_getElem.1 hv
      exact ⟨(hp i hi).1, (hp i hi).2.1⟩

end

def bys (l : List Int) : List Value := l.map (Value.int .u8)

theorem bys_at {l : List Int} {k : Nat} (h : k < l.length) : (bys l).getD k undef = .int .u8 (l[k]'h) := by
  simp [bys, List.getD_eq_getElem?_getD, h]

theorem Sl.by {w u : World} {A : Option Addr} {l : List Int} {n : Nat} (h : Sl w 1 A n (bys l)) (hb : Below w.heap.size w u) {i : Nat} (hi : i < n) (hl : i < l.length) : ∃ b off, A = some ⟨b, off, none⟩ ∧ b < w.heap.size ∧ u.cell? ⟨b, off + i, none⟩ = some (.int .u8 (l[i]'hl)) := by
  obtain ⟨b, off, e, hlt, hc⟩ := h.cell1 hi
  rw [bys_at hl] at hc
  exact ⟨b, off, e, hlt, (hb.cell (p := ⟨b, _, none⟩) hlt).trans hc⟩

def ArgBytes (w : World) (v : Value) : Prop := ∃ A n c l, v = .slice A n c ∧ n ≤ 9223372036854775807 ∧ Sl w 1 A n (bys l) ∧ ∀ z ∈ l, 0 ≤ z ∧ z ≤ 255

theorem arg_bytes {H : Type} {enc : TypeId × Value → H} {W : World} {base : Nat} {spare : Nat → Bool} {held : Bool} {r : Reach} {b0 : Nat} {v : Value} {d : DataW H} {p : List MemPlace}
    (hv : Value.okWide Tryz.prog W r b0 22 v) (h : DataW.Trod enc Tryz.prog W base spare held 22 v d p) : ArgBytes W v := by
  obtain ⟨A, n, c, rfl⟩ := okWide_slice Tryz.underlying22 hv
  obtain ⟨fuel, hf⟩ := h
  obtain ⟨A', c', l, e2, l2, s2, q2⟩ := read_sliceB (sz := 1) (fun z : Int => [Value.int .u8 z]) (fun z => 0 ≤ z ∧ z ≤ 255) (by decide) Tryz.underlying22 (by kernel_rfl) (fun n cs' x' hn hx => by
    obtain ⟨z, e0, _, w0⟩ := DataW.trod_int Tryz.underlying5 hx
    exact ⟨z, e0.symm, bounds_u8 w0⟩) hf
  simp only [Value.cells, List.cons.injEq, and_true] at e2
  rw [e2]
  have e : l.flatMap (fun z : Int => [Value.int .u8 z]) = bys l := by
    clear q2 s2 l2 e2
    unfold bys
    induction l with
    | nil => rfl
    | cons x l ih => rw [List.flatMap_cons, ih]; rfl
  exact ⟨A', _, c', l, rfl, by have := l2.1; unfold maxLen at this; exact this, by rw [← e]; exact s2, fun z hz => (q2 z hz).1⟩

theorem and_mask (x m : Int) (hm : 0 ≤ m ∧ m < 9223372036854775808) : 0 ≤ bits .and .i64 x m ∧ bits .and .i64 x m ≤ m := by
  have h2 : (BitVec.ofInt 64 m).toNat = m.toNat := by
    obtain ⟨k, rfl⟩ := Int.eq_ofNat_of_zero_le hm.1
    rw [BitVec.ofInt_natCast, BitVec.toNat_ofNat]
    exact Nat.mod_eq_of_lt (by omega)
  have h3 : (BitVec.ofInt 64 x &&& BitVec.ofInt 64 m).toNat ≤ m.toNat := by
    rw [BitVec.toNat_and, h2]
    exact Nat.and_le_right
  have e : bits .and .i64 x m = ((BitVec.ofInt 64 x &&& BitVec.ofInt 64 m).toNat : Int) := by
    show IntKind.i64.wrap ((BitVec.ofInt 64 x &&& BitVec.ofInt 64 m).toNat : Int) = _
    exact IntWalk.i64_in _ (by omega)
  rw [e]
  omega

end Go.Proofs.YtmofcbpabdbjlaaGreat

namespace Go.Proofs.YtmofcbpabdbjlaaGreat

set_option maxRecDepth 8000

section

open Go Go.RowKit

set_option linter.unusedSimpArgs false

set_option linter.unusedVariables false

theorem za2 {P : Program} {ops : Array Oper} {Q : Exit → Act → World → Prop} {rest : List Oper} {a : Act} {w : World} {d : Option Tmp} {xs : Array Operand} {ts : Array TypeId} {ty : TypeId} {pos : String} {aft : Array Edge} {g : Option (Nat × Bool)} (h : wpList P ops Q ({ dst := d, op := .call { callee := .builtin .append, args := xs, argTypes := ts }, type := ty, pos := pos, after := aft, guard := g } :: rest) a w) :
    wpList P ops Q ({ dst := d, op := .call { callee := .builtin .append, args := xs, argTypes := ts }, type := ty, pos := pos, after := aft, guard := g } :: rest) a w := h

/-- a new slice of one element -/
def J.freshS (E : TypeId) (cs : List Value) : Value × List Res → Prop := fun x => ∃ b, x = (.slice (some ⟨b, 0, none⟩) 1 1, [box b E cs])

section

variable {P : Program} {o : Oper} {a : Act} {w w' w0 : World} {K : Act → World → Prop} {Q : Exit → Act → World → Prop} {L : List Res} {ops : Array Oper} {rest : List Oper}

theorem za4 (hO : Own w0 L w) {t : TypeId} {x : Operand} (ho : o.op = .buildSlice t 1 #[(0, x)]) {E sz bytes : Nat} [hT : RowT P t E sz bytes] {v : Value} (hx : a.eval x = v) {cs : List Value} (hv : v.cells = cs.toArray) (hl : cs.length = sz) (hs : sz ≤ 1000) {d : Tmp} (hd : o.dst = some d)
    (h : ∀ b w', Own w0 (L ++ [box b E cs]) w' → K (a.put (some d) (.slice (some ⟨b, 0, none⟩) 1 1)) w') : o.wp P a w K Q := by
  obtain ⟨i, z, h1, h2, h3, h4, h5, h6, h7⟩ := hT.of
  subst h4
  refine wp_buildSlice t E 1 #[(0, x)] ho cs.toArray i z h1 h2 h3 (by omega) (by omega) ?_ ?_
  · have := Go.Great.fill_whole h7 [v] ((Array.range (1 * i.size)).map (z.cells[· % z.cells.size]!)) (by intro u hu; rw [List.mem_singleton] at hu; rw [hu, hv]; simpa using hl) (by simp)
    simpa [hx, hv] using this
  · rw [hd]
    exact h _ _ (hO.addBox E cs)

theorem zaw (hO : Own w0 L w) {t : TypeId} {x : Operand} (ho : o.op = .buildSlice t 1 #[(0, x)]) (hw : Region.wanted o (yielded ops a.tmps) = true) {E sz bytes : Nat} [hT : RowT P t E sz bytes] {v : Value} (hx : a.eval x = v) {cs : List Value} (hv : v.cells = cs.toArray) (hl : cs.length = sz) (hs : sz ≤ 1000) {d : Tmp} (hd : o.dst = some d)
    {a' : Nat → Act} (ha : ∀ b, a.put (some d) (.slice (some ⟨b, 0, none⟩) 1 1) = a' b)
    (h : ∀ b w', Own w0 (L ++ [box b E cs]) w' → wpList P ops Q rest (a' b) w') : wpList P ops Q (o :: rest) a w :=
  zbd (hw := hw) (za4 hO ho hx hv hl hs hd fun b w' h' => by rw [ha]; exact h b w' h')

/-- append of a slice that lies in a block of the call's own -/
theorem za3 (hO : Own w0 L w) {s x : Operand} {t : TypeId} (ho : o.op = .call { callee := .builtin .append, args := #[s, x], argTypes := #[t, t] })
    {E sz bytes : Nat} [hT : RowT P t E sz bytes] {A : Option Addr} {n c : Nat} (hs : a.eval s = .slice A n c) {b m c' : Nat} (hx : a.eval x = .slice (some ⟨b, 0, none⟩) m c')
    (k : Nat) {xs : List Value} (hk : L[k]? = some (row E sz (.slice A n c) n xs)) (j : Nat) {t' : TypeId} {cs : List Value} (hj : L[j]? = some (box b t' cs)) (hl : cs.length = m * sz) (h1 : cs.all (·.oneCell') = true)
    (h63 : n + m ≤ 9223372036854775807) (hbytes : (n + m) * bytes ≤ 140737488355328) {d : Tmp} (hd : o.dst = some d)
    (h : ∀ A' c' w', Own w0 (L.set k (row E sz (.slice A' (n + m) c') (n + m) (xs ++ cs))) w' → K (a.put (some d) (.slice A' (n + m) c')) w') : o.wp P a w K Q := by
  refine wp_append_row hO (Below.refl _ _) ho hs hx k hk cs hl (fun i u hu => ?_) (fun u hu => (List.all_eq_true.1 h1) u hu) h63 hbytes hd h
  have e : (⟨b, 0, none⟩ : Addr).add i = ⟨b, i, none⟩ := by
    unfold Addr.add
    by_cases h0 : i = 0 <;> simp [h0]
  rw [e, hO.cell j hj]
  exact hu

theorem zav (hO : Own w0 L w) {s x : Operand} {t : TypeId} (ho : o.op = .call { callee := .builtin .append, args := #[s, x], argTypes := #[t, t] }) (hw : Region.wanted o (yielded ops a.tmps) = true)
    {E sz bytes : Nat} [hT : RowT P t E sz bytes] {A : Option Addr} {n c : Nat} (hs : a.eval s = .slice A n c) {b m c' : Nat} (hx : a.eval x = .slice (some ⟨b, 0, none⟩) m c')
    (k : Nat) {xs : List Value} (hk : L[k]? = some (row E sz (.slice A n c) n xs)) (j : Nat) {t' : TypeId} {cs : List Value} (hj : L[j]? = some (box b t' cs)) (hl : cs.length = m * sz) (h1 : cs.all (·.oneCell') = true)
    (h63 : n + m ≤ 9223372036854775807) (hbytes : (n + m) * bytes ≤ 140737488355328) {d : Tmp} (hd : o.dst = some d) {a' : Option Addr → Nat → Act} (ha : ∀ A' c', a.put (some d) (.slice A' (n + m) c') = a' A' c')
    (h : ∀ A' c' w', Own w0 (L.set k (row E sz (.slice A' (n + m) c') (n + m) (xs ++ cs))) w' → wpList P ops Q rest (a' A' c') w') : wpList P ops Q (o :: rest) a w :=
  zbd (hw := hw) (za3 hO ho hs hx k hk j hj hl h1 h63 hbytes hd fun A' c' w' h' => by rw [ha]; exact h A' c' w' h')

end

end

section

open Go Go.RowKit

set_option linter.unusedSimpArgs false

set_option linter.unusedVariables false

section

variable {P : Program} {o : Oper} {a : Act} {w w' w0 : World} {K : Act → World → Prop} {Q : Exit → Act → World → Prop} {L : List Res} {ops : Array Oper} {rest : List Oper}

theorem run_build_nil {t e : TypeId} {ie : TypeInfo} (hu : P.underlying t = some (.slice e)) (hie : P.info? e = some ie) :
    (Instr.buildSlice t 0 #[]).run P w = .ok (.slice (some ⟨w.heap.size, 0, none⟩) 0 0) (w.alloc (.cells #[] e)) := by
  have hf : Instr.fill (fun i => some (i * ie.size, ie.size)) #[] [] = some #[] := rfl
  have hr : Array.range 0 = #[] := rfl
  simp [Instr.buildSlice, run_underlying hu, sizeOf, typeInfo, hie, hr, hf, newRow]

/-- a slice literal makes a block of the call's own -/
theorem wp_build_list (hO : Own w0 L w) {t : TypeId} {n : Nat} {parts : Array (Nat × Operand)} (ho : o.op = .buildSlice t n parts) {E sz bytes : Nat} [hT : RowT P t E sz bytes]
    (vs : List Value) (hx : parts.toList.map (fun p => (p.1, a.eval p.2)) = (vs.zipIdx 0).map fun x => (x.2, x.1)) (hv : vs.all (fun v => v.cells.size == sz) = true) (hn : vs.length = n) (hs : n * sz ≤ 16777216)
    {cs : List Value} (hcs : vs.flatMap (fun v => v.cells.toList) = cs) {d : Tmp} (hd : o.dst = some d)
    (h : ∀ b w', Own w0 (L ++ [box b E cs]) w' → K (a.put (some d) (.slice (some ⟨b, 0, none⟩) n n)) w') : o.wp P a w K Q := by
  obtain ⟨i, z, h1, h2, h3, h4, h5, h6, h7⟩ := hT.of
  subst h4 hn hcs
  rw [List.all_eq_true] at hv
  have hx' : (parts.map fun (i, x) => (i, a.eval x)).toList = (vs.zipIdx 0).map fun x => (x.2, x.1) := by rw [Array.toList_map]; exact hx
  cases vs with
  | nil =>
    have hp : parts.map (fun (i, x) => (i, a.eval x)) = #[] := by
      apply Array.toList_inj.1; simpa using hx'
    unfold Oper.wp execOp
    simp only [ho, Sem.run_bind]
    rw [hp]
    simp only [List.length_nil]
    rw [run_build_nil h1 h2]
    simp only [Result.andThen_ok]
    have := h _ _ (hO.addBox E [])
    rw [← hd] at this
    exact this
  | cons v0 vs =>
    refine wp_buildSlice t E _ parts ho ((v0 :: vs).flatMap fun v => v.cells.toList).toArray i z h1 h2 h3 (by omega) ?_ ?_ ?_
    · intro h0
      rcases Nat.mul_eq_zero.1 h0 with h0 | h0
      · simp at h0
      · omega
    · rw [hx']
      exact Go.Great.fill_whole h7 (v0 :: vs) ((Array.range ((v0 :: vs).length * i.size)).map (z.cells[· % z.cells.size]!)) (fun u hu => by simpa using hv u hu) (by simp)
    · rw [hd]
      exact h _ _ (hO.addBox E _)

theorem zaj (hO : Own w0 L w) {t : TypeId} {n : Nat} {parts : Array (Nat × Operand)} (ho : o.op = .buildSlice t n parts) (hw : Region.wanted o (yielded ops a.tmps) = true) {E sz bytes : Nat} [hT : RowT P t E sz bytes]
    (vs : List Value) (hx : parts.toList.map (fun p => (p.1, a.eval p.2)) = (vs.zipIdx 0).map fun x => (x.2, x.1)) (hv : vs.all (fun v => v.cells.size == sz) = true) (hn : vs.length = n) (hs : n * sz ≤ 16777216)
    {cs : List Value} (hcs : vs.flatMap (fun v => v.cells.toList) = cs) {d : Tmp} (hd : o.dst = some d) {a' : Nat → Act} (ha : ∀ b, a.put (some d) (.slice (some ⟨b, 0, none⟩) n n) = a' b)
    (h : ∀ b w', Own w0 (L ++ [box b E cs]) w' → wpList P ops Q rest (a' b) w') : wpList P ops Q (o :: rest) a w :=
  zbd (hw := hw) (wp_build_list hO ho vs hx hv hn hs hcs hd fun b w' h' => by rw [ha]; exact h b w' h')

end

end

end Go.Proofs.YtmofcbpabdbjlaaGreat
