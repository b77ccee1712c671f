/-
  What is proved: how appends, made slices and stores into them turn what lies in the blocks that a call made itself. sizes and zero values of this seat's types.
  Condition: none beyond those of the theorems.
-/
import Derived.Lib.AppendStr
import Derived.Maps.AppendAt
import Derived.Test.YtmofcbpabdbjlaaChecked
import Derived.Test.YtmofcbpabdbjlaaRq1
namespace Go.Proofs.Ytmofcbpabdbjlaa

set_option maxRecDepth 8000

section

open Go Go.RowKit

set_option linter.unusedSimpArgs false

set_option linter.unusedVariables false

/-- a slice type: its element's type, cells, bytes -/
class RowT (P : Program) (T : TypeId) (E sz bytes : outParam Nat) : Prop where
  of : ∃ (i : TypeInfo) (z : Value), P.underlying T = some (.slice E) ∧ P.info? E = some i ∧ i.zero = some z ∧ i.size = sz ∧ i.bytes = bytes ∧ z.cells.size = sz ∧ 0 < sz

theorem RowT.mk' {P : Program} {T E sz bytes : Nat} (z : Value) (h1 : P.underlying T = some (.slice E)) (h2 : (P.info? E).map (fun i => (i.zero, i.size, i.bytes)) = some (some z, sz, bytes)) (h3 : z.cells.size = sz) (h4 : 0 < sz) : RowT P T E sz bytes := by
  obtain ⟨i, hi, hzz⟩ := Option.map_eq_some_iff.1 h2
  simp only [Prod.mk.injEq] at hzz
  exact ⟨i, z, h1, hi, hzz.1, hzz.2.1, hzz.2.2, h3, h4⟩

class StrT (P : Program) (U : TypeId) : Prop where
  of : P.underlying U = some .string

/-- bytes -/
class ByteRow (P : Program) (T : TypeId) (E : outParam Nat) : Prop where
  of : ∃ (i : TypeInfo), P.underlying T = some (.slice E) ∧ P.info? E = some i ∧ i.zero = some (.int .u8 0) ∧ i.size = 1 ∧ i.bytes = 1

section

variable {P : Program} {o : Oper} {a : Act} {w w' w0 : World} {K : Act → World → Prop} {Q : Exit → Act → World → Prop} {L : List Res} {ops : Array Oper} {rest : List Oper}

theorem own_slice {base e sz n : Nat} {v : Value} {xs : List Value} (h : w.ownsRow base e sz v n xs) : ∃ A c, v = .slice A n c := by
  rcases h.2 with ⟨rfl, rfl⟩ | ⟨g, cap, cur, rfl, _⟩
  · exact ⟨none, 0, rfl⟩
  · exact ⟨_, _, rfl⟩

theorem own_base {base base' e sz n : Nat} {v : Value} {xs : List Value} (h : w.ownsRow base e sz v n xs) (hb : ∀ k, v.ownBlock = some k → base' ≤ k) : w.ownsRow base' e sz v n xs := by
  refine ⟨h.1, ?_⟩
  rcases h.2 with h2 | ⟨g, cap, cur, hv, hg, hh, r⟩
  · exact .inl h2
  · exact .inr ⟨g, cap, cur, hv, hb g (by rw [hv]; rfl), hh, r⟩

/-- the row at place k has grown -/
theorem Own.grow (h : Own w0 L w) (k : Nat) {e sz n n' : Nat} {v v' : Value} {xs xs' : List Value} (hk : L[k]? = some (row e sz v n xs)) (hown : w'.ownsRow w0.heap.size e sz v' n' xs') (hg : w.grownBy w' v.ownBlock)
    (hb : v'.ownBlock = v.ownBlock ∨ ∀ k, v'.ownBlock = some k → w.heap.size ≤ k) : Own w0 (L.set k (row e sz v' n' xs')) w' :=
  h.at_ k hk fun L' h' => h'.turn hg.os hg.tape hg.output hg.size (fun b hb1 hb2 => hg.block b hb1 (fun e => hb2 e.symm)) (own_base hown (fun _ _ => Nat.zero_le _)) (fun b hb1 => by
    rcases hb with hb | hb
    · left; show v.ownBlock = some b; rw [← hb]; exact hb1
    · right; exact ⟨hb b hb1, (hown.lt b hb1).2⟩)

/-- a nil slice is a row, too -/
theorem Own.addNil (h : Own w0 L w) (e sz : Nat) : Own w0 (L ++ [row e sz (.slice none 0 0) 0 []]) w := by
  refine (h.add (Below.refl _ _) (row e sz (.slice none 0 0) 0 []) (World.ownsRow_nil _ _ _ _) (fun b hb => by cases hb)).perm ?_
  exact (List.perm_append_comm (l₁ := [_]) (l₂ := L))

/-- what a callee has handed back -/
theorem Own.addRow (h : Own w0 L w) {e sz n : Nat} {v : Value} {xs : List Value} (hb : Below w.heap.size w w') (hown : w'.ownsRow w.heap.size e sz v n xs) : Own w0 (L ++ [row e sz v n xs]) w' := by
  refine (h.add hb (row e sz v n xs) (own_base hown (fun _ _ => Nat.zero_le _)) (fun b hb => hown.lt b hb)).perm ?_
  exact (List.perm_append_comm (l₁ := [_]) (l₂ := L))

theorem Own.row_own (h : Own w0 L w) (k : Nat) {e sz n : Nat} {v : Value} {xs : List Value} (hk : L[k]? = some (row e sz v n xs)) : w.ownsRow w0.heap.size e sz v n xs :=
  own_base (h.get k hk) (fun b hb => (h.lo _ (List.mem_of_getElem? hk) b hb).1)

theorem Own.row_sl (h : Own w0 L w) (k : Nat) {e sz n c : Nat} {A : Option Addr} {xs : List Value} (hk : L[k]? = some (row e sz (.slice A n c) n xs)) : Sl w sz A n xs := Sl.of_own (h.row_own k hk)

/-- append of a slice's elements to a row of the call's own; news are the elements' cells -/
theorem wp_append_row (hO : Own w0 L w) {W : World} (hW : Below w.heap.size w W) {s x : Operand} {t : TypeId} (ho : o.op = .call { callee := .builtin .append, args := #[s, x], argTypes := #[t, t] })
    {E sz bytes : Nat} [hT : RowT P t E sz bytes] {A : Option Addr} {n c : Nat} (hs : a.eval s = .slice A n c) {ad : Addr} {m c' : Nat} (hx : a.eval x = .slice (some ad) m c')
    (k : Nat) {xs : List Value} (hk : L[k]? = some (row E sz (.slice A n c) n xs)) (news : List Value) (hl : news.length = m * sz) (hnews : ∀ j u, news[j]? = some u → W.cell? (ad.add j) = some u) (h1 : ∀ u ∈ news, u.oneCell' = true)
    (h63 : n + m ≤ 9223372036854775807) (hbytes : (n + m) * bytes ≤ 140737488355328) {d : Tmp} (hd : o.dst = some d)
    (h : ∀ A' c' w', Own w0 (L.set k (row E sz (.slice A' (n + m) c') (n + m) (xs ++ news))) w' → K (a.put (some d) (.slice A' (n + m) c')) w') : o.wp P a W K Q := by
  obtain ⟨i, z, t1, t2, t3, t4, t5, t6, t7⟩ := hT.of
  have hO' := hO.step hW
  obtain ⟨v', w', hr, h2, h3, _, h5⟩ := run_append_own_at (P := P) W w0.heap.size t o.type E i z sz bytes t1 t2 t3 t4 t5 t6 t7 (.slice A n c) n xs (hO'.row_own k hk) ad m c' news hl hnews h1 (by unfold maxLen; omega) hbytes hO'.below.size
  obtain ⟨A', c1, rfl⟩ := own_slice h2
  unfold Oper.wp execOp
  simp only [ho, resolve, invoke, builtin, Sem.run_bind, Sem.run_pure, Result.andThen_ok, List.map_toArray, List.map_cons, List.map_nil, hs, hx, hr]
  show K (a.put o.dst _) _
  rw [hd]
  refine h A' c1 w' (hO'.grow k hk h2 h3 ?_)
  rcases h5 with h5 | h5
  · exact .inl h5
  · exact .inr fun q hq => by rw [h5] at hq; injection hq with hq; omega

/-- append of what a slice literal has just laid -/
theorem wp_append_lit (hO : Own w0 L w) {cs : List Value} {t' : TypeId} {s x : Operand} {t : TypeId} (ho : o.op = .call { callee := .builtin .append, args := #[s, x], argTypes := #[t, t] })
    {E sz bytes : Nat} [hT : RowT P t E sz bytes] {A : Option Addr} {n c : Nat} (hs : a.eval s = .slice A n c) {m c' : Nat} (hx : a.eval x = .slice (some ⟨w.heap.size, 0, none⟩) m c')
    (k : Nat) {xs : List Value} (hk : L[k]? = some (row E sz (.slice A n c) n xs)) (hl : cs.length = m * sz) (h1 : cs.all (·.oneCell') = true)
    (h63 : n + m ≤ 9223372036854775807) (hbytes : (n + m) * bytes ≤ 140737488355328) {d : Tmp} (hd : o.dst = some d)
    (h : ∀ A' c' w', Own w0 (L.set k (row E sz (.slice A' (n + m) c') (n + m) (xs ++ cs))) w' → K (a.put (some d) (.slice A' (n + m) c')) w') : o.wp P a (w.alloc (.cells cs.toArray t')) K Q := by
  refine wp_append_row hO ((Below.refl _ _).alloc (Nat.le_refl _) _) ho hs hx k hk cs hl (fun j u hu => ?_) (fun u hu => ?_) h63 hbytes hd h
  · have e : (⟨w.heap.size, 0, none⟩ : Addr).add j = ⟨w.heap.size, j, none⟩ := by
      unfold Addr.add
      by_cases h0 : j = 0 <;> simp [h0]
    rw [e, cell_of_row _ _ _ cs.toArray t' (0, 0) (heap_alloc_new w _)]
    simpa using hu
  · exact (List.all_eq_true.1 h1) u hu

theorem run_append_str_at (w : World) (base : Nat) (t u ty e : TypeId) (i : TypeInfo) (ht : P.underlying t = some (.slice e)) (hu : P.underlying u = some .string) (hi : P.info? e = some i) (hz : i.zero = some (.int .u8 0))
    (hsize : i.size = 1) (hby : i.bytes = 1)
    (v : Value) (n : Nat) (xs : List Value) (hown : w.ownsRow base e 1 v n xs) (s : ByteArray)
    (h63 : n + s.size ≤ maxLen) (hbytes : n + s.size ≤ 140737488355328) (hbase : base ≤ w.heap.size) :
    ∃ v' w', (Builtin.append_ #[t, u] ty #[v, .string s]).run P w = .ok v' w' ∧ w'.ownsRow base e 1 v' (n + s.size) (xs ++ Lib.strCells s) ∧ w.grownBy w' v.ownBlock ∧
      (v'.ownBlock = v.ownBlock ∨ ∀ k, v'.ownBlock = some k → w.heap.size ≤ k) := by
  have hsmall : n + s.size ≤ 9223372036854775807 := by simp only [maxLen] at h63; omega
  have hxl : xs.length = n := by simpa using hown.1
  rcases hown.2 with ⟨rfl, rfl⟩ | ⟨g, cap, cur, rfl, hbg, hg, hnc, hcm, hcs, htake⟩
  · obtain ⟨v', w', hr, h2, h3, _⟩ := Lib.run_append_own_string (P := P) w w.heap.size t u ty e i ht hu hi hz hsize hby (.slice none 0 0) 0 xs ⟨hown.1, .inl ⟨rfl, rfl⟩⟩ s h63 hbytes (Nat.le_refl _)
    exact ⟨v', w', hr, own_base h2 (fun k hk => Nat.le_trans hbase (h2.lt k hk).1), h3, .inr fun k hk => (h2.lt k hk).1⟩
  · obtain ⟨v', w', hr, h2, h3, _⟩ := Lib.run_append_own_string (P := P) w base t u ty e i ht hu hi hz hsize hby _ n xs hown s h63 hbytes hbase
    refine ⟨v', w', hr, h2, h3, ?_⟩
    by_cases hroom : n + s.size ≤ cap
    · have hcs' : cur.size = cap := by simpa using hcs
      have hr2 := Lib.run_append_room_string (P := P) w t u ty e i ht hu hi hsize g n cap cur hg s hroom (by omega)
      rw [hr] at hr2
      injection hr2 with e1 e2
      exact .inl (by rw [e1]; rfl)
    · have holds : ∀ j u, xs[j]? = some u → w.cell? ((⟨g, 0, none⟩ : Addr).add j) = some u := hown.cells (g := g) rfl
      have hr2 := Lib.run_append_grow_string (P := P) w t u ty e i (.int .u8 0) ht hu hi hz ⟨g, 0, none⟩ n cap xs (by rw [hsize]; simpa using hxl) holds s (by omega) (by omega) (by rw [hby]; exact growslice_fits (by omega) (by omega))
      rw [hr] at hr2
      injection hr2 with e1 e2
      refine .inr fun k hk => ?_
      rw [e1] at hk
      have h6 : some w.heap.size = some k := hk
      injection h6 with h6
      omega

/-- append of a string's bytes -/
theorem wp_append_str (hO : Own w0 L w) {s x : Operand} {t u : TypeId} (ho : o.op = .call { callee := .builtin .append, args := #[s, x], argTypes := #[t, u] })
    {E : Nat} [hT : ByteRow P t E] [hU : StrT P u] {A : Option Addr} {n c : Nat} (hs : a.eval s = .slice A n c) {y : ByteArray} (hx : a.eval x = .string y)
    (k : Nat) {xs : List Value} (hk : L[k]? = some (row E 1 (.slice A n c) n xs)) (h63 : n + y.size ≤ 140737488355328) {d : Tmp} (hd : o.dst = some d)
    (h : ∀ A' c' w', Own w0 (L.set k (row E 1 (.slice A' (n + y.size) c') (n + y.size) (xs ++ Lib.strCells y))) w' → K (a.put (some d) (.slice A' (n + y.size) c')) w') : o.wp P a w K Q := by
  obtain ⟨i, t1, t2, t3, t4, t5⟩ := hT.of
  obtain ⟨v', w', hr, h2, h3, h5⟩ := run_append_str_at (P := P) w w0.heap.size t u o.type E i t1 hU.of t2 t3 t4 t5 (.slice A n c) n xs (hO.row_own k hk) y (by unfold maxLen; omega) h63 hO.below.size
  obtain ⟨A', c1, rfl⟩ := own_slice h2
  unfold Oper.wp execOp
  simp only [ho, resolve, invoke, builtin, Sem.run_bind, Sem.run_pure, Result.andThen_ok, List.map_toArray, List.map_cons, List.map_nil, hs, hx, hr]
  show K (a.put o.dst _) _
  rw [hd]
  exact h A' c1 w' (hO.grow k hk h2 h3 h5)

/-! at a list of operations -/

theorem za3 (hO : Own w0 L w) {cs : List Value} {t' : TypeId} {s x : Operand} {t : TypeId} (ho : o.op = .call { callee := .builtin .append, args := #[s, x], argTypes := #[t, t] }) (hw : Region.wanted o (yielded ops a.tmps) = true)
    {E sz bytes : Nat} [hT : RowT P t E sz bytes] {A : Option Addr} {n c : Nat} (hs : a.eval s = .slice A n c) {m c' : Nat} (hx : a.eval x = .slice (some ⟨w.heap.size, 0, none⟩) m c')
    (k : Nat) {xs : List Value} (hk : L[k]? = some (row E sz (.slice A n c) n xs)) (hl : cs.length = m * sz) (h1 : cs.all (·.oneCell') = true)
    (h63 : n + m ≤ 9223372036854775807) (hbytes : (n + m) * bytes ≤ 140737488355328) {d : Tmp} (hd : o.dst = some d) {a' : Option Addr → Nat → Act} (ha : ∀ A' c', a.put (some d) (.slice A' (n + m) c') = a' A' c')
    (h : ∀ A' c' w', Own w0 (L.set k (row E sz (.slice A' (n + m) c') (n + m) (xs ++ cs))) w' → wpList P ops Q rest (a' A' c') w') : wpList P ops Q (o :: rest) a (w.alloc (.cells cs.toArray t')) :=
  zbc (hw := hw) (wp_append_lit hO ho hs hx k hk hl h1 h63 hbytes hd fun A' c' w' h' => by rw [ha]; exact h A' c' w' h')

theorem za1 (hO : Own w0 L w) {s x : Operand} {t u : TypeId} (ho : o.op = .call { callee := .builtin .append, args := #[s, x], argTypes := #[t, u] }) (hw : Region.wanted o (yielded ops a.tmps) = true)
    {E : Nat} [hT : ByteRow P t E] [hU : StrT P u] {A : Option Addr} {n c : Nat} (hs : a.eval s = .slice A n c) {y : ByteArray} (hx : a.eval x = .string y)
    (k : Nat) {xs : List Value} (hk : L[k]? = some (row E 1 (.slice A n c) n xs)) (h63 : n + y.size ≤ 140737488355328) {d : Tmp} (hd : o.dst = some d) {a' : Option Addr → Nat → Act} (ha : ∀ A' c', a.put (some d) (.slice A' (n + y.size) c') = a' A' c')
    (h : ∀ A' c' w', Own w0 (L.set k (row E 1 (.slice A' (n + y.size) c') (n + y.size) (xs ++ Lib.strCells y))) w' → wpList P ops Q rest (a' A' c') w') : wpList P ops Q (o :: rest) a w :=
  zbc (hw := hw) (wp_append_str hO ho hs hx k hk h63 hd fun A' c' w' h' => by rw [ha]; exact h A' c' w' h')

end

end

section

open Go Go.RowKit

instance : AggT Try.prog 83 3 := ⟨⟨_, Try.underlying83, rfl, by kernel_rfl⟩⟩

instance : ZeroT Try.prog 83 [.int .i64 0, .int .i64 0, .string ⟨#[]⟩] := ⟨⟨.agg #[.int .i64 0, .int .i64 0, .string ⟨#[]⟩], by kernel_rfl, rfl⟩⟩

instance : AggT Try.prog 124 3 := ⟨⟨_, Try.underlying124, rfl, by kernel_rfl⟩⟩

instance : ZeroT Try.prog 124 [.int .i64 0, .int .i64 0, .string ⟨#[]⟩] := ⟨⟨.agg #[.int .i64 0, .int .i64 0, .string ⟨#[]⟩], by kernel_rfl, rfl⟩⟩

instance : AggT Try.prog 29 8 := ⟨⟨_, Try.underlying29, rfl, by kernel_rfl⟩⟩

instance : ZeroT Try.prog 29 [.int .i64 0, .slice none 0 0, .slice none 0 0, .slice none 0 0, .slice none 0 0, .slice none 0 0, .int .i64 0, .int .i64 0] := ⟨⟨.agg #[.int .i64 0, .slice none 0 0, .slice none 0 0, .slice none 0 0, .slice none 0 0, .slice none 0 0, .int .i64 0, .int .i64 0], by kernel_rfl, rfl⟩⟩

instance : AggT Try.prog 42 8 := ⟨⟨_, Try.underlying42, rfl, by kernel_rfl⟩⟩

instance : ZeroT Try.prog 42 [.int .i64 0, .slice none 0 0, .slice none 0 0, .slice none 0 0, .slice none 0 0, .slice none 0 0, .int .i64 0, .int .i64 0] := ⟨⟨.agg #[.int .i64 0, .slice none 0 0, .slice none 0 0, .slice none 0 0, .slice none 0 0, .slice none 0 0, .int .i64 0, .int .i64 0], by kernel_rfl, rfl⟩⟩

instance : OneT Try.prog 3 := ⟨⟨_, Try.underlying3, rfl, by kernel_rfl⟩⟩

instance : OneT Try.prog 4 := ⟨⟨_, Try.underlying4, rfl, by kernel_rfl⟩⟩

instance : OneT Try.prog 9 := ⟨⟨_, Try.underlying9, rfl, by kernel_rfl⟩⟩

instance : OneT Try.prog 5 := ⟨⟨_, Try.underlying5, rfl, by kernel_rfl⟩⟩

instance : OneT Try.prog 58 := ⟨⟨_, Try.underlying58, rfl, by kernel_rfl⟩⟩

instance : OneT Try.prog 75 := ⟨⟨_, Try.underlying75, rfl, by kernel_rfl⟩⟩

instance : OneT Try.prog 23 := ⟨⟨_, Try.underlying23, rfl, by kernel_rfl⟩⟩

instance : OneT Try.prog 26 := ⟨⟨_, Try.underlying26, rfl, by kernel_rfl⟩⟩

instance : OneT Try.prog 40 := ⟨⟨_, Try.underlying40, rfl, by kernel_rfl⟩⟩

instance : OneT Try.prog 27 := ⟨⟨_, Try.underlying27, rfl, by kernel_rfl⟩⟩

instance : OneT Try.prog 22 := ⟨⟨_, Try.underlying22, rfl, by kernel_rfl⟩⟩

instance : StrT Try.prog 9 := ⟨Try.underlying9⟩

instance : ByteRow Try.prog 58 5 := ⟨by
  obtain ⟨i, hi, hzz⟩ := Option.map_eq_some_iff.1 (show (Try.prog.info? 5).map (fun i => (i.zero, i.size, i.bytes)) = some (some (.int .u8 0), 1, 1) by kernel_rfl)
  simp only [Prod.mk.injEq] at hzz
  exact ⟨i, Try.underlying58, hi, hzz.1, hzz.2.1, hzz.2.2⟩⟩

instance : RowT Try.prog 58 5 1 1 := .mk' (.int .u8 0) Try.underlying58 (by kernel_rfl) rfl (by decide)

instance : RowT Try.prog 75 3 1 8 := .mk' (.int .i64 0) Try.underlying75 (by kernel_rfl) rfl (by decide)

instance : RowT Try.prog 23 9 1 16 := .mk' (.string ⟨#[]⟩) Try.underlying23 (by kernel_rfl) rfl (by decide)

instance : RowT Try.prog 26 83 3 32 := .mk' (.agg #[.int .i64 0, .int .i64 0, .string ⟨#[]⟩]) Try.underlying26 (by kernel_rfl) rfl (by decide)

instance : RowT Try.prog 40 124 3 32 := .mk' (.agg #[.int .i64 0, .int .i64 0, .string ⟨#[]⟩]) Try.underlying40 (by kernel_rfl) rfl (by decide)

instance : RowT Try.prog 27 29 8 144 := .mk' (.agg #[.int .i64 0, .slice none 0 0, .slice none 0 0, .slice none 0 0, .slice none 0 0, .slice none 0 0, .int .i64 0, .int .i64 0]) Try.underlying27 (by kernel_rfl) rfl (by decide)

instance : RowT Try.prog 22 42 8 144 := .mk' (.agg #[.int .i64 0, .slice none 0 0, .slice none 0 0, .slice none 0 0, .slice none 0 0, .slice none 0 0, .int .i64 0, .int .i64 0]) Try.underlying22 (by kernel_rfl) rfl (by decide)

end

end Go.Proofs.Ytmofcbpabdbjlaa
