/-
  What is proved: append of a slice that lies anywhere; an empty slice literal as a row.
  Condition: none beyond those of the theorems.
-/
import Derived.Deep.Upon
import Derived.Test.YtmofcbpabdbjlaaVz4
import Derived.Test.YtmofcbpabdbjlaaVz11
namespace Go.Proofs.Ytmofcbpabdbjlaa

set_option maxRecDepth 8000

open Go Go.RowKit

set_option linter.unusedSimpArgs false

set_option linter.unusedVariables false

section

variable {P : Program} {o : Oper} {a : Act} {w w' w0 : World} {K : Act → World → Prop} {Q : Exit → Act → World → Prop} {L : List Res} {ops : Array Oper} {rest : List Oper}

theorem add_off (b off i : Nat) : (⟨b, off, none⟩ : Addr).add i = ⟨b, off + i, none⟩ := by
  unfold Addr.add
  by_cases h0 : i = 0 <;> simp [h0]

theorem wp_append_src (hO : Own w0 L w) {s x : Operand} {t : TypeId} (ho : o.op = .call { callee := .builtin .append, args := #[s, x], argTypes := #[t, t] })
    {E sz bytes : Nat} [hT : RowT P t E sz bytes] {A : Option Addr} {n c : Nat} (hs : a.eval s = .slice A n c) {B : Option Addr} {m c' : Nat} (hx : a.eval x = .slice B m c')
    (k : Nat) {xs : List Value} (hk : L[k]? = some (row E sz (.slice A n c) n xs)) {news : List Value} (hsl : Sl w sz B m news) (h1 : news.all (·.oneCell') = true)
    (h63 : n + m ≤ 9223372036854775807) (hbytes : (n + m) * bytes ≤ 140737488355328) {d : Tmp} (hd : o.dst = some d)
    (h : ∀ A' c' w', Own w0 (L.set k (row E sz (.slice A' (n + m) c') (n + m) (xs ++ news))) w' → K (a.put (some d) (.slice A' (n + m) c')) w') : o.wp P a w K Q := by
  by_cases h0 : m = 0
  · subst h0
    have hn : news = [] := List.length_eq_zero_iff.1 (by have := hsl.len; simpa using this)
    subst hn
    obtain ⟨i, z, t1, t2, t3, t4, t5, t6, t7⟩ := hT.of
    have hnc := row_cap (hO.get k hk)
    have hr := Go.run_append_nothing (P := P) w t t o.type E i t1 t2 A n c hnc (.slice B 0 c') ⟨.inl ⟨_, t1⟩, fun w' => by simp [Builtin.lenOf], by cases B <;> simp [Builtin.firstCells, loadCells, loadCellsFrom], by cases B <;> simp [Builtin.firstCells, loadCells, loadCellsFrom], by simp, by simp⟩
    unfold Oper.wp execOp
    simp only [ho, resolve, invoke, builtin, Sem.run_bind, Sem.run_pure, Result.andThen_ok, List.map_toArray, List.map_cons, List.map_nil, hs, hx, hr]
    show K (a.put o.dst _) _
    rw [hd]
    refine h A c w ?_
    have e : L.set k (row E sz (.slice A (n + 0) c) (n + 0) (xs ++ [])) = L := by
      rw [List.append_nil, Nat.add_zero]
      obtain ⟨hlt, he⟩ := List.getElem?_eq_some_iff.1 hk
      rw [← he, List.set_getElem_self]
    rw [e]
    exact hO
  · obtain ⟨b, off, rfl, hb, hc⟩ := hsl.at_ (by omega)
    refine wp_append_row hO (Below.refl _ _) ho hs hx k hk news hsl.len (fun j u hu => ?_) (fun u hu => (List.all_eq_true.1 h1) u hu) h63 hbytes hd h
    rw [add_off]
    exact hc j u hu

theorem zar (hO : Own w0 L w) {s x : Operand} {t : TypeId} (ho : o.op = .call { callee := .builtin .append, args := #[s, x], argTypes := #[t, t] }) (hw : Region.wanted o (yielded ops a.tmps) = true)
    {E sz bytes : Nat} [hT : RowT P t E sz bytes] {A : Option Addr} {n c : Nat} (hs : a.eval s = .slice A n c) {B : Option Addr} {m c' : Nat} (hx : a.eval x = .slice B m c')
    (k : Nat) {xs : List Value} (hk : L[k]? = some (row E sz (.slice A n c) n xs)) {news : List Value} (hsl : Sl w sz B m news) (h1 : news.all (·.oneCell') = true)
    (h63 : n + m ≤ 9223372036854775807) (hbytes : (n + m) * bytes ≤ 140737488355328) {d : Tmp} (hd : o.dst = some d) {a' : Option Addr → Nat → Act} (ha : ∀ A' c', a.put (some d) (.slice A' (n + m) c') = a' A' c')
    (h : ∀ A' c' w', Own w0 (L.set k (row E sz (.slice A' (n + m) c') (n + m) (xs ++ news))) w' → wpList P ops Q rest (a' A' c') w') : wpList P ops Q (o :: rest) a w :=
  zba (hw := hw) (wp_append_src hO ho hs hx k hk hsl h1 h63 hbytes hd fun A' c' w' h' => by rw [ha]; exact h A' c' w' h')

theorem zav (hO : Own w0 L w) {t : TypeId} (ho : o.op = .buildSlice t 0 #[]) (hw : Region.wanted o (yielded ops a.tmps) = true) {E sz bytes : Nat} [hT : RowT P t E sz bytes]
    {d : Tmp} (hd : o.dst = some d) {a' : Nat → Act} (ha : ∀ b, a.put (some d) (.slice (some ⟨b, 0, none⟩) 0 0) = a' b)
    (h : ∀ b w', Own w0 (L ++ [row E sz (.slice (some ⟨b, 0, none⟩) 0 0) 0 []]) w' → wpList P ops Q rest (a' b) w') : wpList P ops Q (o :: rest) a w :=
  zba (hw := hw) (wp_build_list hO ho [] rfl rfl rfl (by omega) rfl hd fun b w' h' => by
    rw [ha]
    refine h b w' ?_
    have h1 := h'.perm (L' := box b E [] :: L) List.perm_append_comm
    have h2 := h1.box_row sz 0 (by simp) (by omega)
    exact h2.perm (List.perm_append_comm (l₁ := [_])))

end

/-- copies of texts -/
theorem impl_copyTexts (A : Option Addr) (c : Nat) (l : List ByteArray) (w : World) (h : Sl w 1 A l.length (stc l)) (hn : l.length ≤ 1048576) :
    Calls Try.prog 64 #[.slice A l.length c] w fun e w' => ∃ A' c', e = .returned (.slice A' l.length c') ∧ Own w [row 9 1 (.slice A' l.length c') l.length (stc l)] w' := by
  have S := fun u (hb : Below w.heap.size w u) => h.below hb
  go_enter Try.func64, Try.ntmps64
  have hO := Own.nil w
  go_wp2_with (first
    | ((with_reducible refine zag ?_); refine zav hO rfl (by rfl) rfl (fun b => by simp only [Act.put, zA, zB, zC]; rfl) ?_; clear hO; intro bb u hO; simp only [zL, zK] at hO)
    | ((with_reducible refine zaq ?_); refine zar hO rfl (by rfl) rfl rfl _ (by exact at0) (S _ hO.below) (stc_one _) (by omega) (by omega) rfl (fun A' c' => by simp only [Act.put, zA, zB, zC]; rfl) ?_; clear hO; intro A' c' u hO; simp only [zC, zB, Nat.zero_add, zL] at hO; (try simp only [Nat.zero_add]))
    | fail)
  go_ret
  exact ⟨_, _, rfl, hO⟩

end Go.Proofs.Ytmofcbpabdbjlaa
