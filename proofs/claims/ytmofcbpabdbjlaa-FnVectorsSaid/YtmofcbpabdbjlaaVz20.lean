/-
  What is proved: append to a slice literal without elements, inside a region that draws its order: the result is new, or the literal itself.
  Condition: none beyond those of the theorems.
-/
import Derived.Test.YtmofcbpabdbjlaaVz5
import Derived.Test.YtmofcbpabdbjlaaVz13
namespace Go.Proofs.Ytmofcbpabdbjlaa

set_option maxRecDepth 8000

open Go Go.RowKit

set_option linter.unusedSimpArgs false

set_option linter.unusedVariables false

/-- a thing, or nothing if there are no elements -/
def opt (m : Nat) (r : Res) : Res where
  foot := fun b => m ≠ 0 ∧ r.foot b
  holds := fun w => m ≠ 0 → r.holds w
  loc := fun w w' h hw hm => r.loc w w' (fun b hb => h b ⟨hm, hb⟩) (hw hm)

section

variable {P : Program} {o : Oper} {a : Act} {w w' w0 : World} {K : Act → World → Prop} {Q : Exit → Act → World → Prop} {L R : List Res} {ops : Array Oper} {rest : List Oper}

theorem Own.opt0 (h : Own w0 L w) (r : Res) : Own w0 (L ++ [opt 0 r]) w := by
  refine (h.add (Below.refl _ _) (opt 0 r) (fun hm => absurd rfl hm) (fun b hb => absurd rfl hb.1)).perm ?_
  exact List.perm_append_comm (l₁ := [opt 0 r])

theorem Own.optOf {m : Nat} {r : Res} (hm : m ≠ 0) (h : Own w0 (r :: R) w) : Own w0 (opt m r :: R) w := by
  obtain ⟨h1, h2, h3, h4⟩ := h
  obtain ⟨p1, p2⟩ := List.pairwise_cons.1 h4
  refine ⟨h1, fun q hq => ?_, fun q hq b hb => ?_, List.pairwise_cons.2 ⟨fun q hq b hb => p1 q hq b hb.2, p2⟩⟩
  · rcases List.mem_cons.1 hq with rfl | hq
    · exact fun _ => h2 _ (List.mem_cons_self)
    · exact h2 q (List.mem_cons_of_mem _ hq)
  · rcases List.mem_cons.1 hq with rfl | hq
    · exact h3 r (List.mem_cons_self) b hb.2
    · exact h3 q (List.mem_cons_of_mem _ hq) b hb

theorem Own.ofOpt {m : Nat} {r : Res} (hm : m ≠ 0) (h : Own w0 (opt m r :: R) w) : Own w0 (r :: R) w := by
  obtain ⟨h1, h2, h3, h4⟩ := h
  obtain ⟨p1, p2⟩ := List.pairwise_cons.1 h4
  refine ⟨h1, fun q hq => ?_, fun q hq b hb => ?_, List.pairwise_cons.2 ⟨fun q hq b hb => p1 q hq b ⟨hm, hb⟩, p2⟩⟩
  · rcases List.mem_cons.1 hq with rfl | hq
    · exact h2 _ (List.mem_cons_self) hm
    · exact h2 q (List.mem_cons_of_mem _ hq)
  · rcases List.mem_cons.1 hq with rfl | hq
    · exact h3 _ (List.mem_cons_self) b ⟨hm, hb⟩
    · exact h3 q (List.mem_cons_of_mem _ hq) b hb

/-- the literal and what was appended to it are one row -/
theorem Own.join {e sz m c b : Nat} {A : Option Addr} {xs : List Value} (h : Own w0 (row e sz (.slice (some ⟨b, 0, none⟩) 0 0) 0 [] :: opt m (row e sz (.slice A m c) m xs) :: R) w)
    (hz : m = 0 → Value.slice (some ⟨b, 0, none⟩) 0 0 = .slice A m c) (hl : xs.length = m * sz) : Own w0 (row e sz (.slice A m c) m xs :: R) w := by
  by_cases hm : m = 0
  · subst hm
    have h0 : xs = [] := List.length_eq_zero_iff.1 (by omega)
    subst h0
    rw [← hz rfl]
    exact h.sub (.cons_cons _ (.cons _ (List.Sublist.refl _)))
  · exact (h.sub (.cons _ (List.Sublist.refl _))).ofOpt hm

theorem za2 (hO : Own w0 L w) {t : TypeId} (ho : o.op = .buildSlice t 0 #[]) {E sz bytes : Nat} [hT : RowT P t E sz bytes] {d : Tmp} (hd : o.dst = some d)
    (h : ∀ b w', Own w0 (L ++ [row E sz (.slice (some ⟨b, 0, none⟩) 0 0) 0 []]) w' → K (a.put (some d) (.slice (some ⟨b, 0, none⟩) 0 0)) w') : o.wp P a w K Q :=
  wp_build_list hO ho [] rfl rfl rfl (by omega) rfl hd fun b w' h' => by
    refine h b w' ?_
    have h1 := h'.perm (L' := box b E [] :: L) List.perm_append_comm
    have h2 := h1.box_row sz 0 (by simp) (by omega)
    exact h2.perm (List.perm_append_comm (l₁ := [_]))

theorem za3 (hO : Own w0 L w) {s x : Operand} {t : TypeId} (ho : o.op = .call { callee := .builtin .append, args := #[s, x], argTypes := #[t, t] })
    {E sz bytes : Nat} [hT : RowT P t E sz bytes] {b : Nat} (hs : a.eval s = .slice (some ⟨b, 0, none⟩) 0 0) {B : Option Addr} {m c : Nat} (hx : a.eval x = .slice B m c) {news : List Value} (hsl : Sl w sz B m news)
    (h63 : m ≤ 9223372036854775807) (hbytes : m * bytes ≤ 140737488355328)
    (h : ∀ A' c' w', (m = 0 → Value.slice (some ⟨b, 0, none⟩) 0 0 = .slice A' m c') → Own w0 (L ++ [opt m (row E sz (.slice A' m c') m news)]) w' → K (a.put o.dst (.slice A' m c')) w') : o.wp P a w K Q := by
  obtain ⟨i, z, t1, t2, t3, t4, t5, t6, t7⟩ := hT.of
  by_cases h0 : m = 0
  · subst h0
    have hr := Go.run_append_nothing (P := P) w t t o.type E i t1 t2 (some ⟨b, 0, none⟩) 0 0 (Nat.le_refl _) (.slice B 0 c) ⟨.inl ⟨_, t1⟩, fun w' => by simp [Builtin.lenOf], by cases B <;> simp [Builtin.firstCells, loadCells, loadCellsFrom], by cases B <;> simp [Builtin.firstCells, loadCells, loadCellsFrom], by simp, by simp⟩
    unfold Oper.wp execOp
    simp only [ho, resolve, invoke, builtin, Sem.run_bind, Sem.run_pure, Result.andThen_ok, List.map_toArray, List.map_cons, List.map_nil, hs, hx, hr]
    exact h _ 0 w (fun _ => rfl) (hO.opt0 _)
  · obtain ⟨bb, off, rfl, hb, hc⟩ := hsl.at_ (by omega)
    subst t4
    have hnews : ∀ j u, news[j]? = some u → w.cell? ((⟨bb, off, none⟩ : Addr).add j) = some u := fun j u hu => by
      rw [add_off]
      exact hc j u hu
    have hb2 : m * i.bytes ≤ 140737488355328 := by rw [t5]; exact hbytes
    have hr := run_append_grow (P := P) w t o.type E i z t1 t2 t3 ⟨b, 0, none⟩ 0 0 [] (by simp) (by simp) ⟨bb, off, none⟩ m c news hsl.len hnews (by omega) (by omega) (growslice_fits (by omega) (by rw [Nat.zero_add]; exact hb2))
    simp only [Nat.zero_add, Array.empty_append] at hr
    unfold Oper.wp execOp
    simp only [ho, resolve, invoke, builtin, Sem.run_bind, Sem.run_pure, Result.andThen_ok, List.map_toArray, List.map_cons, List.map_nil, hs, hx, hr]
    have hge := grownCap_ge w m 0 E
    have hcm : grownCap w m 0 E ≤ maxLen := grownCap_le_maxLen w m 0 E (by unfold maxLen; exact h63)
    refine h _ _ _ (fun h => absurd h h0) ?_
    have hown : (w.drew.alloc (.cells (news.toArray ++ Builtin.zeroCells z.cells (grownCap w m 0 E - m)) E)).ownsRow w.heap.size E i.size (.slice (some ⟨w.heap.size, 0, none⟩) m (grownCap w m 0 E)) m news := by
      refine ⟨hsl.len, .inr ⟨w.heap.size, _, _, rfl, Nat.le_refl _, heap_alloc_new w.drew _, hge, hcm, ?_, ?_⟩⟩
      · simp only [Array.size_append, List.size_toArray, size_zeroCells, t6, hsl.len, ← Nat.add_mul]
        congr 1
        omega
      · simp only [Array.toList_append]
        rw [← hsl.len]
        exact List.take_left
    have hbel : Below w.heap.size w (w.drew.alloc (.cells (news.toArray ++ Builtin.zeroCells z.cells (grownCap w m 0 E - m)) E)) := ((Below.refl _ _).drew).alloc (Nat.le_refl _) _
    have h1 := hO.addRow hbel hown
    have h2 := Own.optOf (m := m) h0 (h1.perm (L' := _ :: L) List.perm_append_comm)
    exact h2.perm (List.perm_append_comm (l₁ := [_]))

end

/-- a slice literal without elements -/
def J.fresh0 (E sz : Nat) : Value × List Res → Prop := fun x => ∃ b, x = (.slice (some ⟨b, 0, none⟩) 0 0, [row E sz (.slice (some ⟨b, 0, none⟩) 0 0) 0 []])

/-- what was appended to the literal that operation k made -/
def J.freshA (E sz m : Nat) (xs : List Value) (y : Value × List Res) : Value × List Res → Prop := fun x => ∃ A c, x = (.slice A m c, [opt m (row E sz (.slice A m c) m xs)]) ∧ (m = 0 → y.1 = .slice A m c)

/-- a call hands back a fresh row that holds xs -/
def J.freshRow (E sz n : Nat) (xs : List Value) : Value × List Res → Prop := fun x => ∃ A c, x = (.slice A n c, [row E sz (.slice A n c) n xs])

end Go.Proofs.Ytmofcbpabdbjlaa
