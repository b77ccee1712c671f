/-
  What is proved: the end of a function that hands back an owned vector and a string; truth values of items, and what counts as numbers, of the program and of the reference; vectors of items and names handed back. an owned vector that is handed back, cell by cell; append to a slice literal without elements, inside a region that draws its order: the result is new, or the literal itself; what MissingIn says of a vector, in plain Lean, and the item that stands for a truth. what fits, tidyNames (program) and l4Fit, l4Clean (reference) return: the bound on a result, and names that are all empty. plain facts on copies of lists of vectors (the reference marks what is not valid), and on lists of vectors.
  Condition: none beyond those of the theorems.
-/
import Derived.Deep.Cut
import Derived.Test.YtmofcbpabdbjlaaGreatMz3
import Derived.Test.YtmofcbpabdbjlaaGreatMz4
import Derived.Test.YtmofcbpabdbjlaaGreatMz5
import Derived.Test.YtmofcbpabdbjlaaGreatMz9
import Derived.Test.YtmofcbpabdbjlaaGreatMz12
import Derived.Test.YtmofcbpabdbjlaaGreatMz13
namespace Go.Proofs.YtmofcbpabdbjlaaGreat

set_option maxRecDepth 8000

open Go.RowKit Go.ChangeShapes Go.WideShapes

set_option linter.unusedVariables false

set_option linter.unusedSimpArgs false

/-- the end: a struct variable and one more value are handed back -/
theorem zau {P : Program} {w0 w : World} {L : List Res} {a : Act} {fn : Func} {R : Ending → World → Prop} {p q : Tmp} {ty : TypeId} (hres : fn.results = #[.cell p ty, .tmp q]) (hO : Own w0 L w) {b : Nat} (hp : a.tmps.getD p undef = .pointer (some ⟨b, 0, none⟩))
    (k : Nat) {t : TypeId} {cs : List Value} (hk : L[k]? = some (box b t cs)) {n : Nat} [hT : AggT P ty n] (hn : cs.length = n) (hd : a.defers = []) {v : Value} (hv : a.tmps.getD q undef = v) (hR : R (.returned (.tuple #[.agg cs.toArray, v])) w) : bodyPost P fn R .ret a w := by
  obtain ⟨d, h1, h2, h3⟩ := hT.of
  subst hn
  subst hv
  refine ⟨hd, _, ?_, hR⟩
  have hl := run_loadVar_mid (P := P) w b 0 ty cs d (hO.range k hk) h1 h2 h3
  have hp' : a.tmps[p]?.getD undef = .pointer (some ⟨b, 0, none⟩) := by rw [← Array.getD_eq_getD_getElem?]; exact hp
  simp [results, hres, hp', asAddr, hl]

/-- hands back an owned vector and a string -/
def RetVS (t : VT) (s : ByteArray) (w : World) (e : Ending) (w' : World) : Prop := ∃ vs F, e = .returned (.tuple #[.agg vs.toArray, .string s]) ∧ VO t vs F ∧ Own w [pack F] w'

end Go.Proofs.YtmofcbpabdbjlaaGreat

namespace Go.Proofs.YtmofcbpabdbjlaaGreat

set_option maxRecDepth 8000

section

open Go.RowKit Go.ChangeShapes Go.WideShapes Go.Deep

set_option linter.unusedVariables false

set_option linter.unusedSimpArgs false

/-- what a valid vector's head says -/
theorem isV_facts {k : Int} {is : List It} {ps : List VT} {ns cs ls : List ByteArray} {c e : Int} (h : isV (.mk k is ps ns cs ls c e) = true) :
    (0 ≤ k ∧ k ≤ 5) ∧ lenV (.mk k is ps ns cs ls c e) ≤ 40 ∧ (ns.length = 0 ∨ ns.length = lenV (.mk k is ps ns cs ls c e)) ∧ (ls.length = 0 ∨ k = 2) ∧ (ps.length = 0 ∨ k = 4) ∧ (k = 5 → is.length = 0 ∧ ns.length = 0) ∧ (k = 0 → is.length = 0) ∧ (∀ x ∈ is, itB k ls x = true) ∧ (k = 5 ∨ (c = 0 ∧ e = 0)) := by
  unfold isV at h
  simp only [Bool.and_eq_true] at h
  have h1 := h.1
  unfold lB at h1
  simp only [Bool.and_eq_true] at h1
  have h2 := h1.1
  unfold nodeB at h2
  simp only [Bool.and_eq_true] at h2
  obtain ⟨h3, h4⟩ := h2
  rw [List.all_eq_true] at h4
  unfold headB at h3
  simp only [Bool.and_eq_true, Bool.or_eq_true, Bool.not_eq_true', decide_eq_true_eq, decide_eq_false_iff_not] at h3
  obtain ⟨⟨⟨⟨⟨⟨⟨⟨⟨⟨a1, a2⟩, a3⟩, a4⟩, a5⟩, a6⟩, a7⟩, a8⟩, a9⟩, a10⟩, a11⟩ := h3
  refine ⟨a1, a2, ?_, a7, a8, ?_, ?_, h4, ?_⟩
  · rcases a5 with h | h
    · exact .inl h
    · exact .inr h.1
  · intro hk
    rcases a10 with h | h
    · exact absurd hk h
    · exact ⟨h.1.1.1, h.1.1.2⟩
  · intro hk
    rcases a11 with h | h
    · exact absurd hk h
    · exact h.1
  · rcases a9 with h | h
    · exact .inl h
    · exact .inr h

def cntK (k : Int) (nl : Nat) : Bool := decide (k = 0) || decide (k = 1) || (decide (k = 2) && decide (nl = 0))

theorem impl_counts (k : Int) (v1 v2 v3 v4 v6 v7 : Value) (Al : Option Addr) (nl cl : Nat) (w : World) : Calls Tryz.prog 20 #[.agg #[.int .i64 k, v1, v2, v3, v4, .slice Al nl cl, v6, v7]] w fun e w' => e = .returned (.bool (cntK k nl)) ∧ Below w.heap.size w w' := by
  by_cases h0 : k = 0
  · subst h0
    go_enter Tryz.func20, Tryz.ntmps20
    have hO := Own.nil w
    go_wp2_with (first | ((with_reducible refine zad ?_); refine zbx rfl hO rfl rfl ?_; (refine nm 0 rfl ?_; clear hO; intro b0 u hO); simp only [zL, zK] at hO) | ((with_reducible refine zaa ?_); refine zlf rfl hO rfl _ (by exact at0) ?_) | fail)
    go_ret
    exact ⟨rfl, hO.below⟩
  by_cases h1 : k = 1
  · subst h1
    go_enter Tryz.func20, Tryz.ntmps20
    have hO := Own.nil w
    go_wp2_with (first | ((with_reducible refine zad ?_); refine zbx rfl hO rfl rfl ?_; (refine nm 0 rfl ?_; clear hO; intro b0 u hO); simp only [zL, zK] at hO) | ((with_reducible refine zaa ?_); refine zlf rfl hO rfl _ (by exact at0) ?_) | fail)
    go_ret
    exact ⟨rfl, hO.below⟩
  by_cases h2 : k = 2
  · subst h2
    by_cases h3 : nl = 0
    · subst h3
      go_enter Tryz.func20, Tryz.ntmps20
      have hO := Own.nil w
      go_wp2_with (first | ((with_reducible refine zad ?_); refine zbx rfl hO rfl rfl ?_; (refine nm 0 rfl ?_; clear hO; intro b0 u hO); simp only [zL, zK] at hO) | ((with_reducible refine zaa ?_); refine zlf rfl hO rfl _ (by exact at0) ?_) | fail)
      go_ret
      exact ⟨rfl, hO.below⟩
    · have HE : Hid (cntK 2 nl = false) := Lib.hid (by simp [cntK, h3])
      have q : ((nl : Int) == 0) = false := by simp [h3]
      clear h3
      go_enter Tryz.func20, Tryz.ntmps20
      have hO := Own.nil w
      go_wp2_with (first | ((with_reducible refine zad ?_); refine zbx rfl hO rfl rfl ?_; (refine nm 0 rfl ?_; clear hO; intro b0 u hO); simp only [zL, zK] at hO) | ((with_reducible refine zaa ?_); refine zlf rfl hO rfl _ (by exact at0) ?_) | fail)
      go_ret
      exact ⟨zap HE.out.symm, hO.below⟩
  · have HE : Hid (cntK k nl = false) := Lib.hid (by simp [cntK, h0, h1, h2])
    have q0 : (k == 0) = false := by simp [h0]
    have q1 : (k == 1) = false := by simp [h1]
    have q2 : (k == 2) = false := by simp [h2]
    clear h0 h1 h2
    go_enter Tryz.func20, Tryz.ntmps20
    have hO := Own.nil w
    go_wp2_with (first | ((with_reducible refine zad ?_); refine zbx rfl hO rfl rfl ?_; (refine nm 0 rfl ?_; clear hO; intro b0 u hO); simp only [zL, zK] at hO) | ((with_reducible refine zaa ?_); refine zlf rfl hO rfl _ (by exact at0) ?_) | fail)
    go_ret
    exact ⟨zap HE.out.symm, hO.below⟩

def badS : ByteArray := ⟨#[105, 110, 118, 97, 108, 105, 100, 32, 118, 101, 99, 116, 111, 114]⟩

theorem spec_bad (w : World) : Calls Tryz.prog 32 #[] w fun e w' => e = .returned (.tuple #[.agg #[.int .i64 0, .slice none 0 0, .slice none 0 0, .slice none 0 0, .slice none 0 0, .slice none 0 0, .int .i64 0, .int .i64 0], .string ⟨#[105, 110, 118, 97, 108, 105, 100, 32, 118, 101, 99, 116, 111, 114]⟩]) ∧ Below w.heap.size w w' := by
  go_enter Tryz.func32, Tryz.ntmps32
  have hO := Own.nil w
  go_wp2_with (first | ((with_reducible refine zac ?_); refine zal rfl hO rfl ?_; (refine nm 0 rfl ?_; clear hO; intro b0 u hO); simp only [zL, zK] at hO) | ((with_reducible refine zab ?_); refine zsb rfl hO rfl _ (by exact at0) rfl ?_; clear hO; intro u hO; simp only [zC, zB] at hO) | fail)
  exact zau rfl hO rfl 0 at0 rfl rfl rfl ⟨rfl, hO.below⟩

/-- items and names -/
def vecN (k : Int) (is : List It) (ns : List ByteArray) : VT := .mk k is [] ns [] [] 0 0

theorem Own.vecN {w0 w : World} {is : List It} {ns : List ByteArray} {A B : Option Addr} {c d : Nat} (h : Own w0 [row 35 3 (.slice A is.length c) is.length (itc is), row 9 1 (.slice B ns.length d) ns.length (stc ns)] w) (k : Int) :
    ∃ F, VO (Go.Proofs.YtmofcbpabdbjlaaGreat.vecN k is ns) [.int .i64 k, .slice A is.length c, .slice none 0 0, .slice B ns.length d, .slice none 0 0, .slice none 0 0, .int .i64 0, .int .i64 0] F ∧ Own w0 [Go.Proofs.YtmofcbpabdbjlaaGreat.pack F] w := by
  have h1 := ((h.addNil 28 8).addNil 9 1).addNil 9 1
  have h2 := Own.pack (F := [_, _, _, _, _]) (L := []) (h1.pick [0, 2, 1, 3, 4] (by decide))
  exact ⟨_, VO.close (ps := []) (cs := []) (ls := []) VL.nil, h2⟩

theorem Own.rename {w0 w : World} {k : Int} {is : List It} {ns : List ByteArray} {Ai Ap An Ac Al B : Option Addr} {ci cp cn cc cl d : Nat} {F : List Res} (h : Own w0 [Go.Proofs.YtmofcbpabdbjlaaGreat.pack F, row 9 1 (.slice B ns.length d) ns.length (stc ns)] w)
    (hvo : VO (Go.Proofs.YtmofcbpabdbjlaaGreat.vecI k is) [.int .i64 k, .slice Ai is.length ci, .slice Ap 0 cp, .slice An 0 cn, .slice Ac 0 cc, .slice Al 0 cl, .int .i64 0, .int .i64 0] F) :
    ∃ F', VO (Go.Proofs.YtmofcbpabdbjlaaGreat.vecN k is ns) [.int .i64 k, .slice Ai is.length ci, .slice Ap 0 cp, .slice B ns.length d, .slice Ac 0 cc, .slice Al 0 cl, .int .i64 0, .int .i64 0] F' ∧ Own w0 [Go.Proofs.YtmofcbpabdbjlaaGreat.pack F'] w := by
  obtain ⟨Ai', Ap', An', Ac', Al', ci', cp', cn', cc', cl', pvs, Ls, e, rfl, hVL⟩ := hvo.open
  simp only [List.cons.injEq, Value.slice.injEq, and_true, true_and] at e
  obtain ⟨⟨rfl, rfl⟩, ⟨rfl, _, rfl⟩, ⟨rfl, _, rfl⟩, ⟨rfl, _, rfl⟩, ⟨rfl, _, rfl⟩⟩ := e
  have hLs : Ls = [] := List.length_eq_zero_iff.1 (by simpa using hVL.len')
  subst hLs
  have h1 := h.unpack
  simp only [List.flatten_nil, List.cons_append, List.nil_append] at h1
  have h2 := Own.pack (F := [_, _, _, _, _]) (L := []) (h1.pick [0, 1, 5, 3, 4] (by decide))
  exact ⟨_, VO.close (cs := []) (ls := []) hVL, by simpa using h2⟩

end

section

open Go.RowKit Go.ChangeShapes Go.WideShapes Go.Deep

set_option linter.unusedVariables false

set_option linter.unusedSimpArgs false

theorem RetV.exC {xk : Int} {xi : List It} {xp : List VT} {xn xc xl : List ByteArray} {xo xe : Int} {u w' : World} {e : Ending} (h : RetV (.mk xk xi xp xn xc xl xo xe) u e w') :
    ∃ (Ci Cp Cn Cc Cl : Option Addr) (ri rp rn rc rl : Nat) (F : List Res), e = .returned (.agg #[.int .i64 xk, .slice Ci xi.length ri, .slice Cp xp.length rp, .slice Cn xn.length rn, .slice Cc xc.length rc, .slice Cl xl.length rl, .int .i64 xo, .int .i64 xe]) ∧
      VO (.mk xk xi xp xn xc xl xo xe) [.int .i64 xk, .slice Ci xi.length ri, .slice Cp xp.length rp, .slice Cn xn.length rn, .slice Cc xc.length rc, .slice Cl xl.length rl, .int .i64 xo, .int .i64 xe] F ∧ Own u [pack F] w' := by
  obtain ⟨vs, F, rfl, hvo, hO⟩ := h
  obtain ⟨Ci, Cp, Cn, Cc, Cl, ri, rp, rn, rc, rl, rfl⟩ := hvo.ex
  exact ⟨Ci, Cp, Cn, Cc, Cl, ri, rp, rn, rc, rl, F, rfl, hvo, hO⟩

end

end Go.Proofs.YtmofcbpabdbjlaaGreat

namespace Go.Proofs.YtmofcbpabdbjlaaGreat

set_option maxRecDepth 8000

open Go Go.RowKit

set_option linter.unusedSimpArgs false

set_option linter.unusedVariables false

/-- a thing, or nothing if there are no elements -/
def opt (m : Nat) (r : Res) : Res where
  foot := fun b => m ≠ 0 ∧ r.foot b
  holds := fun w => m ≠ 0 → r.holds w
  loc := fun w w' h hw hm => r.loc w w' (fun b hb => h b ⟨hm, hb⟩) (hw hm)

section

variable {P : Program} {o : Oper} {a : Act} {w w' w0 : World} {K : Act → World → Prop} {Q : Exit → Act → World → Prop} {L R : List Res} {ops : Array Oper} {rest : List Oper}

theorem Own.opt0 (h : Own w0 L w) (r : Res) : Own w0 (L ++ [opt 0 r]) w := by
  refine (h.add (Below.refl _ _) (opt 0 r) (fun hm => absurd rfl hm) (fun b hb => absurd rfl hb.1)).perm ?_
  exact List.perm_append_comm (l₁ := [opt 0 r])

theorem Own.optOf {m : Nat} {r : Res} (hm : m ≠ 0) (h : Own w0 (r :: R) w) : Own w0 (opt m r :: R) w := by
  obtain ⟨h1, h2, h3, h4⟩ := h
  obtain ⟨p1, p2⟩ := List.pairwise_cons.1 h4
  refine ⟨h1, fun q hq => ?_, fun q hq b hb => ?_, List.pairwise_cons.2 ⟨fun q hq b hb => p1 q hq b hb.2, p2⟩⟩
  · rcases List.mem_cons.1 hq with rfl | hq
    · exact fun _ => h2 _ (List.mem_cons_self)
    · exact h2 q (List.mem_cons_of_mem _ hq)
  · rcases List.mem_cons.1 hq with rfl | hq
    · exact h3 r (List.mem_cons_self) b hb.2
    · exact h3 q (List.mem_cons_of_mem _ hq) b hb

theorem Own.ofOpt {m : Nat} {r : Res} (hm : m ≠ 0) (h : Own w0 (opt m r :: R) w) : Own w0 (r :: R) w := by
  obtain ⟨h1, h2, h3, h4⟩ := h
  obtain ⟨p1, p2⟩ := List.pairwise_cons.1 h4
  refine ⟨h1, fun q hq => ?_, fun q hq b hb => ?_, List.pairwise_cons.2 ⟨fun q hq b hb => p1 q hq b ⟨hm, hb⟩, p2⟩⟩
  · rcases List.mem_cons.1 hq with rfl | hq
    · exact h2 _ (List.mem_cons_self) hm
    · exact h2 q (List.mem_cons_of_mem _ hq)
  · rcases List.mem_cons.1 hq with rfl | hq
    · exact h3 _ (List.mem_cons_self) b ⟨hm, hb⟩
    · exact h3 q (List.mem_cons_of_mem _ hq) b hb

/-- the literal and what was appended to it are one row -/
theorem Own.join {e sz m c b : Nat} {A : Option Addr} {xs : List Value} (h : Own w0 (row e sz (.slice (some ⟨b, 0, none⟩) 0 0) 0 [] :: opt m (row e sz (.slice A m c) m xs) :: R) w)
    (hz : m = 0 → Value.slice (some ⟨b, 0, none⟩) 0 0 = .slice A m c) (hl : xs.length = m * sz) : Own w0 (row e sz (.slice A m c) m xs :: R) w := by
  by_cases hm : m = 0
  · subst hm
    have h0 : xs = [] := List.length_eq_zero_iff.1 (by omega)
    subst h0
    rw [← hz rfl]
    exact h.sub (.cons_cons _ (.cons _ (List.Sublist.refl _)))
  · exact (h.sub (.cons _ (List.Sublist.refl _))).ofOpt hm

theorem za7 (hO : Own w0 L w) {t : TypeId} (ho : o.op = .buildSlice t 0 #[]) {E sz bytes : Nat} [hT : RowT P t E sz bytes] {d : Tmp} (hd : o.dst = some d)
    (h : ∀ b w', Own w0 (L ++ [row E sz (.slice (some ⟨b, 0, none⟩) 0 0) 0 []]) w' → K (a.put (some d) (.slice (some ⟨b, 0, none⟩) 0 0)) w') : o.wp P a w K Q :=
  wp_build_list hO ho [] rfl rfl rfl (by omega) rfl hd fun b w' h' => by
    refine h b w' ?_
    have h1 := h'.perm (L' := box b E [] :: L) List.perm_append_comm
    have h2 := h1.box_row sz 0 (by simp) (by omega)
    exact h2.perm (List.perm_append_comm (l₁ := [_]))

theorem za8 (hO : Own w0 L w) {s x : Operand} {t : TypeId} (ho : o.op = .call { callee := .builtin .append, args := #[s, x], argTypes := #[t, t] })
    {E sz bytes : Nat} [hT : RowT P t E sz bytes] {b : Nat} (hs : a.eval s = .slice (some ⟨b, 0, none⟩) 0 0) {B : Option Addr} {m c : Nat} (hx : a.eval x = .slice B m c) {news : List Value} (hsl : Sl w sz B m news)
    (h63 : m ≤ 9223372036854775807) (hbytes : m * bytes ≤ 140737488355328)
    (h : ∀ A' c' w', (m = 0 → Value.slice (some ⟨b, 0, none⟩) 0 0 = .slice A' m c') → Own w0 (L ++ [opt m (row E sz (.slice A' m c') m news)]) w' → K (a.put o.dst (.slice A' m c')) w') : o.wp P a w K Q := by
  obtain ⟨i, z, t1, t2, t3, t4, t5, t6, t7⟩ := hT.of
  by_cases h0 : m = 0
  · subst h0
    have hr := Go.run_append_nothing (P := P) w t t o.type E i t1 t2 (some ⟨b, 0, none⟩) 0 0 (Nat.le_refl _) (.slice B 0 c) ⟨.inl ⟨_, t1⟩, fun w' => by simp [Builtin.lenOf], by cases B <;> simp [Builtin.firstCells, loadCells, loadCellsFrom], by cases B <;> simp [Builtin.firstCells, loadCells, loadCellsFrom], by simp, by simp⟩
    unfold Oper.wp execOp
    simp only [ho, resolve, invoke, builtin, Sem.run_bind, Sem.run_pure, Result.andThen_ok, List.map_toArray, List.map_cons, List.map_nil, hs, hx, hr]
    exact h _ 0 w (fun _ => rfl) (hO.opt0 _)
  · obtain ⟨bb, off, rfl, hb, hc⟩ := hsl.at_ (by omega)
    subst t4
    have hnews : ∀ j u, news[j]? = some u → w.cell? ((⟨bb, off, none⟩ : Addr).add j) = some u := fun j u hu => by
      rw [add_off]
      exact hc j u hu
    have hb2 : m * i.bytes ≤ 140737488355328 := by rw [t5]; exact hbytes
    have hr := run_append_grow (P := P) w t o.type E i z t1 t2 t3 ⟨b, 0, none⟩ 0 0 [] (by simp) (by simp) ⟨bb, off, none⟩ m c news hsl.len hnews (by omega) (by omega) (growslice_fits (by omega) (by rw [Nat.zero_add]; exact hb2))
    simp only [Nat.zero_add, Array.empty_append] at hr
    unfold Oper.wp execOp
    simp only [ho, resolve, invoke, builtin, Sem.run_bind, Sem.run_pure, Result.andThen_ok, List.map_toArray, List.map_cons, List.map_nil, hs, hx, hr]
    have hge := grownCap_ge w m 0 E
    have hcm : grownCap w m 0 E ≤ maxLen := grownCap_le_maxLen w m 0 E (by unfold maxLen; exact h63)
    refine h _ _ _ (fun h => absurd h h0) ?_
    have hown : (w.drew.alloc (.cells (news.toArray ++ Builtin.zeroCells z.cells (grownCap w m 0 E - m)) E)).ownsRow w.heap.size E i.size (.slice (some ⟨w.heap.size, 0, none⟩) m (grownCap w m 0 E)) m news := by
      refine ⟨hsl.len, .inr ⟨w.heap.size, _, _, rfl, Nat.le_refl _, heap_alloc_new w.drew _, hge, hcm, ?_, ?_⟩⟩
      · simp only [Array.size_append, List.size_toArray, size_zeroCells, t6, hsl.len, ← Nat.add_mul]
        congr 1
        omega
      · simp only [Array.toList_append]
        rw [← hsl.len]
        exact List.take_left
    have hbel : Below w.heap.size w (w.drew.alloc (.cells (news.toArray ++ Builtin.zeroCells z.cells (grownCap w m 0 E - m)) E)) := ((Below.refl _ _).drew).alloc (Nat.le_refl _) _
    have h1 := hO.addRow hbel hown
    have h2 := Own.optOf (m := m) h0 (h1.perm (L' := _ :: L) List.perm_append_comm)
    exact h2.perm (List.perm_append_comm (l₁ := [_]))

end

/-- a slice literal without elements -/
def J.fresh0 (E sz : Nat) : Value × List Res → Prop := fun x => ∃ b, x = (.slice (some ⟨b, 0, none⟩) 0 0, [row E sz (.slice (some ⟨b, 0, none⟩) 0 0) 0 []])

/-- what was appended to the literal that operation k made -/
def J.freshA (E sz m : Nat) (xs : List Value) (y : Value × List Res) : Value × List Res → Prop := fun x => ∃ A c, x = (.slice A m c, [opt m (row E sz (.slice A m c) m xs)]) ∧ (m = 0 → y.1 = .slice A m c)

/-- a call hands back a fresh row that holds xs -/
def J.freshRow (E sz n : Nat) (xs : List Value) : Value × List Res → Prop := fun x => ∃ A c, x = (.slice A n c, [row E sz (.slice A n c) n xs])

end Go.Proofs.YtmofcbpabdbjlaaGreat

namespace Go.Proofs.YtmofcbpabdbjlaaGreat

set_option maxRecDepth 8000

section

open Go.RowKit Go.ChangeShapes Go.WideShapes Go.Deep

set_option linter.unusedVariables false

set_option linter.unusedSimpArgs false

def misP (p : VT) : Bool := if p.items.length = 1 then misB (p.items.getD 0 ⟨0, 1, ⟨#[]⟩⟩) else false

def b2i (b : Bool) : Int := if b then 1 else 0

def msI (b : Bool) : It := ⟨b2i b, 1, ⟨#[]⟩⟩

def msB (t : VT) : List Bool := if t.kind = 5 then [false] else t.items.map misB ++ t.parts.map misP

def msT (t : VT) : VT := if isV t then vecN 1 ((msB t).map msI) t.names else vecI 0 []

def msS (t : VT) : ByteArray := if isV t then ⟨#[]⟩ else badS

theorem lgI_b2i (b : Bool) : lgI (b2i b) = msI b := by cases b <;> rfl

theorem isV_item {k : Int} {is : List It} {ps : List VT} {ns cs ls : List ByteArray} {c e : Int} (h : isV (.mk k is ps ns cs ls c e) = true) : ∀ x ∈ is, misB x = decide (x.den = 0) := by
  intro x hx
  have h3 := (isV_facts h).2.2.2.2.2.2.2.1 x hx
  unfold itB at h3
  simp only [Bool.and_eq_true] at h3
  exact item_den h3.1.2

theorem itc_snocM {α : Type} (X : List It) (f : α → It) {l : List α} {k : Nat} (h : k < l.length) : itc (X ++ (l.take (k + 1)).map f) = itc (X ++ (l.take k).map f) ++ itc1 (f l[k]) := by
  rw [za6 h, List.map_append, ← List.append_assoc, itc_app]
  simp [itc]

theorem impl_boolItem (b : Bool) (w : World) : Calls Tryz.prog 28 #[.bool b] w fun e w' => e = .returned (.agg #[.int .i64 (b2i b), .int .i64 1, .string ⟨#[]⟩]) ∧ Below w.heap.size w w' := by
  cases b
  · go_enter Tryz.func28, Tryz.ntmps28
    have hO := Own.nil w
    go_wp2_with (first | ((with_reducible refine zac ?_); refine zal rfl hO rfl ?_; (refine nm 0 rfl ?_; clear hO; intro b0 u hO); simp only [zL, zK] at hO) | ((with_reducible refine zab ?_); refine zsb rfl hO rfl _ (by exact at0) rfl ?_; clear hO; intro u hO; simp only [zC, zB] at hO) | fail)
    exact zan rfl hO rfl 0 at0 rfl rfl ⟨rfl, hO.below⟩
  · go_enter Tryz.func28, Tryz.ntmps28
    have hO := Own.nil w
    go_wp2_with (first | ((with_reducible refine zac ?_); refine zal rfl hO rfl ?_; (refine nm 0 rfl ?_; clear hO; intro b0 u hO); simp only [zL, zK] at hO) | ((with_reducible refine zab ?_); refine zsb rfl hO rfl _ (by exact at0) rfl ?_; clear hO; intro u hO; simp only [zC, zB] at hO) | fail)
    exact zan rfl hO rfl 0 at0 rfl rfl ⟨rfl, hO.below⟩

end

section

open Go.RowKit Go.ChangeShapes Go.WideShapes Go.Deep

set_option linter.unusedVariables false

set_option linter.unusedSimpArgs false

/-- names that are all empty are dropped -/
def tdN (ns : List ByteArray) : List ByteArray := if allE ns then [] else ns

def RetTidy (k : Int) (Ai Ap An Ac Al : Option Addr) (ni ci np cp cn nc cc nl cl : Nat) (c e' : Int) (ns : List ByteArray) (w : World) (e : Ending) (w' : World) : Prop :=
  ∃ A c', e = .returned (.agg #[.int .i64 k, .slice Ai ni ci, .slice Ap np cp, .slice A (tdN ns).length c', .slice Ac nc cc, .slice Al nl cl, .int .i64 c, .int .i64 e']) ∧ ((allE ns = true ∧ Own w [row 9 1 (.slice A 0 c') 0 []] w') ∨ (allE ns = false ∧ A = An ∧ c' = cn ∧ Below w.heap.size w w'))

set_option maxHeartbeats 1000000 in
theorem spec_clean (k : Int) (Ai Ap An Ac Al : Option Addr) (ni ci np cp cn nc cc nl cl : Nat) (c e' : Int) (ns : List ByteArray) (w : World) (h : Sl w 1 An ns.length (stc ns)) (hn : ns.length ≤ 1048576) :
    Calls Tryz.prog 104 #[.agg #[.int .i64 k, .slice Ai ni ci, .slice Ap np cp, .slice An ns.length cn, .slice Ac nc cc, .slice Al nl cl, .int .i64 c, .int .i64 e']] w (RetTidy k Ai Ap An Ac Al ni ci np cp cn nc cc nl cl c e' ns w) := by
  go_enter Tryz.func104, Tryz.ntmps104
  have hO := Own.nil w
  go_wp2_with (first | ((with_reducible refine zac ?_); refine zal rfl hO rfl ?_; (refine nm 1 rfl ?_; clear hO; intro b1 u hO); simp only [zL, zK] at hO) | ((with_reducible refine zad ?_); refine zbx rfl hO rfl rfl ?_; (refine nm 0 rfl ?_; clear hO; intro b0 u hO); simp only [zL, zK] at hO) | fail)
  go_loopw [3] (fun i u => ∃ m : Nat, m ≤ ns.length ∧ i = .int .i64 m ∧ Hid (allE (ns.take m) = true) ∧ Own w [box b0 28 [.int .i64 k, .slice Ai ni ci, .slice Ap np cp, .slice An ns.length cn, .slice Ac nc cc, .slice Al nl cl, .int .i64 c, .int .i64 e'], box b1 28 [.int .i64 0, .slice none 0 0, .slice none 0 0, .slice none 0 0, .slice none 0 0, .slice none 0 0, .int .i64 0, .int .i64 0]] u) (fun i _ => ns.length - (intOf i).toNat)
  case atStart => exact ⟨0, Nat.zero_le _, rfl, rfl, hO⟩
  case round =>
    clear hO
    obtain ⟨m, hm, rfl, hal, hO⟩ := hrel
    by_cases hlt : m < ns.length
    · obtain ⟨b, off, rfl, hb, hc⟩ := h.tx hO.below hlt rfl
      have HT := Lib.hid (allE_take hlt)
      have HF := Lib.hid (fun he => allE_false (l := ns) hlt he)
      obtain ⟨x, hx⟩ : ∃ x, ns[m] = x := ⟨_, rfl⟩
      rw [hx] at hc HT HF
      clear hx
      by_cases he : x.toList = []
      · have he2 : (!x.toList.isEmpty) = false := by simp [he]
        have HE : Hid (emptyB x = true) := Lib.hid (emptyB_iff.2 he)
        go_wp2_with (first | ((with_reducible refine zaa ?_); refine zlf rfl hO rfl _ (by exact at0) ?_) | fail)
        go_roundw
        case rel => exact ⟨m + 1, by omega, by go_num, by show _ = _; rw [HT.out, hal.out, HE.out]; rfl, hO⟩
        case measure => simp [intOf]; omega
      · have he2 : (!x.toList.isEmpty) = true := by simp [he]
        have HE := Lib.hid (HF.out (by cases hq : emptyB x with | false => rfl | true => exact absurd (emptyB_iff.1 hq) he))
        have HN : Hid (tdN ns = ns) := Lib.hid (if_neg (by rw [HE.out]; decide))
        go_wp2_with (first | ((with_reducible refine zaa ?_); refine zlb rfl hO rfl _ (by exact at0) ?_) | ((with_reducible refine zaa ?_); refine zlf rfl hO rfl _ (by exact at0) ?_) | ((with_reducible refine zab ?_); refine zsb rfl hO rfl _ (by exact at1) rfl ?_; clear hO; intro u hO; simp only [zC, zB] at hO) | fail)
        exact zan rfl hO rfl 1 at1 rfl rfl ⟨_, cn, by rw [HN.out], .inr ⟨HE.out, rfl, rfl, hO.below⟩⟩
    · have hmn : m = ns.length := by omega
      subst hmn
      have HQ : Hid (allE ns = true) := Lib.hid (by have := hal.out; rw [List.take_length] at this; exact this)
      have HF : Hid (tdN ns = []) := Lib.hid (if_pos HQ.out)
      clear hal
      go_wp2_with (first | ((with_reducible refine zaa ?_); refine zlb rfl hO rfl _ (by exact at0) ?_) | ((with_reducible refine zaa ?_); refine zlf rfl hO rfl _ (by exact at0) ?_) | ((with_reducible refine zab ?_); refine zsb rfl hO rfl _ (by exact at1) rfl ?_; clear hO; intro u hO; simp only [zC, zB] at hO) | ((with_reducible refine zab ?_); refine zsf rfl hO rfl _ (by exact at0) (zM rfl) ?_; clear hO; intro u hO; simp only [zC, zB] at hO) | ((with_reducible refine zao ?_); refine za0 hO rfl (by rfl) rfl (fun b => by simp only [Act.put, zA, zB, zC]; rfl) ?_; clear hO; intro bb u hO; simp only [zL, zK] at hO) | fail)
      have hR := hO.pick [2] (by decide)
      simp only [List.filterMap_cons, List.filterMap_nil, List.getElem?_cons_zero, List.getElem?_cons_succ] at hR
      exact zan rfl hO rfl 1 at1 rfl rfl ⟨_, 0, by rw [HF.out]; rfl, .inl ⟨HQ.out, hR⟩⟩

end

section

open Go.RowKit Go.ChangeShapes Go.WideShapes Go.Deep

set_option linter.unusedVariables false

set_option linter.unusedSimpArgs false

def badP : VT := .mk (-1) [] [] [] [] [] 0 0

def copP (p : VT) : VT := if lB 3 p then p else badP

def copL (ps : List VT) : List VT := (ps.take 41).map copP

theorem lL_mem {n : Nat} : ∀ {ps : List VT}, lL n ps = true → ∀ p ∈ ps, n ≠ 0 ∧ lB (n - 1) p = true := by
  intro ps
  induction ps with
  | nil => intro _ p hp; simp at hp
  | cons q qs ih =>
    intro h p hp
    simp only [lL, Bool.and_eq_true, decide_eq_true_eq] at h
    rcases List.mem_cons.1 hp with rfl | hp
    · exact h.1
    · exact ih h.2 p hp

theorem lL_of {n : Nat} (hn : n ≠ 0) : ∀ {ps : List VT}, (∀ p ∈ ps, lB (n - 1) p = true) → lL n ps = true := by
  intro ps
  induction ps with
  | nil => intro _; rfl
  | cons q qs ih =>
    intro h
    simp only [lL, Bool.and_eq_true, decide_eq_true_eq]
    exact ⟨⟨hn, h q (List.mem_cons_self)⟩, ih fun p hp => h p (List.mem_cons_of_mem _ hp)⟩

theorem lB_mono (t : VT) : ∀ n, lB n t = true → lB (n + 1) t = true := by
  induction t using VT.ind with
  | _ k is ps ns cs ls c e ih =>
    intro n h
    simp only [lB, Bool.and_eq_true] at h ⊢
    refine ⟨h.1, lL_of (by omega) fun p hp => ?_⟩
    have h2 := lL_mem h.2 p hp
    have := ih p hp (n - 1) h2.2
    rw [show n - 1 + 1 = n by omega] at this
    simpa using this

theorem lB_parts {k : Int} {is : List It} {ps : List VT} {ns cs ls : List ByteArray} {c e : Int} (h : lB 3 (.mk k is ps ns cs ls c e) = true) : ∀ p ∈ ps, lB 3 p = true := by
  simp only [lB, Bool.and_eq_true] at h
  intro p hp
  exact lB_mono p 2 (lL_mem h.2 p hp).2

theorem lB_short {k : Int} {is : List It} {ps : List VT} {ns cs ls : List ByteArray} {c e : Int} {n : Nat} (h : lB n (.mk k is ps ns cs ls c e) = true) : ps.length ≤ 40 := by
  simp only [lB, Bool.and_eq_true] at h
  have h2 := h.1
  unfold nodeB headB at h2
  simp only [Bool.and_eq_true, Bool.or_eq_true, decide_eq_true_eq, Bool.not_eq_true', decide_eq_false_iff_not] at h2
  have h3 := h2.1.1.1.1.1.1.1.1.1.1.2
  have h4 := h2.1.1.1.1.2
  rw [show lenV (.mk k is ps ns cs ls c e) = if k = 5 then 1 else is.length + ps.length from rfl] at h3
  by_cases h5 : k = 5
  · rcases h4 with h4 | h4
    · omega
    · omega
  · rw [if_neg h5] at h3
    omega

theorem copL_eq {ps : List VT} (h : ∀ p ∈ ps, lB 3 p = true) (hl : ps.length ≤ 41) : copL ps = ps := by
  unfold copL
  rw [List.take_of_length_le hl]
  have : ∀ l : List VT, (∀ p ∈ l, lB 3 p = true) → l.map copP = l := by
    intro l
    induction l with
    | nil => intro _; rfl
    | cons q l ih =>
      intro h
      rw [List.map_cons, ih fun p hp => h p (List.mem_cons_of_mem _ hp)]
      unfold copP
      rw [if_pos (h q (List.mem_cons_self))]
  exact this ps h

theorem tdN_size (ns : List ByteArray) : szS (tdN ns) ≤ szS ns := by
  unfold tdN
  split
  · simp [szS, stz]
  · exact Nat.le_refl _

end

end Go.Proofs.YtmofcbpabdbjlaaGreat
