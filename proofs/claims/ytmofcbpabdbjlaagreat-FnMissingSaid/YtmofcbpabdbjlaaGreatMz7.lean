/-
  What is proved: how a vector (a struct with slices of items, parts and texts) lies in memory: as it is read, and as a call's own. things of a call's own packed into one thing, chosen and put in another order; a walk stops where a function returns.
  Condition: none beyond those of the theorems.
-/
import Derived.Test.YtmofcbpabdbjlaaGreatMz1
import Derived.Test.YtmofcbpabdbjlaaGreatMz2
import Derived.Test.YtmofcbpabdbjlaaGreatMz6
namespace Go.Proofs.YtmofcbpabdbjlaaGreat

set_option maxRecDepth 8000

section

open Go.RowKit Go.ChangeShapes Go.WideShapes

set_option linter.unusedVariables false

set_option linter.unusedSimpArgs false

/-! lists of cells, so many for each element -/

section

variable {α : Type} {f : α → List Value} {sz : Nat}

theorem flat_len : ∀ (l : List α), (∀ x ∈ l, (f x).length = sz) → (l.flatMap f).length = l.length * sz
  | [], _ => by simp
  | x :: l, h => by
    rw [List.flatMap_cons, List.length_append, flat_len l (fun y hy => h y (List.mem_cons_of_mem _ hy)), h x (List.mem_cons_self), List.length_cons, Nat.succ_mul, Nat.add_comm]

theorem flat_at : ∀ (l : List α), (∀ x ∈ l, (f x).length = sz) → ∀ (i : Nat) (h : i < l.length) (j : Nat), j < sz → (l.flatMap f)[i * sz + j]? = (f l[i])[j]?
  | [], _, i, h, _, _ => by simp at h
  | x :: l, hf, 0, _, j, hj => by
    rw [List.flatMap_cons, Nat.zero_mul, Nat.zero_add, List.getElem?_append_left (by rw [hf x (List.mem_cons_self)]; exact hj)]
    rfl
  | x :: l, hf, i + 1, h, j, hj => by
    have hx := hf x (List.mem_cons_self)
    rw [List.flatMap_cons, List.getElem?_append_right (by rw [hx, Nat.succ_mul]; omega), hx, show (i + 1) * sz + j - sz = i * sz + j by rw [Nat.succ_mul]; omega]
    exact flat_at l (fun y hy => hf y (List.mem_cons_of_mem _ hy)) i (by simpa using h) j hj

end

section

variable {α : Type} {w w' : World} {f : α → List Value} {sz : Nat} {A : Option Addr} {l : List α}

/-- the cells of element i of a slice -/
theorem Sl.at' (h : Sl w sz A l.length (l.flatMap f)) (hf : ∀ x ∈ l, (f x).length = sz) {i : Nat} (hi : i < l.length) :
    ∃ b off, A = some ⟨b, off, none⟩ ∧ b < w.heap.size ∧ ∀ j u, (f l[i])[j]? = some u → w.cell? ⟨b, off + (i * sz + j), none⟩ = some u := by
  obtain ⟨b, off, e, hb, hc⟩ := h.at_ (by omega)
  refine ⟨b, off, e, hb, fun j u hu => hc _ u ?_⟩
  have hj : j < sz := by rw [← hf _ (List.getElem_mem hi)]; exact (List.getElem?_eq_some_iff.1 hu).1
  rw [flat_at l hf i hi j hj, hu]

end

/-- the cells of items -/
def itc1 (x : It) : List Value := [.int .i64 x.num, .int .i64 x.den, .string x.text]

def itc (l : List It) : List Value := l.flatMap itc1

theorem itc_app (a b : List It) : itc (a ++ b) = itc a ++ itc b := by simp [itc]

theorem itc_len (l : List It) : (itc l).length = l.length * 3 := flat_len l (fun _ _ => rfl)

/-- the eight cells 'vs' hold the vector t -/
inductive RdV (w : World) : VT → List Value → Prop where
  | mk {k : Int} {is : List It} {ps : List VT} {ns cs ls : List ByteArray} {c e : Int} {Ai Ap An Ac Al : Option Addr} {ci cp cn cc cl : Nat} {pvs : List (List Value)}
    (hi : Sl w 3 Ai is.length (itc is)) (hp : Sl w 8 Ap ps.length pvs.flatten) (hl : pvs.length = ps.length) (hr : ∀ (i : Nat) (h : i < ps.length) (h' : i < pvs.length), RdV w (ps[i]'h) (pvs[i]'h'))
    (hn : Sl w 1 An ns.length (stc ns)) (hc : Sl w 1 Ac cs.length (stc cs)) (hv : Sl w 1 Al ls.length (stc ls)) (hcap : is.length ≤ ci ∧ ps.length ≤ cp ∧ ns.length ≤ cn ∧ cs.length ≤ cc ∧ ls.length ≤ cl) :
    RdV w (.mk k is ps ns cs ls c e) [.int .i64 k, .slice Ai is.length ci, .slice Ap ps.length cp, .slice An ns.length cn, .slice Ac cs.length cc, .slice Al ls.length cl, .int .i64 c, .int .i64 e]

/-- the slice with address A holds the vectors ps -/
structure RdL (w : World) (A : Option Addr) (ps : List VT) (pvs : List (List Value)) : Prop where
  sl : Sl w 8 A ps.length pvs.flatten
  len : pvs.length = ps.length
  at_ : ∀ (i : Nat) (h : i < ps.length) (h' : i < pvs.length), RdV w (ps[i]'h) (pvs[i]'h')

theorem RdV.len {w : World} {t : VT} {vs : List Value} (h : RdV w t vs) : vs.length = 8 := by cases h; rfl

theorem RdV.grow {w w' : World} (hb : Below w.heap.size w w') {t : VT} {vs : List Value} (h : RdV w t vs) : RdV w' t vs := by
  induction h with
  | mk hi hp hl hr hn hc hv hcap ih => exact .mk (hi.below hb) (hp.below hb) hl (fun i h h' => ih i h h') (hn.below hb) (hc.below hb) (hv.below hb) hcap

theorem RdL.below {w w' : World} (hb : Below w.heap.size w w') {A : Option Addr} {ps : List VT} {pvs : List (List Value)} (h : RdL w A ps pvs) : RdL w' A ps pvs :=
  ⟨h.sl.below hb, h.len, fun i h1 h2 => (h.at_ i h1 h2).grow hb⟩

theorem RdL.nil (w : World) (A : Option Addr) : RdL w A [] [] := ⟨⟨rfl, fun h => absurd h (by simp)⟩, rfl, fun i h => absurd h (by simp)⟩

/-- what is read of a vector -/
theorem RdV.open {w : World} {k : Int} {is : List It} {ps : List VT} {ns cs ls : List ByteArray} {c e : Int} {vs : List Value} (h : RdV w (.mk k is ps ns cs ls c e) vs) :
    ∃ (Ai Ap An Ac Al : Option Addr) (ci cp cn cc cl : Nat) (pvs : List (List Value)), vs = [.int .i64 k, .slice Ai is.length ci, .slice Ap ps.length cp, .slice An ns.length cn, .slice Ac cs.length cc, .slice Al ls.length cl, .int .i64 c, .int .i64 e] ∧
      Sl w 3 Ai is.length (itc is) ∧ RdL w Ap ps pvs ∧ Sl w 1 An ns.length (stc ns) ∧ Sl w 1 Ac cs.length (stc cs) ∧ Sl w 1 Al ls.length (stc ls) := by
  cases h with
  | mk hi hp hl hr hn hc hv hcap => exact ⟨_, _, _, _, _, _, _, _, _, _, _, rfl, hi, ⟨hp, hl, hr⟩, hn, hc, hv⟩

/-- lengths are at most the capacities -/
theorem RdV.caps {w : World} {k : Int} {is : List It} {ps : List VT} {ns cs ls : List ByteArray} {c e : Int} {v0 v6 v7 : Value} {Ai Ap An Ac Al : Option Addr} {ni np nn nc nl ci cp cn cc cl : Nat}
    (h : RdV w (.mk k is ps ns cs ls c e) [v0, .slice Ai ni ci, .slice Ap np cp, .slice An nn cn, .slice Ac nc cc, .slice Al nl cl, v6, v7]) : is.length ≤ ci ∧ ps.length ≤ cp ∧ ns.length ≤ cn ∧ cs.length ≤ cc ∧ ls.length ≤ cl := by
  cases h with
  | mk hi hp hl hr hn hc hv hcap => exact hcap

/-- the cells of part i -/
theorem RdL.cells {w : World} {A : Option Addr} {ps : List VT} {pvs : List (List Value)} (h : RdL w A ps pvs) {i : Nat} (hi : i < ps.length) :
    ∃ b off, A = some ⟨b, off, none⟩ ∧ b < w.heap.size ∧ ∃ vs, RdV w (ps[i]'hi) vs ∧ ∀ j u, vs[j]? = some u → w.cell? ⟨b, off + (i * 8 + j), none⟩ = some u := by
  have hi' : i < pvs.length := by rw [h.len]; exact hi
  have hs := h.sl
  rw [← h.len, ← List.flatMap_id] at hs
  have h8 : ∀ x ∈ pvs, (id x : List Value).length = 8 := fun x hx => by
    obtain ⟨j, hj, rfl⟩ := List.mem_iff_getElem.1 hx
    exact (h.at_ j (by rw [← h.len]; exact hj) hj).len
  obtain ⟨b, off, e, hb, hc⟩ := hs.at' h8 hi'
  exact ⟨b, off, e, hb, _, h.at_ i hi hi', hc⟩

/-- the eight cells 'vs' hold the vector t, and the things L are the rows that it owns -/
inductive VO : VT → List Value → List Res → Prop where
  | mk {k : Int} {is : List It} {ps : List VT} {ns cs ls : List ByteArray} {c e : Int} {Ai Ap An Ac Al : Option Addr} {ci cp cn cc cl : Nat} {pvs : List (List Value)} {Ls : List (List Res)}
    (hl : pvs.length = ps.length) (hl' : Ls.length = ps.length) (hr : ∀ (i : Nat) (h : i < ps.length) (h' : i < pvs.length) (h'' : i < Ls.length), VO (ps[i]'h) (pvs[i]'h') (Ls[i]'h'')) :
    VO (.mk k is ps ns cs ls c e) [.int .i64 k, .slice Ai is.length ci, .slice Ap ps.length cp, .slice An ns.length cn, .slice Ac cs.length cc, .slice Al ls.length cl, .int .i64 c, .int .i64 e]
      (row 35 3 (.slice Ai is.length ci) is.length (itc is) :: row 28 8 (.slice Ap ps.length cp) ps.length pvs.flatten :: row 9 1 (.slice An ns.length cn) ns.length (stc ns) ::
        row 9 1 (.slice Ac cs.length cc) cs.length (stc cs) :: row 9 1 (.slice Al ls.length cl) ls.length (stc ls) :: Ls.flatten)

/-- the parts of a vector, owned -/
structure VL (ps : List VT) (pvs : List (List Value)) (Ls : List (List Res)) : Prop where
  len : pvs.length = ps.length
  len' : Ls.length = ps.length
  at_ : ∀ (i : Nat) (h : i < ps.length) (h' : i < pvs.length) (h'' : i < Ls.length), VO (ps[i]'h) (pvs[i]'h') (Ls[i]'h'')

theorem VO.len {t : VT} {vs : List Value} {L : List Res} (h : VO t vs L) : vs.length = 8 := by cases h; rfl

theorem VL.nil : VL [] [] [] := ⟨rfl, rfl, fun i h => absurd h (by simp)⟩

theorem VL.snoc {ps : List VT} {pvs : List (List Value)} {Ls : List (List Res)} (h : VL ps pvs Ls) {t : VT} {vs : List Value} {L : List Res} (ht : VO t vs L) : VL (ps ++ [t]) (pvs ++ [vs]) (Ls ++ [L]) := by
  obtain ⟨h1, h2, h3⟩ := h
  refine ⟨by simp [h1], by simp [h2], fun i a b c => ?_⟩
  by_cases hi : i < ps.length
  · rw [List.getElem_append_left hi, List.getElem_append_left (by omega), List.getElem_append_left (by omega)]
    exact h3 i hi _ _
  · have : i = ps.length := by simp at a; omega
    subst this
    rw [List.getElem_append_right (by omega), List.getElem_append_right (by omega), List.getElem_append_right (by omega)]
    simpa using ht

theorem VO.open {k : Int} {is : List It} {ps : List VT} {ns cs ls : List ByteArray} {c e : Int} {vs : List Value} {L : List Res} (h : VO (.mk k is ps ns cs ls c e) vs L) :
    ∃ (Ai Ap An Ac Al : Option Addr) (ci cp cn cc cl : Nat) (pvs : List (List Value)) (Ls : List (List Res)), vs = [.int .i64 k, .slice Ai is.length ci, .slice Ap ps.length cp, .slice An ns.length cn, .slice Ac cs.length cc, .slice Al ls.length cl, .int .i64 c, .int .i64 e] ∧
      L = row 35 3 (.slice Ai is.length ci) is.length (itc is) :: row 28 8 (.slice Ap ps.length cp) ps.length pvs.flatten :: row 9 1 (.slice An ns.length cn) ns.length (stc ns) ::
        row 9 1 (.slice Ac cs.length cc) cs.length (stc cs) :: row 9 1 (.slice Al ls.length cl) ls.length (stc ls) :: Ls.flatten ∧ VL ps pvs Ls := by
  cases h with
  | mk hl hl' hr => exact ⟨_, _, _, _, _, _, _, _, _, _, _, _, rfl, rfl, ⟨hl, hl', hr⟩⟩

theorem VO.close {k : Int} {is : List It} {ps : List VT} {ns cs ls : List ByteArray} {c e : Int} {Ai Ap An Ac Al : Option Addr} {ci cp cn cc cl : Nat} {pvs : List (List Value)} {Ls : List (List Res)} (h : VL ps pvs Ls) :
    VO (.mk k is ps ns cs ls c e) [.int .i64 k, .slice Ai is.length ci, .slice Ap ps.length cp, .slice An ns.length cn, .slice Ac cs.length cc, .slice Al ls.length cl, .int .i64 c, .int .i64 e]
      (row 35 3 (.slice Ai is.length ci) is.length (itc is) :: row 28 8 (.slice Ap ps.length cp) ps.length pvs.flatten :: row 9 1 (.slice An ns.length cn) ns.length (stc ns) ::
        row 9 1 (.slice Ac cs.length cc) cs.length (stc cs) :: row 9 1 (.slice Al ls.length cl) ls.length (stc ls) :: Ls.flatten) := .mk h.len h.len' h.at_

theorem row_sl {e sz n c : Nat} {A : Option Addr} {xs : List Value} {w : World} (h : (row e sz (.slice A n c) n xs).holds w) : Sl w sz A n xs := Sl.of_own (show w.ownsRow 0 e sz (.slice A n c) n xs from h)

theorem row_cap {e sz n c : Nat} {A : Option Addr} {xs : List Value} {w : World} (h : (row e sz (.slice A n c) n xs).holds w) : n ≤ c := by
  have h' : w.ownsRow 0 e sz (.slice A n c) n xs := h
  rcases h'.2 with ⟨h2, h0⟩ | ⟨g, cap, cur, hv, _, _, hle, _⟩
  · omega
  · simp only [Value.slice.injEq] at hv
    obtain ⟨_, _, rfl⟩ := hv
    exact hle

/-- what is owned is read -/
theorem VO.rd {w : World} {t : VT} {vs : List Value} {L : List Res} (h : VO t vs L) : (∀ r ∈ L, r.holds w) → RdV w t vs := by
  induction h with
  | @mk k is ps ns cs ls c e Ai Ap An Ac Al ci cp cn cc cl pvs Ls hl hl' hr ih =>
    intro hh
    have m1 := hh _ (List.mem_cons_self)
    have m2 := hh _ (List.mem_cons_of_mem _ (List.mem_cons_self))
    have m3 := hh _ (List.mem_cons_of_mem _ (List.mem_cons_of_mem _ (List.mem_cons_self)))
    have m4 := hh _ (List.mem_cons_of_mem _ (List.mem_cons_of_mem _ (List.mem_cons_of_mem _ (List.mem_cons_self))))
    have m5 := hh _ (List.mem_cons_of_mem _ (List.mem_cons_of_mem _ (List.mem_cons_of_mem _ (List.mem_cons_of_mem _ (List.mem_cons_self)))))
    refine .mk (row_sl m1) (row_sl m2) hl (fun i h h' => ih i h h' (by omega) fun r hr => hh r ?_) (row_sl m3) (row_sl m4) (row_sl m5) ⟨row_cap m1, row_cap m2, row_cap m3, row_cap m4, row_cap m5⟩
    have : r ∈ Ls.flatten := List.mem_flatten.2 ⟨_, List.getElem_mem (by omega), hr⟩
    exact List.mem_cons_of_mem _ (List.mem_cons_of_mem _ (List.mem_cons_of_mem _ (List.mem_cons_of_mem _ (List.mem_cons_of_mem _ this))))

section

variable {w0 w w' : World} {L R : List Res}

/-- a block that is known whole, as a row -/
theorem Own.box_row {b : Nat} {t : TypeId} {cs : List Value} (h : Own w0 (box b t cs :: R) w) (sz n : Nat) (hn : cs.length = n * sz) (hm : n ≤ 9223372036854775807) : Own w0 (row t sz (.slice (some ⟨b, 0, none⟩) n n) n cs :: R) w := by
  have hb : w.heap[b]? = some (.cells cs.toArray t (0, 0)) := h.holds _ (List.mem_cons_self)
  refine h.turn rfl rfl rfl (Nat.le_refl _) (fun _ _ _ => rfl) ⟨hn, .inr ⟨b, n, cs.toArray, rfl, Nat.zero_le _, hb, Nat.le_refl _, by unfold maxLen; exact hm, by simpa using hn, ?_⟩⟩ (fun k hk => .inl ?_)
  · rw [← hn]; simp
  · have : (some b : Option Nat) = some k := hk
    injection this with this
    exact this.symm

/-- a cell of a row is written -/
theorem Own.set_row (h : Own w0 L w) (k : Nat) {e sz n c b : Nat} {xs : List Value} (hk : L[k]? = some (row e sz (.slice (some ⟨b, 0, none⟩) n c) n xs)) (i : Nat) (hi : i < xs.length) (v : Value) :
    Own w0 (L.set k (row e sz (.slice (some ⟨b, 0, none⟩) n c) n (xs.set i v))) (w.setCell ⟨b, i, none⟩ v) :=
  h.at_ k hk fun L' h' => by
    have hb : w.ownsRow 0 e sz (.slice (some ⟨b, 0, none⟩) n c) n xs := h'.holds _ (List.mem_cons_self)
    obtain ⟨h1, h2⟩ := hb
    rcases h2 with ⟨h2, _⟩ | ⟨g, cap, cur, hv, _, hg, hle, hm, hcs, htk⟩
    · cases h2
    · simp only [Value.slice.injEq, Option.some.injEq, Addr.mk.injEq] at hv
      obtain ⟨⟨rfl, _⟩, _, rfl⟩ := hv
      refine h'.turn rfl rfl rfl (by simp [World.setCell]) (fun q _ hq => Below.heap_setCell _ _ _ _ (fun e => hq (by subst e; rfl))) ⟨by simpa using h1, .inr ⟨b, c, cur.set! i v, rfl, Nat.zero_le _, ?_, hle, hm, by simpa using hcs, ?_⟩⟩ (fun q hq => .inl hq)
      · simp only [World.setCell, Array.getElem?_modify, if_true, hg]
        simp
      · rw [← htk]
        have hi' : i < n * sz := by rw [← h1]; exact hi
        rw [Array.set!_eq_setIfInBounds, Array.toList_setIfInBounds, List.take_set]

end

end

section

open Go.RowKit

set_option linter.unusedVariables false

set_option linter.unusedSimpArgs false

/-- many things as one -/
def pack (F : List Res) : Res where
  foot := fun b => ∃ r ∈ F, r.foot b
  holds := fun w => (∀ r ∈ F, r.holds w) ∧ F.Pairwise fun (r s : Res) => ∀ b : Nat, r.foot b → ¬ s.foot b
  loc := fun w w' h hw => ⟨fun r hr => r.loc w w' (fun b hb => h b ⟨r, hr, hb⟩) (hw.1 r hr), hw.2⟩

section

variable {w0 w w' : World} {F G L : List Res} {r s : Res}

theorem Own.pack (h : Own w0 (F ++ L) w) : Own w0 (pack F :: L) w := by
  obtain ⟨h1, h2, h3, h4⟩ := h
  obtain ⟨p1, p2, p3⟩ := List.pairwise_append.1 h4
  refine ⟨h1, fun r hr => ?_, fun r hr b hb => ?_, List.pairwise_cons.2 ⟨fun s hs b hb hsb => ?_, p2⟩⟩
  · rcases List.mem_cons.1 hr with rfl | hr
    · exact ⟨fun q hq => h2 q (List.mem_append_left _ hq), p1⟩
    · exact h2 r (List.mem_append_right _ hr)
  · rcases List.mem_cons.1 hr with rfl | hr
    · obtain ⟨q, hq, hqb⟩ := hb
      exact h3 q (List.mem_append_left _ hq) b hqb
    · exact h3 r (List.mem_append_right _ hr) b hb
  · obtain ⟨q, hq, hqb⟩ := hb
    exact p3 q hq s hs b hqb hsb

theorem Own.unpack (h : Own w0 (Go.Proofs.YtmofcbpabdbjlaaGreat.pack F :: L) w) : Own w0 (F ++ L) w := by
  obtain ⟨h1, h2, h3, h4⟩ := h
  obtain ⟨p1, p2⟩ := List.pairwise_cons.1 h4
  have hp := h2 _ (List.mem_cons_self)
  refine ⟨h1, fun r hr => ?_, fun r hr b hb => ?_, List.pairwise_append.2 ⟨hp.2, p2, fun q hq s hs b hqb hsb => p1 s hs b ⟨q, hq, hqb⟩ hsb⟩⟩
  · rcases List.mem_append.1 hr with hr | hr
    · exact hp.1 r hr
    · exact h2 r (List.mem_cons_of_mem _ hr)
  · rcases List.mem_append.1 hr with hr | hr
    · exact h3 _ (List.mem_cons_self) b ⟨r, hr, hb⟩
    · exact h3 r (List.mem_cons_of_mem _ hr) b hb

/-- two packs become one -/
theorem Own.merge (h : Own w0 (Go.Proofs.YtmofcbpabdbjlaaGreat.pack F :: Go.Proofs.YtmofcbpabdbjlaaGreat.pack G :: L) w) : Own w0 (Go.Proofs.YtmofcbpabdbjlaaGreat.pack (F ++ G) :: L) w := by
  have h1 := h.unpack
  have h2 := (h1.perm (L' := Go.Proofs.YtmofcbpabdbjlaaGreat.pack G :: (F ++ L)) List.perm_middle).unpack
  refine Own.pack (h2.perm ?_)
  rw [← List.append_assoc]
  exact List.Perm.append_right L List.perm_append_comm

/-- things enter a pack -/
theorem Own.packs' (A : List Res) {R : List Res} (h : Own w0 (A ++ Go.Proofs.YtmofcbpabdbjlaaGreat.pack F :: R) w) : Own w0 (Go.Proofs.YtmofcbpabdbjlaaGreat.pack (A ++ F) :: R) w := by
  have h1 := Own.unpack (h.perm (L' := Go.Proofs.YtmofcbpabdbjlaaGreat.pack F :: (A ++ R)) List.perm_middle)
  refine Own.pack (h1.perm ?_)
  rw [← List.append_assoc]
  exact List.Perm.append_right _ List.perm_append_comm

theorem Own.packs (A : List Res) (h : Own w0 (A ++ [Go.Proofs.YtmofcbpabdbjlaaGreat.pack F]) w) : Own w0 [Go.Proofs.YtmofcbpabdbjlaaGreat.pack (A ++ F)] w := Own.packs' A h

/-- a thing comes to the front -/
theorem Own.front (h : Own w0 L w) (k : Nat) {r : Res} (hk : L[k]? = some r) : Own w0 (r :: L.eraseIdx k) w := by
  obtain ⟨hlt, hr⟩ := List.getElem?_eq_some_iff.1 hk
  have := (perm_erase L k hlt).symm
  rw [hr] at this
  exact h.perm this

/-- things are chosen by their places -/
theorem Own.pick (h : Own w0 L w) (idx : List Nat) (hn : idx.Nodup) : Own w0 (idx.filterMap fun i => L[i]?) w := by
  have hm : ∀ r ∈ idx.filterMap (fun i => L[i]?), r ∈ L := fun r hr => by
    obtain ⟨i, _, hi⟩ := List.mem_filterMap.1 hr
    exact List.mem_of_getElem? hi
  refine ⟨h.below, fun r hr => h.holds r (hm r hr), fun r hr => h.lo r (hm r hr), ?_⟩
  rw [List.pairwise_filterMap]
  refine List.Pairwise.imp (fun {i j} hij r hr s hs b hb hsb => ?_) hn
  obtain ⟨hi, ei⟩ := List.getElem?_eq_some_iff.1 hr
  obtain ⟨hj, ej⟩ := List.getElem?_eq_some_iff.1 hs
  have hp := List.pairwise_iff_getElem.1 h.sep
  rcases Nat.lt_or_gt_of_ne hij with hlt | hlt
  · have := hp i j hi hj hlt b
    rw [ei, ej] at this
    exact this hb hsb
  · have := hp j i hj hi hlt b
    rw [ei, ej] at this
    exact this hsb hb

theorem VO.one {t : VT} {vs : List Value} {L : List Res} (h : VO t vs L) : vs.all (·.oneCell') = true := by cases h; rfl

theorem RdV.one {w : World} {t : VT} {vs : List Value} (h : RdV w t vs) : vs.all (·.oneCell') = true := by cases h; rfl

theorem itc_one (l : List It) : (itc l).all (·.oneCell') = true := by
  induction l with
  | nil => rfl
  | cons x l ih =>
    show ([_, _, _] ++ itc l).all _ = true
    rw [List.all_append, ih]
    rfl

theorem stc_one (l : List ByteArray) : (stc l).all (·.oneCell') = true := by simp [stc, Value.oneCell']

theorem VL.set {ps : List VT} {pvs : List (List Value)} {Ls : List (List Res)} (h : VL ps pvs Ls) (k : Nat) {t : VT} {vs : List Value} {L : List Res} (ht : VO t vs L) : VL (ps.set k t) (pvs.set k vs) (Ls.set k L) := by
  refine ⟨by simp [h.len], by simp [h.len'], fun i a b c => ?_⟩
  simp only [List.getElem_set]
  by_cases e : k = i
  · simp only [e, if_true]; exact ht
  · simp only [e, if_false]; exact h.at_ i (by simpa using a) _ _

theorem zbi {α : Type} (a : List (List α)) (b : List α) : (a ++ [b]).flatten = a.flatten ++ b := by simp

/-- what is owned, packed, is read -/
theorem Own.rdp (h : Own w0 L w) (k : Nat) {F : List Res} (hk : L[k]? = some (Go.Proofs.YtmofcbpabdbjlaaGreat.pack F)) {t : VT} {vs : List Value} (ht : VO t vs F) : RdV w t vs :=
  ht.rd fun r hr => (h.get k hk).1 r hr

end

end

end Go.Proofs.YtmofcbpabdbjlaaGreat

namespace Go.Proofs.YtmofcbpabdbjlaaGreat

set_option maxRecDepth 8000

open Go Go.RowKit

/-- what is left at a return -/
structure StopR (p : Prop) : Prop where
  out : p

theorem zaq {P : Program} {fn : Func} {R : Ending → World → Prop} {a : Act} {w : World} (h : StopR (bodyPost P fn R .ret a w)) : bodyPost P fn R .ret a w := h.1

end Go.Proofs.YtmofcbpabdbjlaaGreat
