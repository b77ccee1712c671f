/-
  What is proved: the reference's tests and counts of vectors; the statements on IsVector, CellCount and LengthOf; how the statements mark what a call has handed back. what the statements find where they have marked; vectors of items alone as a call hands them back; items of logical values; marks of slices of integers; the end of a function that hands back an owned vector and a string; truth values of items, and what counts as numbers, of the program and of the reference; vectors of items and names handed back. an owned vector that is handed back, cell by cell.
  Condition: vectors of size at most 1048576; marks below 2^31.
-/
import Derived.Deep.Cut
import Derived.Deep.DrawnRows
import Derived.Test.YtmofcbpabdbjlaaVz4
import Derived.Test.YtmofcbpabdbjlaaVz5
import Derived.Test.YtmofcbpabdbjlaaVz6
import Derived.Test.YtmofcbpabdbjlaaVz8
import Derived.Test.YtmofcbpabdbjlaaVz11
import Derived.Test.YtmofcbpabdbjlaaVz13
import Derived.Test.YtmofcbpabdbjlaaVz14
import Derived.Test.YtmofcbpabdbjlaaVz15
import Derived.Test.YtmofcbpabdbjlaaVz18
namespace Go.Proofs.Ytmofcbpabdbjlaa

set_option maxRecDepth 8000

open Go.RowKit Go.ChangeShapes Go.WideShapes

set_option linter.unusedVariables false

set_option linter.unusedSimpArgs false

set_option maxHeartbeats 1000000 in
theorem spec_cells (t : VT) : PCells 130 t := by
  induction t using VT.ind with
  | _ k is ps ns cs ls c e ih =>
    intro vs w hv hz
    obtain ⟨hzp, hzn⟩ := szV_partsG hz
    obtain ⟨Ai, Ap, An, Ac, Al, ci, cp, cn, cc, cl, pvs, rfl, h1, h2, h3, h4, h5⟩ := hv.open
    have HE : Hid (cellsV (.mk k is ps ns cs ls c e) = lenN k is.length ps.length + cellsL ps) := Lib.hid rfl
    have hbd := cellsL_sz ps
    have CL := fun u => spec_len k Ai Ap is.length ps.length ci cp (.slice An ns.length cn) (.slice Ac cs.length cc) (.slice Al ls.length cl) (.int .i64 c) (.int .i64 e) u (by omega)
    obtain ⟨n, hn⟩ : ∃ n, lenN k is.length ps.length = n := ⟨_, rfl⟩
    rw [hn] at CL HE
    have hn2 : n ≤ 268435457 := by rw [← hn]; unfold lenN; split <;> omega
    clear hv hz hn
    have HB := Lib.hid (show cellsL ps ≤ 536870912 by omega)
    clear hbd
    go_enter Try.func130, Try.ntmps130
    have hO := Own.nil w
    go_wp2_with (first | ((with_reducible refine (CL _).mono ?_); rintro e u ⟨rfl, hb⟩; (replace hO := hO.step hb; clear hb)) | ((with_reducible refine zaf ?_); refine zbx rfl hO rfl rfl ?_; (refine nm 0 rfl ?_; clear hO; intro b0 u hO); simp only [zL, zK] at hO) | ((with_reducible refine zaa ?_); refine zlb rfl hO rfl _ (by exact at0) ?_) | fail)
    go_loopw [3, 4] (fun s i u => ∃ m : Nat, m ≤ ps.length ∧ i = .int .i64 m ∧ s = .int .i64 ((n + cellsL (ps.take m) : Nat) : Int) ∧ Own w [box b0 29 [.int .i64 k, .slice Ai is.length ci, .slice Ap ps.length cp, .slice An ns.length cn, .slice Ac cs.length cc, .slice Al ls.length cl, .int .i64 c, .int .i64 e]] u) (fun _ i _ => ps.length - (intOf i).toNat)
    case atStart => exact ⟨0, Nat.zero_le _, rfl, rfl, hO⟩
    case round =>
      clear hO
      obtain ⟨m, hm, rfl, rfl, hO⟩ := hrel
      by_cases hlt : m < ps.length
      · have hp := ih _ (List.getElem_mem hlt)
        have hps := szL_memG hzp hlt
        have HS := Lib.hid (cellsL_succ hlt)
        have hle2 : cellsL (ps.take (m + 1)) ≤ cellsL ps := by
          have := cellsL_app (ps.take (m + 1)) (ps.drop (m + 1))
          rw [List.take_append_drop] at this
          omega
        have HB2 := Lib.hid (Nat.le_trans hle2 HB.out)
        clear hle2
        obtain ⟨x, hx⟩ : ∃ x, ps[m]'hlt = x := ⟨_, rfl⟩
        obtain ⟨xk, xi, xp, xn, xc, xl, xo, xe⟩ := x
        obtain ⟨b, off, rfl, hb, Bi, Bp, Bn, Bc, Bl, di, dp, dn, dc, dl, hrd, c0, c1, c2, c3, c4, c5, c6, c7⟩ := h2.ptc hO.below hlt hx
        rw [hx] at hp hps HS
        clear hx
        have hq2 : cellsL (ps.take m) + cellsV (.mk xk xi xp xn xc xl xo xe) ≤ 536870912 := by rw [← HS.out]; exact HB2.out
        obtain ⟨q, hq⟩ : ∃ q, cellsL (ps.take m) = q := ⟨_, rfl⟩
        rw [hq] at HS hq2
        rw [hq]
        obtain ⟨z, hzz⟩ : ∃ z, cellsV (.mk xk xi xp xn xc xl xo xe) = z := ⟨_, rfl⟩
        rw [hzz] at HS hq2
        have HZ := Lib.hid hzz
        clear hq hzz HB2
        go_wp2_with (first | ((with_reducible refine zaa ?_); refine zlf rfl hO rfl _ (by exact at0) ?_) | fail)
        refine (hp _ _ (hrd.grow hO.below) hps).mono ?_
        rintro e u ⟨rfl, hb⟩
        (replace hO := hO.step hb; clear hb)
        rw [HZ.out]
        go_wp2_with fail
        go_roundw
        case rel => exact ⟨m + 1, by omega, by go_num, by rw [HS.out]; exact congrArg (Value.int .i64) (by omega), hO⟩
        case measure => simp [intOf]; omega
      · have hmn : m = ps.length := by omega
        subst hmn
        rw [List.take_length]
        go_wp2_with (first | ((with_reducible refine zaa ?_); refine zlf rfl hO rfl _ (by exact at0) ?_) | fail)
        go_ret
        exact ⟨ret_int (by rw [HE.out]), hO.below⟩

theorem spec_isVecG (t : VT) (vs : List Value) (w : World) (hv : RdV w t vs) (hz : szV t ≤ 268435456) : Calls Try.prog 55 #[.agg vs.toArray] w fun e w' => e = .returned (.bool (isV t)) ∧ Below w.heap.size w w' := by
  have HE : Hid (isV t = (lB 3 t && decide (cellsV t ≤ 200))) := Lib.hid rfl
  have CP : ∀ u, Below w.heap.size w u → Calls Try.prog 129 #[.agg vs.toArray, .int .i64 3] u fun e w' => e = .returned (.bool (lB 3 t)) ∧ Below u.heap.size u w' := fun u hb => spec_lis t vs 3 u (by omega) (hv.grow hb) hz
  have CC := fun u (hb : Below w.heap.size w u) => spec_cells t vs u (hv.grow hb) hz
  obtain ⟨b, hb⟩ : ∃ a, lB 3 t = a := ⟨_, rfl⟩
  obtain ⟨c, hc⟩ : ∃ a, cellsV t = a := ⟨_, rfl⟩
  rw [hb] at CP HE
  rw [hc] at CC HE
  clear hb hc
  obtain ⟨xk, xi, xp, xn, xc, xl, xo, xe⟩ := t
  obtain ⟨Ai, Ap, An, Ac, Al, ci, cp, cn, cc, cl, pvs, rfl, h1, h2, h3, h4, h5⟩ := hv.open
  clear h1 h2 h3 h4 h5 hv hz
  cases b with
  | false =>
    go_enter Try.func55, Try.ntmps55
    have hO := Own.nil w
    go_wp2_with (first | ((with_reducible refine (CP _ hO.below).mono ?_); rintro e u ⟨rfl, hb⟩; (replace hO := hO.step hb; clear hb)) | ((with_reducible refine zaf ?_); refine zbx rfl hO rfl rfl ?_; (refine nm 0 rfl ?_; clear hO; intro b0 u hO); simp only [zL, zK] at hO) | ((with_reducible refine zaa ?_); refine zlb rfl hO rfl _ (by exact at0) ?_) | fail)
    go_ret
    exact ⟨zaj (by rw [HE.out]; rfl), hO.below⟩
  | true =>
    by_cases g2 : c ≤ 200
    · have D2 := Lib.hid (decide_eq_true g2)
      go_enter Try.func55, Try.ntmps55
      have hO := Own.nil w
      go_wp2_with (first | ((with_reducible refine (CP _ hO.below).mono ?_); rintro e u ⟨rfl, hb⟩; (replace hO := hO.step hb; clear hb)) | ((with_reducible refine (CC _ hO.below).mono ?_); rintro e u ⟨rfl, hb⟩; (replace hO := hO.step hb; clear hb)) | ((with_reducible refine zaf ?_); refine zbx rfl hO rfl rfl ?_; (refine nm 0 rfl ?_; clear hO; intro b0 u hO); simp only [zL, zK] at hO) | ((with_reducible refine zaa ?_); refine zlb rfl hO rfl _ (by exact at0) ?_) | fail)
      go_ret
      exact ⟨zaj (by rw [HE.out, D2.out]; first | rfl | (simp; done) | (simp; omega)), hO.below⟩
    · have D2 := Lib.hid (decide_eq_false g2)
      go_enter Try.func55, Try.ntmps55
      have hO := Own.nil w
      go_wp2_with (first | ((with_reducible refine (CP _ hO.below).mono ?_); rintro e u ⟨rfl, hb⟩; (replace hO := hO.step hb; clear hb)) | ((with_reducible refine (CC _ hO.below).mono ?_); rintro e u ⟨rfl, hb⟩; (replace hO := hO.step hb; clear hb)) | ((with_reducible refine zaf ?_); refine zbx rfl hO rfl rfl ?_; (refine nm 0 rfl ?_; clear hO; intro b0 u hO); simp only [zL, zK] at hO) | ((with_reducible refine zaa ?_); refine zlb rfl hO rfl _ (by exact at0) ?_) | fail)
      go_ret
      exact ⟨zaj (by rw [HE.out, D2.out]; first | rfl | (simp; done) | (simp; omega)), hO.below⟩

theorem spec_isVec (t : VT) (vs : List Value) (w : World) (hv : RdV w t vs) (hz : szV t ≤ 1048576) : Calls Try.prog 55 #[.agg vs.toArray] w fun e w' => e = .returned (.bool (isV t)) ∧ Below w.heap.size w w' := spec_isVecG t vs w hv (Nat.le_trans hz (by decide))

end Go.Proofs.Ytmofcbpabdbjlaa

namespace Go.Proofs.Ytmofcbpabdbjlaa

set_option maxRecDepth 8000

section

open Go.RowKit Go.ChangeShapes Go.WideShapes

set_option linter.unusedVariables false

set_option linter.unusedSimpArgs false

section

variable {P : Program} {o : Oper} {a : Act} {w w' w0 : World} {K : Act → World → Prop} {Q : Exit → Act → World → Prop} {L : List Res} {ops : Array Oper} {rest : List Oper}

/-- a row of some elements lies at the head of a block -/
theorem Own.form (hO : Own w0 L w) (k : Nat) {e sz n c : Nat} {A : Option Addr} {xs : List Value} (hk : L[k]? = some (row e sz (.slice A n c) n xs)) (hn : 0 < n) : ∃ g, A = some ⟨g, 0, none⟩ := by
  obtain ⟨g, c', hv, _, _⟩ := own_form (show w.ownsRow 0 e sz (.slice A n c) n xs from hO.get k hk) hn
  injection hv with h1
  exact ⟨g, h1⟩

end

end

section

open Go.RowKit Go.ChangeShapes Go.WideShapes

set_option linter.unusedVariables false

set_option linter.unusedSimpArgs false

end

end Go.Proofs.Ytmofcbpabdbjlaa

namespace Go.Proofs.Ytmofcbpabdbjlaa

set_option maxRecDepth 8000

open Go.RowKit Go.ChangeShapes Go.WideShapes

set_option linter.unusedVariables false

set_option linter.unusedSimpArgs false

def vecI (k : Int) (is : List It) : VT := .mk k is [] [] [] [] 0 0

def txI (s : ByteArray) : It := ⟨0, 1, s⟩

/-- the eight cells of a vector, written out -/
theorem VO.ex {t : VT} {vs : List Value} {F : List Res} (h : VO t vs F) : ∃ (Ai Ap An Ac Al : Option Addr) (ci cp cn cc cl : Nat), vs = [.int .i64 t.kind, .slice Ai t.items.length ci, .slice Ap t.parts.length cp, .slice An t.names.length cn, .slice Ac t.cls.length cc, .slice Al t.levels.length cl, .int .i64 t.code, .int .i64 t.env] := by
  cases h with
  | mk => exact ⟨_, _, _, _, _, _, _, _, _, _, rfl⟩

theorem RdV.ex {w : World} {t : VT} {vs : List Value} (h : RdV w t vs) : ∃ (Ai Ap An Ac Al : Option Addr) (ci cp cn cc cl : Nat), vs = [.int .i64 t.kind, .slice Ai t.items.length ci, .slice Ap t.parts.length cp, .slice An t.names.length cn, .slice Ac t.cls.length cc, .slice Al t.levels.length cl, .int .i64 t.code, .int .i64 t.env] := by
  cases h with
  | mk => exact ⟨_, _, _, _, _, _, _, _, _, _, rfl⟩

/-- what a call hands back: a vector of its own -/
def RetV (t : VT) (w : World) (e : Ending) (w' : World) : Prop := ∃ vs F, e = .returned (.agg vs.toArray) ∧ VO t vs F ∧ Own w [pack F] w'

/-- a vector of items alone, of the call's own -/
theorem Own.vecI {w0 w : World} {is : List It} {A : Option Addr} {c : Nat} (h : Own w0 [row 83 3 (.slice A is.length c) is.length (itc is)] w) (k : Int) :
    ∃ F, VO (Go.Proofs.Ytmofcbpabdbjlaa.vecI k is) [.int .i64 k, .slice A is.length c, .slice none 0 0, .slice none 0 0, .slice none 0 0, .slice none 0 0, .int .i64 0, .int .i64 0] F ∧ Own w0 [Go.Proofs.Ytmofcbpabdbjlaa.pack F] w := by
  have h1 := (((h.addNil 29 8).addNil 9 1).addNil 9 1).addNil 9 1
  have h2 := Own.pack (F := [_, _, _, _, _]) (L := []) h1
  exact ⟨_, VO.close (ps := []) (ns := []) (cs := []) (ls := []) VL.nil, h2⟩

theorem Own.vec0 (w : World) (k : Int) : ∃ F, VO (Go.Proofs.Ytmofcbpabdbjlaa.vecI k []) [.int .i64 k, .slice none 0 0, .slice none 0 0, .slice none 0 0, .slice none 0 0, .slice none 0 0, .int .i64 0, .int .i64 0] F ∧ Own w [Go.Proofs.Ytmofcbpabdbjlaa.pack F] w :=
  Own.vecI (is := []) ((Own.nil w).addNil 83 3) k

section

variable {P : Program} {o : Oper} {a : Act} {w w' w0 : World} {K : Act → World → Prop} {Q : Exit → Act → World → Prop} {L : List Res} {ops : Array Oper} {rest : List Oper}

end

theorem itc_map_succ {α : Type} (f : α → It) {l : List α} {k : Nat} (h : k < l.length) : itc ((l.take (k + 1)).map f) = itc ((l.take k).map f) ++ itc1 (f l[k]) := by
  rw [zat h, List.map_append, itc_app]
  simp [itc]

end Go.Proofs.Ytmofcbpabdbjlaa

namespace Go.Proofs.Ytmofcbpabdbjlaa

set_option maxRecDepth 8000

open Go.RowKit Go.ChangeShapes Go.WideShapes

set_option linter.unusedVariables false

set_option linter.unusedSimpArgs false

/-- the end: a struct variable and one more value are handed back -/
theorem zap {P : Program} {w0 w : World} {L : List Res} {a : Act} {fn : Func} {R : Ending → World → Prop} {p q : Tmp} {ty : TypeId} (hres : fn.results = #[.cell p ty, .tmp q]) (hO : Own w0 L w) {b : Nat} (hp : a.tmps.getD p undef = .pointer (some ⟨b, 0, none⟩))
    (k : Nat) {t : TypeId} {cs : List Value} (hk : L[k]? = some (box b t cs)) {n : Nat} [hT : AggT P ty n] (hn : cs.length = n) (hd : a.defers = []) {v : Value} (hv : a.tmps.getD q undef = v) (hR : R (.returned (.tuple #[.agg cs.toArray, v])) w) : bodyPost P fn R .ret a w := by
  obtain ⟨d, h1, h2, h3⟩ := hT.of
  subst hn
  subst hv
  refine ⟨hd, _, ?_, hR⟩
  have hl := run_loadVar_mid (P := P) w b 0 ty cs d (hO.range k hk) h1 h2 h3
  have hp' : a.tmps[p]?.getD undef = .pointer (some ⟨b, 0, none⟩) := by rw [← Array.getD_eq_getD_getElem?]; exact hp
  simp [results, hres, hp', asAddr, hl]

/-- hands back an owned vector and a string -/
def RetVS (t : VT) (s : ByteArray) (w : World) (e : Ending) (w' : World) : Prop := ∃ vs F, e = .returned (.tuple #[.agg vs.toArray, .string s]) ∧ VO t vs F ∧ Own w [pack F] w'

end Go.Proofs.Ytmofcbpabdbjlaa

namespace Go.Proofs.Ytmofcbpabdbjlaa

set_option maxRecDepth 8000

section

open Go.RowKit Go.ChangeShapes Go.WideShapes Go.Deep

set_option linter.unusedVariables false

set_option linter.unusedSimpArgs false

/-- what a valid vector's head says -/
theorem isV_facts {k : Int} {is : List It} {ps : List VT} {ns cs ls : List ByteArray} {c e : Int} (h : isV (.mk k is ps ns cs ls c e) = true) :
    (0 ≤ k ∧ k ≤ 5) ∧ lenV (.mk k is ps ns cs ls c e) ≤ 40 ∧ (ns.length = 0 ∨ ns.length = lenV (.mk k is ps ns cs ls c e)) ∧ (ls.length = 0 ∨ k = 2) ∧ (ps.length = 0 ∨ k = 4) ∧ (k = 5 → is.length = 0 ∧ ns.length = 0) ∧ (k = 0 → is.length = 0) ∧ (∀ x ∈ is, itB k ls x = true) ∧ (k = 5 ∨ (c = 0 ∧ e = 0)) := by
  unfold isV at h
  simp only [Bool.and_eq_true] at h
  have h1 := h.1
  unfold lB at h1
  simp only [Bool.and_eq_true] at h1
  have h2 := h1.1
  unfold nodeB at h2
  simp only [Bool.and_eq_true] at h2
  obtain ⟨h3, h4⟩ := h2
  rw [List.all_eq_true] at h4
  unfold headB at h3
  simp only [Bool.and_eq_true, Bool.or_eq_true, Bool.not_eq_true', decide_eq_true_eq, decide_eq_false_iff_not] at h3
  obtain ⟨⟨⟨⟨⟨⟨⟨⟨⟨⟨a1, a2⟩, a3⟩, a4⟩, a5⟩, a6⟩, a7⟩, a8⟩, a9⟩, a10⟩, a11⟩ := h3
  refine ⟨a1, a2, ?_, a7, a8, ?_, ?_, h4, ?_⟩
  · rcases a5 with h | h
    · exact .inl h
    · exact .inr h.1
  · intro hk
    rcases a10 with h | h
    · exact absurd hk h
    · exact ⟨h.1.1.1, h.1.1.2⟩
  · intro hk
    rcases a11 with h | h
    · exact absurd hk h
    · exact h.1
  · rcases a9 with h | h
    · exact .inl h
    · exact .inr h

def badS : ByteArray := ⟨#[105, 110, 118, 97, 108, 105, 100, 32, 118, 101, 99, 116, 111, 114]⟩

theorem spec_bad (w : World) : Calls Try.prog 78 #[] w fun e w' => e = .returned (.tuple #[.agg #[.int .i64 0, .slice none 0 0, .slice none 0 0, .slice none 0 0, .slice none 0 0, .slice none 0 0, .int .i64 0, .int .i64 0], .string ⟨#[105, 110, 118, 97, 108, 105, 100, 32, 118, 101, 99, 116, 111, 114]⟩]) ∧ Below w.heap.size w w' := by
  go_enter Try.func78, Try.ntmps78
  have hO := Own.nil w
  go_wp2_with (first | ((with_reducible refine zac ?_); refine zal rfl hO rfl ?_; (refine nm 0 rfl ?_; clear hO; intro b0 u hO); simp only [zL, zK] at hO) | ((with_reducible refine zab ?_); refine zsb rfl hO rfl _ (by exact at0) rfl ?_; clear hO; intro u hO; simp only [zC, zB] at hO) | fail)
  exact zap rfl hO rfl 0 at0 rfl rfl rfl ⟨rfl, hO.below⟩

/-- items and names -/
def vecN (k : Int) (is : List It) (ns : List ByteArray) : VT := .mk k is [] ns [] [] 0 0

theorem Own.vecN {w0 w : World} {is : List It} {ns : List ByteArray} {A B : Option Addr} {c d : Nat} (h : Own w0 [row 83 3 (.slice A is.length c) is.length (itc is), row 9 1 (.slice B ns.length d) ns.length (stc ns)] w) (k : Int) :
    ∃ F, VO (Go.Proofs.Ytmofcbpabdbjlaa.vecN k is ns) [.int .i64 k, .slice A is.length c, .slice none 0 0, .slice B ns.length d, .slice none 0 0, .slice none 0 0, .int .i64 0, .int .i64 0] F ∧ Own w0 [Go.Proofs.Ytmofcbpabdbjlaa.pack F] w := by
  have h1 := ((h.addNil 29 8).addNil 9 1).addNil 9 1
  have h2 := Own.pack (F := [_, _, _, _, _]) (L := []) (h1.pick [0, 2, 1, 3, 4] (by decide))
  exact ⟨_, VO.close (ps := []) (cs := []) (ls := []) VL.nil, h2⟩

end

section

open Go.RowKit Go.ChangeShapes Go.WideShapes Go.Deep

set_option linter.unusedVariables false

set_option linter.unusedSimpArgs false

theorem RetV.exC {xk : Int} {xi : List It} {xp : List VT} {xn xc xl : List ByteArray} {xo xe : Int} {u w' : World} {e : Ending} (h : RetV (.mk xk xi xp xn xc xl xo xe) u e w') :
    ∃ (Ci Cp Cn Cc Cl : Option Addr) (ri rp rn rc rl : Nat) (F : List Res), e = .returned (.agg #[.int .i64 xk, .slice Ci xi.length ri, .slice Cp xp.length rp, .slice Cn xn.length rn, .slice Cc xc.length rc, .slice Cl xl.length rl, .int .i64 xo, .int .i64 xe]) ∧
      VO (.mk xk xi xp xn xc xl xo xe) [.int .i64 xk, .slice Ci xi.length ri, .slice Cp xp.length rp, .slice Cn xn.length rn, .slice Cc xc.length rc, .slice Cl xl.length rl, .int .i64 xo, .int .i64 xe] F ∧ Own u [pack F] w' := by
  obtain ⟨vs, F, rfl, hvo, hO⟩ := h
  obtain ⟨Ci, Cp, Cn, Cc, Cl, ri, rp, rn, rc, rl, rfl⟩ := hvo.ex
  exact ⟨Ci, Cp, Cn, Cc, Cl, ri, rp, rn, rc, rl, F, rfl, hvo, hO⟩

end

end Go.Proofs.Ytmofcbpabdbjlaa
