/-
  What is proved: the reference's tests and counts of vectors; the statements on IsVector, CellCount and LengthOf; how the statements mark what a call has handed back. what the statements find where they have marked; vectors of items alone as a call hands them back; items of logical values; marks of slices of integers; the reference's constructors of logical and of number vectors.
  Condition: vectors of size at most 1048576; marks below 2^31.
-/
import Derived.Deep.Cut
import Derived.Deep.DrawnRows
import Derived.Test.YtmofcbpabdbjlaaGreatMz2
import Derived.Test.YtmofcbpabdbjlaaGreatMz3
import Derived.Test.YtmofcbpabdbjlaaGreatMz4
import Derived.Test.YtmofcbpabdbjlaaGreatMz5
import Derived.Test.YtmofcbpabdbjlaaGreatMz7
import Derived.Test.YtmofcbpabdbjlaaGreatMz9
import Derived.Test.YtmofcbpabdbjlaaGreatMz10
import Derived.Test.YtmofcbpabdbjlaaGreatMz12
namespace Go.Proofs.YtmofcbpabdbjlaaGreat

set_option maxRecDepth 8000

open Go.RowKit Go.ChangeShapes Go.WideShapes

set_option linter.unusedVariables false

set_option linter.unusedSimpArgs false

set_option maxHeartbeats 1000000 in
theorem spec_cells (t : VT) : PCells 72 t := by
  induction t using VT.ind with
  | _ k is ps ns cs ls c e ih =>
    intro vs w hv hz
    obtain ⟨hzp, hzn⟩ := szV_partsG hz
    obtain ⟨Ai, Ap, An, Ac, Al, ci, cp, cn, cc, cl, pvs, rfl, h1, h2, h3, h4, h5⟩ := hv.open
    have HE : Hid (cellsV (.mk k is ps ns cs ls c e) = lenN k is.length ps.length + cellsL ps) := Lib.hid rfl
    have hbd := cellsL_sz ps
    have CL := fun u => spec_len k Ai Ap is.length ps.length ci cp (.slice An ns.length cn) (.slice Ac cs.length cc) (.slice Al ls.length cl) (.int .i64 c) (.int .i64 e) u (by omega)
    obtain ⟨n, hn⟩ : ∃ n, lenN k is.length ps.length = n := ⟨_, rfl⟩
    rw [hn] at CL HE
    have hn2 : n ≤ 268435457 := by rw [← hn]; unfold lenN; split <;> omega
    clear hv hz hn
    have HB := Lib.hid (show cellsL ps ≤ 536870912 by omega)
    clear hbd
    go_enter Tryz.func72, Tryz.ntmps72
    have hO := Own.nil w
    go_wp2_with (first | ((with_reducible refine (CL _).mono ?_); rintro e u ⟨rfl, hb⟩; (replace hO := hO.step hb; clear hb)) | ((with_reducible refine zad ?_); refine zbx rfl hO rfl rfl ?_; (refine nm 0 rfl ?_; clear hO; intro b0 u hO); simp only [zL, zK] at hO) | ((with_reducible refine zaa ?_); refine zlb rfl hO rfl _ (by exact at0) ?_) | fail)
    go_loopw [3, 4] (fun s i u => ∃ m : Nat, m ≤ ps.length ∧ i = .int .i64 m ∧ s = .int .i64 ((n + cellsL (ps.take m) : Nat) : Int) ∧ Own w [box b0 28 [.int .i64 k, .slice Ai is.length ci, .slice Ap ps.length cp, .slice An ns.length cn, .slice Ac cs.length cc, .slice Al ls.length cl, .int .i64 c, .int .i64 e]] u) (fun _ i _ => ps.length - (intOf i).toNat)
    case atStart => exact ⟨0, Nat.zero_le _, rfl, rfl, hO⟩
    case round =>
      clear hO
      obtain ⟨m, hm, rfl, rfl, hO⟩ := hrel
      by_cases hlt : m < ps.length
      · have hp := ih _ (List.getElem_mem hlt)
        have hps := szL_memG hzp hlt
        have HS := Lib.hid (cellsL_succ hlt)
        have hle2 : cellsL (ps.take (m + 1)) ≤ cellsL ps := by
          have := cellsL_app (ps.take (m + 1)) (ps.drop (m + 1))
          rw [List.take_append_drop] at this
          omega
        have HB2 := Lib.hid (Nat.le_trans hle2 HB.out)
        clear hle2
        obtain ⟨x, hx⟩ : ∃ x, ps[m]'hlt = x := ⟨_, rfl⟩
        obtain ⟨xk, xi, xp, xn, xc, xl, xo, xe⟩ := x
        obtain ⟨b, off, rfl, hb, Bi, Bp, Bn, Bc, Bl, di, dp, dn, dc, dl, hrd, c0, c1, c2, c3, c4, c5, c6, c7⟩ := h2.ptc hO.below hlt hx
        rw [hx] at hp hps HS
        clear hx
        have hq2 : cellsL (ps.take m) + cellsV (.mk xk xi xp xn xc xl xo xe) ≤ 536870912 := by rw [← HS.out]; exact HB2.out
        obtain ⟨q, hq⟩ : ∃ q, cellsL (ps.take m) = q := ⟨_, rfl⟩
        rw [hq] at HS hq2
        rw [hq]
        obtain ⟨z, hzz⟩ : ∃ z, cellsV (.mk xk xi xp xn xc xl xo xe) = z := ⟨_, rfl⟩
        rw [hzz] at HS hq2
        have HZ := Lib.hid hzz
        clear hq hzz HB2
        go_wp2_with (first | ((with_reducible refine zaa ?_); refine zlf rfl hO rfl _ (by exact at0) ?_) | fail)
        refine (hp _ _ (hrd.grow hO.below) hps).mono ?_
        rintro e u ⟨rfl, hb⟩
        (replace hO := hO.step hb; clear hb)
        rw [HZ.out]
        go_wp2_with fail
        go_roundw
        case rel => exact ⟨m + 1, by omega, by go_num, by rw [HS.out]; exact congrArg (Value.int .i64) (by omega), hO⟩
        case measure => simp [intOf]; omega
      · have hmn : m = ps.length := by omega
        subst hmn
        rw [List.take_length]
        go_wp2_with (first | ((with_reducible refine zaa ?_); refine zlf rfl hO rfl _ (by exact at0) ?_) | fail)
        go_ret
        exact ⟨zat (by rw [HE.out]), hO.below⟩

theorem spec_isVecG (t : VT) (vs : List Value) (w : World) (hv : RdV w t vs) (hz : szV t ≤ 268435456) : Calls Tryz.prog 31 #[.agg vs.toArray] w fun e w' => e = .returned (.bool (isV t)) ∧ Below w.heap.size w w' := by
  have HE : Hid (isV t = (lB 3 t && decide (cellsV t ≤ 200))) := Lib.hid rfl
  have CP : ∀ u, Below w.heap.size w u → Calls Tryz.prog 71 #[.agg vs.toArray, .int .i64 3] u fun e w' => e = .returned (.bool (lB 3 t)) ∧ Below u.heap.size u w' := fun u hb => spec_lis t vs 3 u (by omega) (hv.grow hb) hz
  have CC := fun u (hb : Below w.heap.size w u) => spec_cells t vs u (hv.grow hb) hz
  obtain ⟨b, hb⟩ : ∃ a, lB 3 t = a := ⟨_, rfl⟩
  obtain ⟨c, hc⟩ : ∃ a, cellsV t = a := ⟨_, rfl⟩
  rw [hb] at CP HE
  rw [hc] at CC HE
  clear hb hc
  obtain ⟨xk, xi, xp, xn, xc, xl, xo, xe⟩ := t
  obtain ⟨Ai, Ap, An, Ac, Al, ci, cp, cn, cc, cl, pvs, rfl, h1, h2, h3, h4, h5⟩ := hv.open
  clear h1 h2 h3 h4 h5 hv hz
  cases b with
  | false =>
    go_enter Tryz.func31, Tryz.ntmps31
    have hO := Own.nil w
    go_wp2_with (first | ((with_reducible refine (CP _ hO.below).mono ?_); rintro e u ⟨rfl, hb⟩; (replace hO := hO.step hb; clear hb)) | ((with_reducible refine zad ?_); refine zbx rfl hO rfl rfl ?_; (refine nm 0 rfl ?_; clear hO; intro b0 u hO); simp only [zL, zK] at hO) | ((with_reducible refine zaa ?_); refine zlb rfl hO rfl _ (by exact at0) ?_) | fail)
    go_ret
    exact ⟨zap (by rw [HE.out]; rfl), hO.below⟩
  | true =>
    by_cases g2 : c ≤ 200
    · have D2 := Lib.hid (decide_eq_true g2)
      go_enter Tryz.func31, Tryz.ntmps31
      have hO := Own.nil w
      go_wp2_with (first | ((with_reducible refine (CP _ hO.below).mono ?_); rintro e u ⟨rfl, hb⟩; (replace hO := hO.step hb; clear hb)) | ((with_reducible refine (CC _ hO.below).mono ?_); rintro e u ⟨rfl, hb⟩; (replace hO := hO.step hb; clear hb)) | ((with_reducible refine zad ?_); refine zbx rfl hO rfl rfl ?_; (refine nm 0 rfl ?_; clear hO; intro b0 u hO); simp only [zL, zK] at hO) | ((with_reducible refine zaa ?_); refine zlb rfl hO rfl _ (by exact at0) ?_) | fail)
      go_ret
      exact ⟨zap (by rw [HE.out, D2.out]; first | rfl | (simp; done) | (simp; omega)), hO.below⟩
    · have D2 := Lib.hid (decide_eq_false g2)
      go_enter Tryz.func31, Tryz.ntmps31
      have hO := Own.nil w
      go_wp2_with (first | ((with_reducible refine (CP _ hO.below).mono ?_); rintro e u ⟨rfl, hb⟩; (replace hO := hO.step hb; clear hb)) | ((with_reducible refine (CC _ hO.below).mono ?_); rintro e u ⟨rfl, hb⟩; (replace hO := hO.step hb; clear hb)) | ((with_reducible refine zad ?_); refine zbx rfl hO rfl rfl ?_; (refine nm 0 rfl ?_; clear hO; intro b0 u hO); simp only [zL, zK] at hO) | ((with_reducible refine zaa ?_); refine zlb rfl hO rfl _ (by exact at0) ?_) | fail)
      go_ret
      exact ⟨zap (by rw [HE.out, D2.out]; first | rfl | (simp; done) | (simp; omega)), hO.below⟩

theorem spec_isVec (t : VT) (vs : List Value) (w : World) (hv : RdV w t vs) (hz : szV t ≤ 1048576) : Calls Tryz.prog 31 #[.agg vs.toArray] w fun e w' => e = .returned (.bool (isV t)) ∧ Below w.heap.size w w' := spec_isVecG t vs w hv (Nat.le_trans hz (by decide))

end Go.Proofs.YtmofcbpabdbjlaaGreat

namespace Go.Proofs.YtmofcbpabdbjlaaGreat

set_option maxRecDepth 8000

section

open Go.RowKit Go.ChangeShapes Go.WideShapes

set_option linter.unusedVariables false

set_option linter.unusedSimpArgs false

section

variable {P : Program} {o : Oper} {a : Act} {w w' w0 : World} {K : Act → World → Prop} {Q : Exit → Act → World → Prop} {L : List Res} {ops : Array Oper} {rest : List Oper}

/-- a cell of a row is there -/
theorem Own.rowCell (hO : Own w0 L w) (k : Nat) {e sz n c b : Nat} {xs : List Value} (hk : L[k]? = some (row e sz (.slice (some ⟨b, 0, none⟩) n c) n xs)) {j : Nat} {u : Value} (hu : xs[j]? = some u) : w.cell? ⟨b, j, none⟩ = some u := by
  have h := Own.get hO k hk
  have hs := Go.Proofs.YtmofcbpabdbjlaaGreat.row_sl h
  have hj := (List.getElem?_eq_some_iff.1 hu).1
  have hn : 0 < n := by
    have := hs.len
    rcases Nat.eq_zero_or_pos n with h0 | h0
    · subst h0; simp at this; subst this; simp at hj
    · exact h0
  obtain ⟨b', off, e1, _, hc⟩ := hs.at_ hn
  simp only [Option.some.injEq, Addr.mk.injEq, and_true] at e1
  obtain ⟨rfl, rfl⟩ := e1
  have := hc j u hu
  rwa [Nat.zero_add] at this

theorem Own.rowFree (hO : Own w0 L w) (k : Nat) {e sz n c b : Nat} {xs : List Value} (hk : L[k]? = some (row e sz (.slice (some ⟨b, 0, none⟩) n c) n xs)) (j : Nat) : w.frozen? ⟨b, j, none⟩ = false := by
  have h : w.ownsRow 0 e sz (.slice (some ⟨b, 0, none⟩) n c) n xs := hO.get k hk
  rcases h.2 with ⟨h2, _⟩ | ⟨g, cap, cur, hv, _, hg, _⟩
  · cases h2
  · simp only [Value.slice.injEq, Option.some.injEq, Addr.mk.injEq, and_true] at hv
    obtain ⟨rfl, _⟩ := hv
    simp [World.frozen?, hg]

/-- a row of some elements lies at the head of a block -/
theorem Own.form (hO : Own w0 L w) (k : Nat) {e sz n c : Nat} {A : Option Addr} {xs : List Value} (hk : L[k]? = some (row e sz (.slice A n c) n xs)) (hn : 0 < n) : ∃ g, A = some ⟨g, 0, none⟩ := by
  obtain ⟨g, c', hv, _, _⟩ := own_form (show w.ownsRow 0 e sz (.slice A n c) n xs from hO.get k hk) hn
  injection hv with h1
  exact ⟨g, h1⟩

end

theorem mid_set {α : Type} (a l : List α) (k : Nat) (ha : a.length = k) (hk : k < l.length) (y : α) : (a ++ l.drop k).set k y = (a ++ [y]) ++ l.drop (k + 1) := by
  subst ha
  rw [List.set_append_right _ _ (Nat.le_refl _), Nat.sub_self, List.drop_eq_getElem_cons hk, List.set_cons_zero]
  simp

theorem mid_len {α : Type} (a l : List α) (k : Nat) (ha : a.length = k) (hk : k ≤ l.length) : (a ++ l.drop k).length = l.length := by simp [ha]; omega

end

section

open Go.RowKit Go.ChangeShapes Go.WideShapes

set_option linter.unusedVariables false

set_option linter.unusedSimpArgs false

end

end Go.Proofs.YtmofcbpabdbjlaaGreat

namespace Go.Proofs.YtmofcbpabdbjlaaGreat

set_option maxRecDepth 8000

open Go.RowKit Go.ChangeShapes Go.WideShapes

set_option linter.unusedVariables false

set_option linter.unusedSimpArgs false

def vecI (k : Int) (is : List It) : VT := .mk k is [] [] [] [] 0 0

def lgI (z : Int) : It := if z = 0 ∨ z = 1 then ⟨z, 1, ⟨#[]⟩⟩ else ⟨0, 0, ⟨#[]⟩⟩

def txI (s : ByteArray) : It := ⟨0, 1, s⟩

/-- the eight cells of a vector, written out -/
theorem VO.ex {t : VT} {vs : List Value} {F : List Res} (h : VO t vs F) : ∃ (Ai Ap An Ac Al : Option Addr) (ci cp cn cc cl : Nat), vs = [.int .i64 t.kind, .slice Ai t.items.length ci, .slice Ap t.parts.length cp, .slice An t.names.length cn, .slice Ac t.cls.length cc, .slice Al t.levels.length cl, .int .i64 t.code, .int .i64 t.env] := by
  cases h with
  | mk => exact ⟨_, _, _, _, _, _, _, _, _, _, rfl⟩

/-- what a call hands back: a vector of its own -/
def RetV (t : VT) (w : World) (e : Ending) (w' : World) : Prop := ∃ vs F, e = .returned (.agg vs.toArray) ∧ VO t vs F ∧ Own w [pack F] w'

/-- a vector of items alone, of the call's own -/
theorem Own.vecI {w0 w : World} {is : List It} {A : Option Addr} {c : Nat} (h : Own w0 [row 35 3 (.slice A is.length c) is.length (itc is)] w) (k : Int) :
    ∃ F, VO (Go.Proofs.YtmofcbpabdbjlaaGreat.vecI k is) [.int .i64 k, .slice A is.length c, .slice none 0 0, .slice none 0 0, .slice none 0 0, .slice none 0 0, .int .i64 0, .int .i64 0] F ∧ Own w0 [Go.Proofs.YtmofcbpabdbjlaaGreat.pack F] w := by
  have h1 := (((h.addNil 28 8).addNil 9 1).addNil 9 1).addNil 9 1
  have h2 := Own.pack (F := [_, _, _, _, _]) (L := []) h1
  exact ⟨_, VO.close (ps := []) (ns := []) (cs := []) (ls := []) VL.nil, h2⟩

theorem Own.vec0 (w : World) (k : Int) : ∃ F, VO (Go.Proofs.YtmofcbpabdbjlaaGreat.vecI k []) [.int .i64 k, .slice none 0 0, .slice none 0 0, .slice none 0 0, .slice none 0 0, .slice none 0 0, .int .i64 0, .int .i64 0] F ∧ Own w [Go.Proofs.YtmofcbpabdbjlaaGreat.pack F] w :=
  Own.vecI (is := []) ((Own.nil w).addNil 35 3) k

section

variable {P : Program} {o : Oper} {a : Act} {w w' w0 : World} {K : Act → World → Prop} {Q : Exit → Act → World → Prop} {L : List Res} {ops : Array Oper} {rest : List Oper}

end

theorem ints_at {l : List Int} {k : Nat} (h : k < l.length) : (ints l).getD k undef = .int .i64 (l[k]'h) := by
  simp [ints, List.getD_eq_getElem?_getD, h]

theorem Sl.nt {w u : World} {A : Option Addr} {l : List Int} {n : Nat} (h : Sl w 1 A n (ints l)) (hb : Below w.heap.size w u) {i : Nat} (hi : i < n) (hl : i < l.length) : ∃ b off, A = some ⟨b, off, none⟩ ∧ b < w.heap.size ∧ u.cell? ⟨b, off + i, none⟩ = some (.int .i64 (l[i]'hl)) := by
  obtain ⟨b, off, e, hlt, hc⟩ := h.cell1 hi
  rw [ints_at hl] at hc
  exact ⟨b, off, e, hlt, (hb.cell (p := ⟨b, _, none⟩) hlt).trans hc⟩

theorem itc_map_succ {α : Type} (f : α → It) {l : List α} {k : Nat} (h : k < l.length) : itc ((l.take (k + 1)).map f) = itc ((l.take k).map f) ++ itc1 (f l[k]) := by
  rw [za6 h, List.map_append, itc_app]
  simp [itc]

/-- the vectors that the constructors make of a list -/
def lvT (zs : List Int) : VT := if zs.length ≤ 40 then vecI 1 (zs.map lgI) else vecI 0 []

end Go.Proofs.YtmofcbpabdbjlaaGreat

namespace Go.Proofs.YtmofcbpabdbjlaaGreat

set_option maxRecDepth 8000

open Go.RowKit Go.ChangeShapes Go.WideShapes

set_option linter.unusedVariables false

set_option linter.unusedSimpArgs false

theorem spec_num (z : Int) (w : World) : Calls Tryz.prog 50 #[.int .i64 z] w fun e w' => e = .returned (.agg #[.int .i64 z, .int .i64 1, .string ⟨#[]⟩]) ∧ Below w.heap.size w w' := by
  go_enter Tryz.func50, Tryz.ntmps50
  have hO := Own.nil w
  go_wp2_with (first | ((with_reducible refine zac ?_); refine zal rfl hO rfl ?_; (refine nm 0 rfl ?_; clear hO; intro b0 u hO); simp only [zL, zK] at hO) | ((with_reducible refine zab ?_); refine zsb rfl hO rfl _ (by exact at0) rfl ?_; clear hO; intro u hO; simp only [zC, zB] at hO) | fail)
  exact zan rfl hO rfl 0 rfl rfl rfl ⟨rfl, hO.below⟩

set_option maxHeartbeats 2000000 in
theorem spec_logicalVec (A : Option Addr) (n c : Nat) (zs : List Int) (w : World) (h : Sl w 1 A n (ints zs)) (hn : n ≤ 9223372036854775807) : Calls Tryz.prog 43 #[.slice A n c] w (RetV (lvT zs) w) := by
  have hl : zs.length = n := by have := h.len; simpa [ints] using this
  by_cases g : 40 < n
  · have HE : Hid (lvT zs = vecI 0 []) := Lib.hid (by unfold lvT; rw [if_neg (by omega)])
    clear hl
    go_enter Tryz.func43, Tryz.ntmps43
    have hO := Own.nil w
    go_wp2_with (first | ((with_reducible refine zac ?_); refine zal rfl hO rfl ?_; (first | (refine nm 0 rfl ?_; clear hO; intro b0 u hO) | (refine nm 1 rfl ?_; clear hO; intro b1 u hO) | fail); simp only [zL, zK] at hO) | ((with_reducible refine zab ?_); refine zsb rfl hO rfl _ (by exact at1) rfl ?_; clear hO; intro u hO; simp only [zC, zB] at hO) | fail)
    go_loopw [4] (fun i u => i = .int .i64 0 ∧ Own w [box b0 28 [.int .i64 0, .slice none 0 0, .slice none 0 0, .slice none 0 0, .slice none 0 0, .slice none 0 0, .int .i64 0, .int .i64 0], box b1 28 [.int .i64 1, .slice none 0 0, .slice none 0 0, .slice none 0 0, .slice none 0 0, .slice none 0 0, .int .i64 0, .int .i64 0]] u) (fun i _ => 0)
    case atStart => exact ⟨rfl, hO⟩
    case round =>
      clear hO
      obtain ⟨rfl, hO⟩ := hrel
      go_wp2_with (first | ((with_reducible refine zab ?_); refine zsb rfl hO rfl _ (by exact at0) rfl ?_; clear hO; intro u hO; simp only [zC, zB] at hO) | fail)
      obtain ⟨F, hvo, hF⟩ := Own.vec0 u 0
      exact zan rfl hO rfl 0 at0 rfl rfl ⟨_, _, rfl, by rw [HE.out]; exact hvo, (hO.call hF).pick [0] (by decide)⟩
  · have HE : Hid (lvT zs = vecI 1 (zs.map lgI)) := Lib.hid (by unfold lvT; rw [if_pos (by omega)])
    have g' : n ≤ 40 := by omega
    have HL := Lib.hid hl
    clear g hl
    go_enter Tryz.func43, Tryz.ntmps43
    have hO := Own.nil w
    go_wp2_with (first | ((with_reducible refine zac ?_); refine zal rfl hO rfl ?_; (first | (refine nm 0 rfl ?_; clear hO; intro b0 u hO) | (refine nm 1 rfl ?_; clear hO; intro b1 u hO) | fail); simp only [zL, zK] at hO) | ((with_reducible refine zab ?_); refine zsb rfl hO rfl _ (by exact at1) rfl ?_; clear hO; intro u hO; simp only [zC, zB] at hO) | fail)
    replace hO := hO.addNil 35 3
    simp only [List.cons_append, List.nil_append] at hO
    go_loopw [4] (fun i u => ∃ (m : Nat) (A' : Option Addr) (c' : Nat), m ≤ n ∧ i = .int .i64 m ∧ Own w [box b0 28 [.int .i64 0, .slice none 0 0, .slice none 0 0, .slice none 0 0, .slice none 0 0, .slice none 0 0, .int .i64 0, .int .i64 0], box b1 28 [.int .i64 1, .slice A' m c', .slice none 0 0, .slice none 0 0, .slice none 0 0, .slice none 0 0, .int .i64 0, .int .i64 0], row 35 3 (.slice A' m c') m (itc ((zs.take m).map lgI))] u) (fun i _ => n - (intOf i).toNat)
    case atStart => exact ⟨0, none, 0, Nat.zero_le _, rfl, hO⟩
    case round =>
      clear hO
      obtain ⟨m, A', c', hm, rfl, hO⟩ := hrel
      by_cases hlt : m < n
      · have hml : m < zs.length := by rw [HL.out]; exact hlt
        have HS := Lib.hid (itc_map_succ lgI hml)
        obtain ⟨b, off, rfl, hb, d0⟩ := h.nt (Below.refl _ _) hlt hml
        obtain ⟨z, hz⟩ : ∃ z, zs[m] = z := ⟨_, rfl⟩
        rw [hz] at d0 HS
        clear hz hml
        have CI := fun u => zbj z 0 1 u
        by_cases hzz : z = 0 ∨ z = 1
        · have HI : inI z 0 1 = true := inI_true (by omega)
          have HG : Hid (itc1 (lgI z) = [.int .i64 z, .int .i64 1, .string ⟨#[]⟩]) := Lib.hid (by unfold lgI; rw [if_pos hzz]; rfl)
          rw [HG.out] at HS
          rw [HI] at CI
          clear hzz HI
          go_upto_region 6 with (first | ((with_reducible refine zac ?_); refine zal rfl hO rfl ?_; (refine nm 3 rfl ?_; clear hO; intro b3 u hO); simp only [zL, zK] at hO) | ((with_reducible refine zab ?_); refine zsb rfl hO rfl _ (by exact at3) rfl ?_; clear hO; intro u hO; simp only [zC, zB] at hO) | fail)
          have e0 := (hO.old hb).trans d0
          go_upto_region 8 with (first | ((with_reducible refine (CI _).mono ?_); rintro e u ⟨rfl, hb⟩; subst hb) | ((with_reducible refine (spec_num _ _).mono ?_); rintro e u ⟨rfl, hb⟩; (replace hO := hO.step hb; clear hb)) | ((with_reducible refine zab ?_); refine zsb rfl hO rfl _ (by exact at3) rfl ?_; clear hO; intro u hO; simp only [zC, zB] at hO) | fail)
          clear e0
          go_wp2_with (first | ((with_reducible refine zaa ?_); refine zlb rfl hO rfl _ (by exact at3) ?_) | ((with_reducible refine zaa ?_); refine zlf rfl hO rfl _ (by exact at1) ?_) | ((with_reducible refine zab ?_); refine zsf rfl hO rfl _ (by exact at1) (zM rfl) ?_; clear hO; intro u hO; simp only [zC, zB] at hO) | ((with_reducible refine zao ?_); refine zaw (cs := [.int .i64 z, .int .i64 1, .string ⟨#[]⟩]) hO rfl (by rfl) (by simp only [Act.eval, zJ, zF, zD, zE, zP]; rfl) rfl rfl (zM rfl) rfl (fun b => by simp only [Act.put, zA, zB, zC]; rfl) ?_; clear hO; intro bb u hO; simp only [zL, zK] at hO) | ((with_reducible refine za2 ?_); refine zav hO rfl (by rfl) rfl rfl _ (by exact at2) _ (by exact at4) (by rfl) (by simp [Value.oneCell']) (by omega) (by omega) rfl (fun A' c' => by simp only [Act.put, zA, zB, zC]; rfl) ?_; clear hO; intro A' c' u hO; simp only [zC, zB] at hO) | fail)
          replace hO := hO.pick [0, 1, 2] (by decide)
          simp only [zN, zO, zE, zD] at hO
          rw [← HS.out] at hO
          go_roundw
          case rel => exact ⟨m + 1, _, _, by omega, by go_num, hO⟩
          case measure => simp [intOf]; omega
        · have HI : inI z 0 1 = false := inI_false (by omega)
          have HG : Hid (itc1 (lgI z) = [.int .i64 0, .int .i64 0, .string ⟨#[]⟩]) := Lib.hid (by unfold lgI; rw [if_neg hzz]; rfl)
          rw [HG.out] at HS
          rw [HI] at CI
          clear hzz HI
          go_upto_region 6 with (first | ((with_reducible refine zac ?_); refine zal rfl hO rfl ?_; (refine nm 3 rfl ?_; clear hO; intro b3 u hO); simp only [zL, zK] at hO) | ((with_reducible refine zab ?_); refine zsb rfl hO rfl _ (by exact at3) rfl ?_; clear hO; intro u hO; simp only [zC, zB] at hO) | fail)
          have e0 := (hO.old hb).trans d0
          go_upto_region 8 with (first | ((with_reducible refine (CI _).mono ?_); rintro e u ⟨rfl, hb⟩; subst hb) | fail)
          clear e0
          go_wp2_with (first | ((with_reducible refine zaa ?_); refine zlb rfl hO rfl _ (by exact at3) ?_) | ((with_reducible refine zaa ?_); refine zlf rfl hO rfl _ (by exact at1) ?_) | ((with_reducible refine zab ?_); refine zsf rfl hO rfl _ (by exact at1) (zM rfl) ?_; clear hO; intro u hO; simp only [zC, zB] at hO) | ((with_reducible refine zao ?_); refine zaw (cs := [.int .i64 0, .int .i64 0, .string ⟨#[]⟩]) hO rfl (by rfl) (by simp only [Act.eval, zJ, zF, zD, zE, zP]; rfl) rfl rfl (zM rfl) rfl (fun b => by simp only [Act.put, zA, zB, zC]; rfl) ?_; clear hO; intro bb u hO; simp only [zL, zK] at hO) | ((with_reducible refine za2 ?_); refine zav hO rfl (by rfl) rfl rfl _ (by exact at2) _ (by exact at4) (by rfl) (by simp [Value.oneCell']) (by omega) (by omega) rfl (fun A' c' => by simp only [Act.put, zA, zB, zC]; rfl) ?_; clear hO; intro A' c' u hO; simp only [zC, zB] at hO) | fail)
          replace hO := hO.pick [0, 1, 2] (by decide)
          simp only [zN, zO, zE, zD] at hO
          rw [← HS.out] at hO
          go_roundw
          case rel => exact ⟨m + 1, _, _, by omega, by go_num, hO⟩
          case measure => simp [intOf]; omega
      · have hmn : m = n := by omega
        have HT : Hid (zs.take m = zs) := Lib.hid (List.take_of_length_le (by rw [HL.out]; omega))
        have HN : Hid (m = (zs.map lgI).length) := Lib.hid (by rw [List.length_map, HL.out]; exact hmn)
        rw [HT.out] at hO
        subst hmn
        go_wp2_with (first | ((with_reducible refine zaa ?_); refine zlb rfl hO rfl _ (by exact at1) ?_) | ((with_reducible refine zab ?_); refine zsb rfl hO rfl _ (by exact at0) rfl ?_; clear hO; intro u hO; simp only [zC, zB] at hO) | fail)
        have hR := hO.pick [2] (by decide)
        simp only [List.filterMap_cons, List.filterMap_nil, List.getElem?_cons_zero, List.getElem?_cons_succ] at hR
        have hq := HN.out
        refine zan rfl hO rfl 0 at0 rfl rfl ?_
        clear hO
        rw [hq] at hR ⊢
        obtain ⟨F, hvo, hF⟩ := Own.vecI hR 1
        exact ⟨_, _, rfl, by rw [HE.out]; exact hvo, hF⟩

end Go.Proofs.YtmofcbpabdbjlaaGreat
