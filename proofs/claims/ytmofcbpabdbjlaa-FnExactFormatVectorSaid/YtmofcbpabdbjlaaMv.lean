/-
  What is proved: vectors of items alone as a call hands them back; items of logical values; marks of slices of integers.
  Condition: none beyond those of the theorems.
-/
import Derived.Test.YtmofcbpabdbjlaaVr
import Derived.Test.YtmofcbpabdbjlaaLa
import Derived.Test.YtmofcbpabdbjlaaLd
import Derived.Test.YtmofcbpabdbjlaaJ
import Derived.Test.YtmofcbpabdbjlaaW3
import Derived.Test.YtmofcbpabdbjlaaGcd
import Derived.Test.YtmofcbpabdbjlaaLogic
import Derived.Deep.DrawnRows
namespace Go.Proofs.Ytmofcbpabdbjlaa
set_option maxRecDepth 8000
open Go.RowKit Go.ChangeShapes Go.WideShapes
set_option linter.unusedVariables false
set_option linter.unusedSimpArgs false

def vecI (k : Int) (is : List It) : VT := .mk k is [] [] [] [] 0 0
def lgI (z : Int) : It := if z = 0 ∨ z = 1 then ⟨z, 1, ⟨#[]⟩⟩ else ⟨0, 0, ⟨#[]⟩⟩
def nmI (z : Int) : It := ⟨(Nm.mk z 1).1, (Nm.mk z 1).2, ⟨#[]⟩⟩
def txI (s : ByteArray) : It := ⟨0, 1, s⟩

/-- the eight cells of a vector, written out -/
theorem VO.ex {t : VT} {vs : List Value} {F : List Res} (h : VO t vs F) : ∃ (Ai Ap An Ac Al : Option Addr) (ci cp cn cc cl : Nat), vs = [.int .i64 t.kind, .slice Ai t.items.length ci, .slice Ap t.parts.length cp, .slice An t.names.length cn, .slice Ac t.cls.length cc, .slice Al t.levels.length cl, .int .i64 t.code, .int .i64 t.env] := by
  cases h with
  | mk => exact ⟨_, _, _, _, _, _, _, _, _, _, rfl⟩
theorem RdV.ex {w : World} {t : VT} {vs : List Value} (h : RdV w t vs) : ∃ (Ai Ap An Ac Al : Option Addr) (ci cp cn cc cl : Nat), vs = [.int .i64 t.kind, .slice Ai t.items.length ci, .slice Ap t.parts.length cp, .slice An t.names.length cn, .slice Ac t.cls.length cc, .slice Al t.levels.length cl, .int .i64 t.code, .int .i64 t.env] := by
  cases h with
  | mk => exact ⟨_, _, _, _, _, _, _, _, _, _, rfl⟩

/-- what a call hands back: a vector of its own -/
def RetV (t : VT) (w : World) (e : Ending) (w' : World) : Prop := ∃ vs F, e = .returned (.agg vs.toArray) ∧ VO t vs F ∧ Own w [pack F] w'
/-- what a call hands back: a vector that reads so -/
def RdR (t : VT) (w : World) (e : Ending) (w' : World) : Prop := ∃ vs, e = .returned (.agg vs.toArray) ∧ RdV w' t vs ∧ Below w.heap.size w w'
theorem RetV.rd {t : VT} {w : World} {e : Ending} {w' : World} (h : RetV t w e w') : RdR t w e w' := by
  obtain ⟨vs, F, he, hv, hO⟩ := h
  exact ⟨vs, he, hO.rdp 0 rfl hv, hO.below⟩

/-- a vector of items alone, of the call's own -/
theorem Own.vecI {w0 w : World} {is : List It} {A : Option Addr} {c : Nat} (h : Own w0 [row 83 3 (.slice A is.length c) is.length (itc is)] w) (k : Int) :
    ∃ F, VO (Go.Proofs.Ytmofcbpabdbjlaa.vecI k is) [.int .i64 k, .slice A is.length c, .slice none 0 0, .slice none 0 0, .slice none 0 0, .slice none 0 0, .int .i64 0, .int .i64 0] F ∧ Own w0 [Go.Proofs.Ytmofcbpabdbjlaa.pack F] w := by
  have h1 := (((h.addNil 29 8).addNil 9 1).addNil 9 1).addNil 9 1
  have h2 := Own.pack (F := [_, _, _, _, _]) (L := []) h1
  exact ⟨_, VO.close (ps := []) (ns := []) (cs := []) (ls := []) VL.nil, h2⟩
theorem Own.vec0 (w : World) (k : Int) : ∃ F, VO (Go.Proofs.Ytmofcbpabdbjlaa.vecI k []) [.int .i64 k, .slice none 0 0, .slice none 0 0, .slice none 0 0, .slice none 0 0, .slice none 0 0, .int .i64 0, .int .i64 0] F ∧ Own w [Go.Proofs.Ytmofcbpabdbjlaa.pack F] w :=
  Own.vecI (is := []) ((Own.nil w).addNil 83 3) k

/-- a thing of what the caller had made before -/
def OldBox (w : World) (b : Nat) (cs : List Value) : Prop := b < w.heap.size ∧ ∀ j v, cs[j]? = some v → w.cell? ⟨b, j, none⟩ = some v
theorem Own.oldBox {w0 w : World} {L : List Res} (h : Own w0 L w) (k : Nat) {b : Nat} {t : TypeId} {cs : List Value} (hk : L[k]? = some (box b t cs)) : OldBox w b cs :=
  ⟨(h.lt k hk).2, fun j v hv => by rw [h.cell k hk]; exact hv⟩
section
variable {P : Program} {o : Oper} {a : Act} {w w' w0 : World} {K : Act → World → Prop} {Q : Exit → Act → World → Prop} {L : List Res} {ops : Array Oper} {rest : List Oper}
theorem wp_load_oldbox {b : Nat} {cs : List Value} (hB : OldBox w0 b cs) (hO : Own w0 L w) {ty : TypeId} {x : Operand} (ho : o.op = .load ty x) (hx : a.eval x = .pointer (some ⟨b, 0, none⟩)) {n : Nat} [hT : AggT P ty n] (hn : cs.length = n) {a' : Act} (ha : a.put o.dst (.agg cs.toArray) = a') (h : K a' w) : o.wp P a w K Q := by
  obtain ⟨d, h1, h2, h3⟩ := hT.of
  subst ha hn
  exact wp_load_mid ty x ho b 0 hx cs d (fun j v hv => by rw [Nat.zero_add]; exact (hO.old hB.1).trans (hB.2 j v hv)) h1 h2 h3 h
theorem wpList_load_oldbox {b : Nat} {cs : List Value} (hB : OldBox w0 b cs) (hO : Own w0 L w) {ty : TypeId} {x : Operand} (ho : o.op = .load ty x) (hw : Region.wanted o (yielded ops a.tmps) = true) (hx : a.eval x = .pointer (some ⟨b, 0, none⟩)) {n : Nat} [hT : AggT P ty n] (hn : cs.length = n) {a' : Act} (ha : a.put o.dst (.agg cs.toArray) = a') (h : wpList P ops Q rest a' w) : wpList P ops Q (o :: rest) a w :=
  wpList_of (hw := hw) (wp_load_oldbox hB hO ho hx hn ha h)
theorem wp_load_oldfield {b : Nat} {cs : List Value} (hB : OldBox w0 b cs) (hO : Own w0 L w) {ty : TypeId} {x : Operand} (ho : o.op = .load ty x) {i : Nat} (hx : a.eval x = .pointer (some ⟨b, i, none⟩)) [hT : OneT P ty] {v : Value} (hv : cs[i]? = some v) {a' : Act} (ha : a.put o.dst v = a') (h : K a' w) : o.wp P a w K Q :=
  wp_load_cell ho hx ((hO.old hB.1).trans (hB.2 i v hv)) ha h
theorem wpList_load_oldfield {b : Nat} {cs : List Value} (hB : OldBox w0 b cs) (hO : Own w0 L w) {ty : TypeId} {x : Operand} (ho : o.op = .load ty x) (hw : Region.wanted o (yielded ops a.tmps) = true) {i : Nat} (hx : a.eval x = .pointer (some ⟨b, i, none⟩)) [hT : OneT P ty] {v : Value} (hv : cs[i]? = some v) {a' : Act} (ha : a.put o.dst v = a') (h : wpList P ops Q rest a' w) : wpList P ops Q (o :: rest) a w :=
  wpList_of (hw := hw) (wp_load_oldfield hB hO ho hx hv ha h)
end

theorem impl_logicalItem (z : Int) (w : World) : Calls Try.prog 114 #[.int .i64 z] w fun e w' => e = .returned (.agg #[.int .i64 (lgI z).num, .int .i64 (lgI z).den, .string ⟨#[]⟩]) ∧ Below w.heap.size w w' := by
  by_cases h0 : z = 0
  · subst h0
    go_enter Try.func114, Try.ntmps114
    have hO := Own.nil w
    go_wp2_with (first
      | ((with_reducible refine wpl_alloc ?_); refine wpList_alloc_own rfl (by rfl) hO rfl (fun b => by simp only [Act.put, zA, zB, zC]; rfl) ?_; (refine nm 0 rfl ?_; clear hO; intro b0 u hO); simp only [zL, zK] at hO)
      | ((with_reducible refine wpl_store ?_); refine wpList_store_box rfl (by rfl) hO rfl _ (by exact at0) rfl (by rfl) (by rfl) (by rfl) (by rfl) (by rfl) ?_; clear hO; intro u hO; simp only [zC, zB] at hO)
      | fail)
    exact ret_box rfl hO rfl 0 rfl rfl rfl ⟨rfl, hO.below⟩
  · by_cases h1 : z = 1
    · subst h1
      go_enter Try.func114, Try.ntmps114
      have hO := Own.nil w
      go_wp2_with (first
        | ((with_reducible refine wpl_alloc ?_); refine wpList_alloc_own rfl (by rfl) hO rfl (fun b => by simp only [Act.put, zA, zB, zC]; rfl) ?_; (refine nm 0 rfl ?_; clear hO; intro b0 u hO); simp only [zL, zK] at hO)
        | ((with_reducible refine wpl_store ?_); refine wpList_store_box rfl (by rfl) hO rfl _ (by exact at0) rfl (by rfl) (by rfl) (by rfl) (by rfl) (by rfl) ?_; clear hO; intro u hO; simp only [zC, zB] at hO)
        | fail)
      exact ret_box rfl hO rfl 0 rfl rfl rfl ⟨rfl, hO.below⟩
    · have HE : Hid (lgI z = ⟨0, 0, ⟨#[]⟩⟩) := Lib.hid (by unfold lgI; rw [if_neg (by omega)])
      have g0 : (z == 0) = false := by simp [h0]
      have g1 : (z == 1) = false := by simp [h1]
      go_enter Try.func114, Try.ntmps114
      have hO := Own.nil w
      go_wp2_with (first
        | ((with_reducible refine wpl_alloc ?_); refine wpList_alloc_own rfl (by rfl) hO rfl (fun b => by simp only [Act.put, zA, zB, zC]; rfl) ?_; (refine nm 0 rfl ?_; clear hO; intro b0 u hO); simp only [zL, zK] at hO)
        | ((with_reducible refine wpl_store ?_); refine wpList_store_box rfl (by rfl) hO rfl _ (by exact at0) rfl (by rfl) (by rfl) (by rfl) (by rfl) (by rfl) ?_; clear hO; intro u hO; simp only [zC, zB] at hO)
        | fail)
      exact ret_box rfl hO rfl 0 rfl rfl rfl ⟨by rw [HE.out], hO.below⟩

theorem ints_at {l : List Int} {k : Nat} (h : k < l.length) : (ints l).getD k undef = .int .i64 (l[k]'h) := by
  simp [ints, List.getD_eq_getElem?_getD, h]
theorem Sl.nt {w u : World} {A : Option Addr} {l : List Int} {n : Nat} (h : Sl w 1 A n (ints l)) (hb : Below w.heap.size w u) {i : Nat} (hi : i < n) (hl : i < l.length) : ∃ b off, A = some ⟨b, off, none⟩ ∧ b < w.heap.size ∧ u.cell? ⟨b, off + i, none⟩ = some (.int .i64 (l[i]'hl)) := by
  obtain ⟨b, off, e, hlt, hc⟩ := h.cell1 hi
  rw [ints_at hl] at hc
  exact ⟨b, off, e, hlt, (hb.cell (p := ⟨b, _, none⟩) hlt).trans hc⟩
theorem itc_map_succ {α : Type} (f : α → It) {l : List α} {k : Nat} (h : k < l.length) : itc ((l.take (k + 1)).map f) = itc ((l.take k).map f) ++ itc1 (f l[k]) := by
  rw [take_snoc' h, List.map_append, itc_app]
  simp [itc]

/-- the vectors that the constructors make of a list -/
def lvT (zs : List Int) : VT := if zs.length ≤ 40 then vecI 1 (zs.map lgI) else vecI 0 []
def nvT (zs : List Int) : VT := if zs.length ≤ 40 then vecI 2 (zs.map nmI) else vecI 0 []

theorem lgI_cells (z : Int) : itc1 (lgI z) = [.int .i64 (lgI z).num, .int .i64 (lgI z).den, .string ⟨#[]⟩] := by
  unfold lgI itc1
  split <;> rfl
theorem nmI_cells (z : Int) : itc1 (nmI z) = [.int .i64 (nmI z).num, .int .i64 (nmI z).den, .string ⟨#[]⟩] := rfl

set_option maxHeartbeats 1000000 in
theorem impl_numberVec (A : Option Addr) (n c : Nat) (zs : List Int) (w : World) (h : Sl w 1 A n (ints zs)) (hn : n ≤ 9223372036854775807) (hi : ∀ z ∈ zs, -9223372036854775808 ≤ z ∧ z ≤ 9223372036854775807) : Calls Try.prog 77 #[.slice A n c] w (RetV (nvT zs) w) := by
  have hl : zs.length = n := by have := h.len; simpa [ints] using this
  by_cases g : 40 < n
  · have HE : Hid (nvT zs = vecI 0 []) := Lib.hid (by unfold nvT; rw [if_neg (by omega)])
    clear hl
    go_enter Try.func77, Try.ntmps77
    have hO := Own.nil w
    go_wp2_with (first
      | ((with_reducible refine wpl_alloc ?_); refine wpList_alloc_own rfl (by rfl) hO rfl (fun b => by simp only [Act.put, zA, zB, zC]; rfl) ?_; (refine nm 0 rfl ?_; clear hO; intro b0 u hO); simp only [zL, zK] at hO)
      | ((with_reducible refine wpl_store ?_); refine wpList_store_box rfl (by rfl) hO rfl _ (by exact at0) rfl (by rfl) (by rfl) (by rfl) (by rfl) (by rfl) ?_; clear hO; intro u hO; simp only [zC, zB] at hO)
      | fail)
    obtain ⟨F, hvo, hF⟩ := Own.vec0 u 0
    exact ret_box rfl hO rfl 0 at0 rfl rfl ⟨_, _, rfl, by rw [HE.out]; exact hvo, (hO.call hF).pick [0] (by decide)⟩
  · have HE : Hid (nvT zs = vecI 2 (zs.map nmI)) := Lib.hid (by unfold nvT; rw [if_pos (by omega)])
    have g' : n ≤ 40 := by omega
    have HL := Lib.hid hl
    clear g hl
    go_enter Try.func77, Try.ntmps77
    have hO := Own.nil w
    go_wp2_with (first
      | ((with_reducible refine wpl_alloc ?_); refine wpList_alloc_own rfl (by rfl) hO rfl (fun b => by simp only [Act.put, zA, zB, zC]; rfl) ?_; (first | (refine nm 0 rfl ?_; clear hO; intro b0 u hO) | (refine nm 1 rfl ?_; clear hO; intro b1 u hO) | fail); simp only [zL, zK] at hO)
      | ((with_reducible refine wpl_store ?_); refine wpList_store_box rfl (by rfl) hO rfl _ (by exact at1) rfl (by rfl) (by rfl) (by rfl) (by rfl) (by rfl) ?_; clear hO; intro u hO; simp only [zC, zB] at hO)
      | fail)
    replace hO := hO.addNil 83 3
    simp only [List.cons_append, List.nil_append] at hO
    go_loopw [13] (fun i u => ∃ (m : Nat) (A' : Option Addr) (c' : Nat), m ≤ n ∧ i = .int .i64 m ∧ Own w [box b0 29 [.int .i64 0, .slice none 0 0, .slice none 0 0, .slice none 0 0, .slice none 0 0, .slice none 0 0, .int .i64 0, .int .i64 0], box b1 29 [.int .i64 2, .slice A' m c', .slice none 0 0, .slice none 0 0, .slice none 0 0, .slice none 0 0, .int .i64 0, .int .i64 0], row 83 3 (.slice A' m c') m (itc ((zs.take m).map nmI))] u) (fun i _ => n - (intOf i).toNat)
    case atStart => exact ⟨0, none, 0, Nat.zero_le _, rfl, hO⟩
    case round =>
      clear hO
      obtain ⟨m, A', c', hm, rfl, hO⟩ := hrel
      by_cases hlt : m < n
      · have hml : m < zs.length := by rw [HL.out]; exact hlt
        obtain ⟨b, off, rfl, hb, d0⟩ := h.nt hO.below hlt hml
        have HS := Lib.hid (itc_map_succ nmI hml)
        have hzb := hi _ (List.getElem_mem hml)
        obtain ⟨z, hz⟩ : ∃ z, zs[m] = z := ⟨_, rfl⟩
        rw [hz] at d0 HS hzb
        clear hz hml
        rw [nmI_cells] at HS
        go_wp2_with fail
        clear d0
        refine J.wp_region_c (n := 26) [0, 1, 2, 3] [4] (deps := fun i => [[], [0], [], [2], [2, 3], [], [], []].getD i []) (fun _ _ => (J.freshS 83 [.int .i64 (nmI z).num, .int .i64 (nmI z).den, .string ⟨#[]⟩])) (r := 3) (lst := #[true, true, true, true, true, false, false, false]) (by kernel_rfl) (by kernel_rfl) (by kernel_rfl) rfl (by decide) (by kernel_rfl) hO ?_
        refine J.Chain.cons (by rfl) (by rfl) (fun M u hO K hK => by (simp only [wp_at_zero, wp_at_succ]; go_step; exact hK _ hO)) (by simp only [J.putL, zI, zG, zH, J.dstOf, zF, zD, zE, zS, zQ, zR, Act.put, zA, zB, zC]; rfl) ?_
        refine J.Chain.cons (by rfl) (by rfl) (fun M u hO K hK => by (exact wp_load_field hO rfl rfl _ (by exact at1) (by rfl) (by rfl) (hK _ hO))) (by simp only [J.putL, zI, zG, zH, J.dstOf, zF, zD, zE, zS, zQ, zR, Act.put, zA, zB, zC]; rfl) ?_
        refine J.Chain.cons (by rfl) (by rfl) (fun M u hO K hK => by (simp only [wp_at_zero, wp_at_succ]; go_step; exact hK _ hO)) (by simp only [J.putL, zI, zG, zH, J.dstOf, zF, zD, zE, zS, zQ, zR, Act.put, zA, zB, zC]; rfl) ?_
        refine J.Chain.cons (by rfl) (by rfl) (fun M u hO K hK => by (simp only [wp_at_zero, wp_at_succ]; go_step; refine (impl_make _ _ _ hzb (by omega)).mono ?_; rintro e u ⟨rfl, hb⟩; exact hK _ (hO.step hb))) (by simp only [J.putL, zI, zG, zH, J.dstOf, zF, zD, zE, zS, zQ, zR, Act.put, zA, zB, zC]; rfl) ?_
        refine J.Chain.nil ⟨?_, ?_⟩
        · refine J.Each.cons (by rfl) ?_ ?_; exact ⟨rfl, fun vs M u hO _ K hK => by (refine wp_build_one (cs := [.int .i64 (nmI z).num, .int .i64 (nmI z).den, .string ⟨#[]⟩]) hO rfl (by simp only [Act.eval, zJ, zP, J.putL, zI, zG, zH, J.dstOf, zF, zD, zE, zS, zQ, zR, Act.put, zA, zB, zC]; rfl) rfl rfl (zM rfl) rfl fun b u hO => ?_; exact hK _ _ _ (show (J.freshS 83 [.int .i64 (nmI z).num, .int .i64 (nmI z).den, .string ⟨#[]⟩]) _ from ⟨b, rfl⟩) hO)⟩; exact J.Each.nil
        intro vs u hO hF
        obtain ⟨b2, h4⟩ : J.freshS _ _ (vs 4) := hF 4 (by decide)
        clear hF
        simp only [List.flatMap_cons, List.flatMap_nil, h4, List.append_nil, zL, zK] at hO
        simp only [h4, J.putL, zI, zG, zH, J.dstOf, zF, zD, zE, zS, zQ, zR, Act.put, zA, zB, zC]
        clear h4 vs
        refine J.wpAny_one (i := 5) (by kernel_rfl) (by rfl) rfl fun K hK => ?_
        refine wp_append_box hO rfl rfl rfl _ (by exact at2) _ (by exact at3) (by rfl) (by simp [Value.oneCell']) (by omega) (by omega) rfl ?_
        clear hO
        intro A' c' u hO
        simp only [zC, zB] at hO
        simp only [Act.put, zA, zB, zC]
        refine hK _ _ ?_
        clear hK K
        refine J.wpAny_one (i := 6) (by kernel_rfl) (by rfl) rfl fun K hK => ?_
        simp only [wp_at_zero, wp_at_succ]
        go_step
        refine hK _ _ ?_
        clear hK K
        refine J.wpAny_one (i := 7) (by kernel_rfl) (by rfl) rfl fun K hK => ?_
        (refine wp_store_field hO rfl rfl _ (by exact at1) (zM rfl) (by simp only [Act.eval, zJ, zF, zD, zE, zP]; rfl) (by rfl) (by rfl) (by rfl) ?_; clear hO; intro u hO; simp only [zC, zB] at hO; refine hK _ _ ?_; clear hK K)
        refine wpAny_done (by kernel_rfl) ?_ _
        go_wp2_with (first
          | ((with_reducible refine wpl_alloc ?_); refine wpList_alloc_own rfl (by rfl) hO rfl (fun b => by simp only [Act.put, zA, zB, zC]; rfl) ?_; (first | (refine nm 0 rfl ?_; clear hO; intro b0 u hO) | (refine nm 1 rfl ?_; clear hO; intro b1 u hO) | (refine nm 2 rfl ?_; clear hO; intro b2 u hO) | (refine nm 3 rfl ?_; clear hO; intro b3 u hO)); simp only [zL, zK] at hO)
          | ((with_reducible refine wpl_box ?_); refine wpList_box_own rfl (by rfl) hO rfl rfl (fun b => by simp only [Act.put, zA, zB, zC]; rfl) ?_; (first | (refine nm 0 rfl ?_; clear hO; intro b0 u hO) | (refine nm 1 rfl ?_; clear hO; intro b1 u hO) | (refine nm 2 rfl ?_; clear hO; intro b2 u hO) | (refine nm 3 rfl ?_; clear hO; intro b3 u hO)); simp only [zL, zK] at hO)
          | ((with_reducible refine wpl_load ?_); refine wpList_load_box rfl (by (first | rfl | (simp only [Region.wanted, yielded, *]; go_simp; done) | (simp [Region.wanted, yielded, *]; done) | fail)) hO rfl _ (by (first | exact at0 | exact at1 | exact at2 | exact at3)) (by rfl) (by simp only [Act.put, zA, zB, zC]; rfl) ?_)
          | ((with_reducible refine wpl_load ?_); refine wpList_load_field rfl (by (first | rfl | (simp only [Region.wanted, yielded, *]; go_simp; done) | (simp [Region.wanted, yielded, *]; done) | fail)) hO rfl _ (by (first | exact at0 | exact at1 | exact at2 | exact at3)) (by rfl) (by simp only [Act.put, zA, zB, zC]; rfl) ?_)
          | ((with_reducible refine wpl_store ?_); refine wpList_store_box rfl (by rfl) hO rfl _ (by (first | exact at0 | exact at1 | exact at2 | exact at3)) rfl (by rfl) (by rfl) (by rfl) (by rfl) (by rfl) ?_; clear hO; intro u hO; simp only [zC, zB] at hO)
          | ((with_reducible refine wpl_store ?_); refine wpList_store_field rfl (by rfl) hO rfl _ (by (first | exact at0 | exact at1 | exact at2 | exact at3)) (zM rfl) (by simp only [Act.eval, zJ, zF, zD, zE, zP]; rfl) (by rfl) (by rfl) (by rfl) ?_; clear hO; intro u hO; simp only [zC, zB] at hO)
          | ((with_reducible refine wpl_call ?_); refine wpList_append_str hO rfl (by rfl) rfl rfl _ (by (first | exact at0 | exact at1 | exact at2 | exact at3)) (by omega) rfl (fun A' c' => by simp only [Act.put, zA, zB, zC]; rfl) ?_; clear hO; intro A' c' u hO; simp only [zC, zB] at hO)
          | ((with_reducible refine wpl_call ?_); refine wpList_append_lit hO rfl (by rfl) rfl rfl _ (by (first | exact at0 | exact at1 | exact at2 | exact at3)) (by rfl) (by simp [Value.oneCell']) (by omega) (by omega) rfl (fun A' c' => by simp only [Act.put, zA, zB, zC]; rfl) ?_; clear hO; intro A' c' u hO; simp only [zC, zB] at hO)
          | fail)
        replace hO := hO.pick [0, 1, 2] (by decide)
        simp only [zN, zO, zE, zD] at hO
        rw [← HS.out] at hO
        go_roundw
        case rel => exact ⟨m + 1, _, _, by omega, by go_num, hO⟩
        case measure => simp [intOf]; omega
      · have hmn : m = n := by omega
        have HT : Hid (zs.take m = zs) := Lib.hid (List.take_of_length_le (by rw [HL.out]; omega))
        have HN : Hid (m = (zs.map nmI).length) := Lib.hid (by rw [List.length_map, HL.out]; exact hmn)
        rw [HT.out] at hO
        subst hmn
        go_wp2_with (first
          | ((with_reducible refine wpl_load ?_); refine wpList_load_box rfl (by rfl) hO rfl _ (by exact at1) (by rfl) (by simp only [Act.put, zA, zB, zC]; rfl) ?_)
          | ((with_reducible refine wpl_store ?_); refine wpList_store_box rfl (by rfl) hO rfl _ (by exact at0) rfl (by rfl) (by rfl) (by rfl) (by rfl) (by rfl) ?_; clear hO; intro u hO; simp only [zC, zB] at hO)
          | fail)
        have hR := hO.pick [2] (by decide)
        simp only [List.filterMap_cons, List.filterMap_nil, List.getElem?_cons_zero, List.getElem?_cons_succ] at hR
        have hq := HN.out
        refine ret_box rfl hO rfl 0 at0 rfl rfl ?_
        clear hO
        rw [hq] at hR ⊢
        obtain ⟨F, hvo, hF⟩ := Own.vecI hR 2
        exact ⟨_, _, rfl, by rw [HE.out]; exact hvo, hF⟩

end Go.Proofs.Ytmofcbpabdbjlaa
