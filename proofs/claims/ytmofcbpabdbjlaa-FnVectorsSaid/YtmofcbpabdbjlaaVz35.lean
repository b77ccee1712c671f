/-
  What is proved: when two lists of texts, of items, two trees are the same; what sameTexts, equal (of the program), l4Strings, l4Same (of the reference) return; the heads of two vectors compared (the first region of equal and of l4Same).
  Condition: none beyond those of the theorems.
-/
import Derived.Deep.Cut
import Derived.Test.YtmofcbpabdbjlaaVz3
import Derived.Test.YtmofcbpabdbjlaaVz6
import Derived.Test.YtmofcbpabdbjlaaVz19
namespace Go.Proofs.Ytmofcbpabdbjlaa

set_option maxRecDepth 8000

open Go.RowKit Go.ChangeShapes Go.WideShapes

set_option linter.unusedVariables false

set_option linter.unusedSimpArgs false

/-- two lists are the same, element by element -/
def eqL {α : Type} (f : α → α → Bool) : List α → List α → Bool
  | [], [] => true
  | a :: xs, b :: ys => f a b && eqL f xs ys
  | [], _ :: _ => false
  | _ :: _, [] => false

theorem eqL_len {α : Type} (f : α → α → Bool) : ∀ {l l' : List α}, l.length ≠ l'.length → eqL f l l' = false
  | [], [], h => absurd rfl h
  | [], _ :: _, _ => rfl
  | _ :: _, [], _ => rfl
  | a :: xs, b :: ys, h => by
    rw [eqL, eqL_len f (l := xs) (l' := ys) (by simpa using h), Bool.and_false]

theorem eqL_drop {α : Type} (f : α → α → Bool) {l l' : List α} {m : Nat} (h : m < l.length) (h' : m < l'.length) : eqL f (l.drop m) (l'.drop m) = (f (l[m]'h) (l'[m]'h') && eqL f (l.drop (m + 1)) (l'.drop (m + 1))) := by
  rw [List.drop_eq_getElem_cons h, List.drop_eq_getElem_cons h', eqL]

theorem eqL_end {α : Type} (f : α → α → Bool) {l l' : List α} {m : Nat} (h : l.length = m) (h' : l'.length = m) : eqL f (l.drop m) (l'.drop m) = true := by
  rw [List.drop_eq_nil_of_le (by omega), List.drop_eq_nil_of_le (by omega), eqL]

def eqB (a b : ByteArray) : Bool := a.toList == b.toList

def eqSS (l l' : List ByteArray) : Bool := eqL eqB l l'

set_option maxRecDepth 20000 in
set_option maxHeartbeats 1000000 in
theorem spec_strings (A A' : Option Addr) (n n' c c' : Nat) (l l' : List ByteArray) (w : World) (h : Sl w 1 A n (stc l)) (h' : Sl w 1 A' n' (stc l')) (hn : n ≤ 9223372036854775807) (hn' : n' ≤ 9223372036854775807) :
    Calls Try.prog 188 #[.slice A n c, .slice A' n' c'] w fun e w' => e = .returned (.bool (eqSS l l')) ∧ Below w.heap.size w w' := by
  have hl : l.length = n := by have := h.len; simpa [stc] using this
  have hl' : l'.length = n' := by have := h'.len; simpa [stc] using this
  by_cases g : n = n'
  · subst g
    have HL := Lib.hid hl
    have HL' := Lib.hid hl'
    clear hl hl'
    go_enter Try.func188, Try.ntmps188
    have hO := Own.nil w
    go_wp2_with fail
    go_loopw [5] (fun i u => ∃ m : Nat, m ≤ n ∧ i = .int .i64 m ∧ Hid (eqSS l l' = eqL eqB (l.drop m) (l'.drop m)) ∧ Own w [] u) (fun i _ => n - (intOf i).toNat)
    case atStart => exact ⟨0, Nat.zero_le _, rfl, Lib.hid rfl, hO⟩
    case round =>
      clear hO
      obtain ⟨m, hm, rfl, HE, hO⟩ := hrel
      by_cases hlt : m < n
      · have hml : m < l.length := by rw [HL.out]; exact hlt
        have hml' : m < l'.length := by rw [HL'.out]; exact hlt
        obtain ⟨b, off, rfl, hb, c0⟩ := Sl.txn h (Below.refl _ _) hlt hml
        obtain ⟨b', off', rfl, hb', d0⟩ := Sl.txn h' (Below.refl _ _) hlt hml'
        have HD := Lib.hid (eqL_drop eqB hml hml')
        obtain ⟨x, hx⟩ : ∃ x, l[m] = x := ⟨_, rfl⟩
        obtain ⟨y, hy⟩ : ∃ y, l'[m] = y := ⟨_, rfl⟩
        rw [hx] at c0 HD
        rw [hy] at d0 HD
        clear hx hy hml hml'
        have i1 : (0 : Int) ≤ (m : Int) := by omega
        have i2 : (m : Int) < (n : Int) := by omega
        cases q : (x.toList == y.toList)
        · have HF : Hid (eqSS l l' = false) := Lib.hid (by rw [HE.out, HD.out]; unfold eqB; rw [q]; rfl)
          go_wp2_with fail
          refine J.wp_region_c (n := 26) [0, 1, 2, 3, 4, 5, 6, 7, 8] [] (deps := fun i => [[], [], [0, 1], [0, 1, 2], [], [], [4, 5], [4, 5, 6], [0, 1, 2, 3, 4, 5, 6, 7]].getD i []) (fun _ _ _ => True) (r := 0) (lst := #[true, true, true, true, true, true, true, true, true]) (by kernel_rfl) (by kernel_rfl) (by kernel_rfl) rfl (by decide) (by kernel_rfl) hO ?_
          refine zcp (h := ?_)
          refine zcp (h := ?_)
          refine zcp (h := ?_)
          refine zcc (f := fun M u hO K hK => by ((have e0 := (hO.old hb).trans c0; have e1 := (hO.old hb').trans d0; simp only [wp_at_zero, wp_at_succ]; go_step; exact hK _ hO))) (h := ?_)
          refine zcp (h := ?_)
          refine zcp (h := ?_)
          refine zcp (h := ?_)
          refine zcc (f := fun M u hO K hK => by ((have e0 := (hO.old hb).trans c0; have e1 := (hO.old hb').trans d0; simp only [wp_at_zero, wp_at_succ]; go_step; exact hK _ hO))) (h := ?_)
          refine zcp (h := ?_)
          refine J.Chain.nil ⟨?_, ?_⟩
          · exact J.Each.nil
          intro vs u hO hF
          clear hF
          simp only [List.flatMap_cons, List.flatMap_nil, List.append_nil, zL, zK] at hO
          simp only [J.putL]
          clear vs
          refine wpAny_done (by kernel_rfl) ?_ _
          go_wp2_with fail
          go_wp2_with fail
          go_ret
          exact ⟨by rw [HF.out]; rfl, hO.below⟩
        · have HT : Hid (eqSS l l' = eqL eqB (l.drop (m + 1)) (l'.drop (m + 1))) := Lib.hid (by rw [HE.out, HD.out]; unfold eqB; rw [q, Bool.true_and])
          go_wp2_with fail
          refine J.wp_region_c (n := 26) [0, 1, 2, 3, 4, 5, 6, 7, 8] [] (deps := fun i => [[], [], [0, 1], [0, 1, 2], [], [], [4, 5], [4, 5, 6], [0, 1, 2, 3, 4, 5, 6, 7]].getD i []) (fun _ _ _ => True) (r := 0) (lst := #[true, true, true, true, true, true, true, true, true]) (by kernel_rfl) (by kernel_rfl) (by kernel_rfl) rfl (by decide) (by kernel_rfl) hO ?_
          refine zcp (h := ?_)
          refine zcp (h := ?_)
          refine zcp (h := ?_)
          refine zcc (f := fun M u hO K hK => by ((have e0 := (hO.old hb).trans c0; have e1 := (hO.old hb').trans d0; simp only [wp_at_zero, wp_at_succ]; go_step; exact hK _ hO))) (h := ?_)
          refine zcp (h := ?_)
          refine zcp (h := ?_)
          refine zcp (h := ?_)
          refine zcc (f := fun M u hO K hK => by ((have e0 := (hO.old hb).trans c0; have e1 := (hO.old hb').trans d0; simp only [wp_at_zero, wp_at_succ]; go_step; exact hK _ hO))) (h := ?_)
          refine zcp (h := ?_)
          refine J.Chain.nil ⟨?_, ?_⟩
          · exact J.Each.nil
          intro vs u hO hF
          clear hF
          simp only [List.flatMap_cons, List.flatMap_nil, List.append_nil, zL, zK] at hO
          simp only [J.putL]
          clear vs
          refine wpAny_done (by kernel_rfl) ?_ _
          go_wp2_with fail
          go_roundw
          case rel => exact ⟨m + 1, by omega, by go_num, HT, hO⟩
          case measure => simp [intOf]; omega
      · have hmn : m = n := by omega
        subst hmn
        have HT : Hid (eqSS l l' = true) := Lib.hid (by rw [HE.out, eqL_end eqB HL.out HL'.out])
        go_wp2_with fail
        go_ret
        exact ⟨by rw [HT.out]; rfl, hO.below⟩
  · have HF : Hid (eqSS l l' = false) := Lib.hid (eqL_len eqB (by omega))
    have q1 : ((n : Int) != (n' : Int)) = true := by simp; omega
    clear hl hl'
    go_enter Try.func188, Try.ntmps188
    have hO := Own.nil w
    go_wp2_with fail
    go_ret
    exact ⟨by rw [HF.out]; rfl, hO.below⟩

end Go.Proofs.Ytmofcbpabdbjlaa

namespace Go.Proofs.Ytmofcbpabdbjlaa

set_option maxRecDepth 8000

open Go.RowKit Go.ChangeShapes Go.WideShapes Go.Deep

set_option linter.unusedVariables false

set_option linter.unusedSimpArgs false

set_option maxRecDepth 20000 in
set_option maxHeartbeats 4000000 in
theorem eq_s1 {u0 u1 u4 u5 u6 u7 u8 u9 u10 u11 u12 u13 u14 u15 u16 u17 u18 u19 u20 u21 u22 u23 u24 u25 u26 u27 u28 u29 u30 u31 u32 u33 u34 u35 u36 u37 u38 u39 u40 u41 u42 u43 u44 u45 u46 u47 u48 u49 u50 u51 u52 u53 u54 u55 u56 u57 u58 u59 u60 u61 u62 u63 u64 u65 u66 u67 u68 u69 u70 u71 u72 u73 u74 u75 u76 u77 u78 u79 u80 u81 u82 u83 u84 u85 u86 u87 u88 u89 u90 u91 u92 u93 u94 u95 u96 u97 u98 u99 u100 u101 u102 u103 u104 : Value} {w0 wc : World} {b0 b1 ni ci np cp nn cn nc cc nl cl mi di mp dp mn dn mc dc ml dl : Nat} {k k2 c c2 e e2 : Int} {bn bc bl : Bool} {Ai Ap An Ac Al Bi Bp Bn Bc Bl : Option Addr} (Cn : ∀ u, Below w0.heap.size w0 u → Calls Try.prog 188 #[.slice An nn cn, .slice Bn mn dn] u fun e w' => e = .returned (.bool bn) ∧ Below u.heap.size u w') (Cc : ∀ u, Below w0.heap.size w0 u → Calls Try.prog 188 #[.slice Ac nc cc, .slice Bc mc dc] u fun e w' => e = .returned (.bool bc) ∧ Below u.heap.size u w') (Cl : ∀ u, Below w0.heap.size w0 u → Calls Try.prog 188 #[.slice Al nl cl, .slice Bl ml dl] u fun e w' => e = .returned (.bool bl) ∧ Below u.heap.size u w') (hO : Own w0 [box b0 29 [.int .i64 k, .slice Ai ni ci, .slice Ap np cp, .slice An nn cn, .slice Ac nc cc, .slice Al nl cl, .int .i64 c, .int .i64 e], box b1 29 [.int .i64 k2, .slice Bi mi di, .slice Bp mp dp, .slice Bn mn dn, .slice Bc mc dc, .slice Bl ml dl, .int .i64 c2, .int .i64 e2]] wc) {J : Act → World → Prop} {Q' : Exit → Act → World → Prop}
    (hJ : ∀ (c' : Bool) (x7 x8 x9 x10 x11 x12 x13 x14 x15 x16 x17 x18 x19 x20 x21 x22 x23 x24 x25 x26 x27 x28 x29 x30 x31 x32 x33 x34 x35 x36 x37 x38 x39 x40 x41 x42 x43 x44 x45 x46 x47 x48 x49 x50 x51 x52 x53 x54 x55 x56 x57 x58 x59 x60 x61 x62 x63 x64 x65 x66 : Value) (wx : World), c' = (!((k == k2) && ((c == c2) && ((e == e2) && (bn && (bc && (bl && ((ni == mi) && (np == mp))))))))) → Own w0 [box b0 29 [.int .i64 k, .slice Ai ni ci, .slice Ap np cp, .slice An nn cn, .slice Ac nc cc, .slice Al nl cl, .int .i64 c, .int .i64 e], box b1 29 [.int .i64 k2, .slice Bi mi di, .slice Bp mp dp, .slice Bn mn dn, .slice Bc mc dc, .slice Bl ml dl, .int .i64 c2, .int .i64 e2]] wx → J ⟨(u0 :: u1 :: .pointer (some ⟨b0, 0, none⟩) :: .pointer (some ⟨b1, 0, none⟩) :: u4 :: u5 :: u6 :: x7 :: x8 :: x9 :: x10 :: x11 :: x12 :: x13 :: x14 :: x15 :: x16 :: x17 :: x18 :: x19 :: x20 :: x21 :: x22 :: x23 :: x24 :: x25 :: x26 :: x27 :: x28 :: x29 :: x30 :: x31 :: x32 :: x33 :: x34 :: x35 :: x36 :: x37 :: x38 :: x39 :: x40 :: x41 :: x42 :: x43 :: x44 :: x45 :: x46 :: x47 :: x48 :: x49 :: x50 :: x51 :: x52 :: x53 :: x54 :: x55 :: x56 :: x57 :: x58 :: x59 :: x60 :: x61 :: x62 :: x63 :: x64 :: x65 :: x66 :: .bool c' :: u68 :: u69 :: u70 :: u71 :: u72 :: u73 :: u74 :: u75 :: u76 :: u77 :: u78 :: u79 :: u80 :: u81 :: u82 :: u83 :: u84 :: u85 :: u86 :: u87 :: u88 :: u89 :: u90 :: u91 :: u92 :: u93 :: u94 :: u95 :: u96 :: u97 :: u98 :: u99 :: u100 :: u101 :: u102 :: u103 :: u104 :: []).toArray, []⟩ wx) :
    Code.wp Try.prog (((Try.f134.body).bind (zaz 1)).getD .skip) (Exit.then J Q') ⟨(u0 :: u1 :: .pointer (some ⟨b0, 0, none⟩) :: .pointer (some ⟨b1, 0, none⟩) :: u4 :: u5 :: u6 :: u7 :: u8 :: u9 :: u10 :: u11 :: u12 :: u13 :: u14 :: u15 :: u16 :: u17 :: u18 :: u19 :: u20 :: u21 :: u22 :: u23 :: u24 :: u25 :: u26 :: u27 :: u28 :: u29 :: u30 :: u31 :: u32 :: u33 :: u34 :: u35 :: u36 :: u37 :: u38 :: u39 :: u40 :: u41 :: u42 :: u43 :: u44 :: u45 :: u46 :: u47 :: u48 :: u49 :: u50 :: u51 :: u52 :: u53 :: u54 :: u55 :: u56 :: u57 :: u58 :: u59 :: u60 :: u61 :: u62 :: u63 :: u64 :: u65 :: u66 :: u67 :: u68 :: u69 :: u70 :: u71 :: u72 :: u73 :: u74 :: u75 :: u76 :: u77 :: u78 :: u79 :: u80 :: u81 :: u82 :: u83 :: u84 :: u85 :: u86 :: u87 :: u88 :: u89 :: u90 :: u91 :: u92 :: u93 :: u94 :: u95 :: u96 :: u97 :: u98 :: u99 :: u100 :: u101 :: u102 :: u103 :: u104 :: []).toArray, []⟩ wc := by
  conv => arg 2; whnf
  skip
  by_cases pk : k = k2
  case neg =>
    have qk : (k != k2) = true := by simp [pk]
    have rk : (k == k2) = false := by simp [pk]
    clear pk
    go_wp2_with (first | ((with_reducible refine zaa ?_); refine zlf rfl hO rfl _ (by (first | exact at0 | exact at1 | fail)) ?_) | fail)
    exact hJ _ _ _ _ _ _ _ _ _ _ _ _ _ _ _ _ _ _ _ _ _ _ _ _ _ _ _ _ _ _ _ _ _ _ _ _ _ _ _ _ _ _ _ _ _ _ _ _ _ _ _ _ _ _ _ _ _ _ _ _ _ _ (by (simp_all; done)) hO
  subst pk
  by_cases pi : ni = mi
  case neg =>
    have qi : ((ni : Int) != (mi : Int)) = true := by rw [bne_iff_ne]; intro hx; exact pi (Int.ofNat.inj hx)
    have ri : (ni == mi) = false := by simp [pi]
    clear pi
    go_wp2_with (first | ((with_reducible refine zaa ?_); refine zlf rfl hO rfl _ (by (first | exact at0 | exact at1 | fail)) ?_) | fail)
    exact hJ _ _ _ _ _ _ _ _ _ _ _ _ _ _ _ _ _ _ _ _ _ _ _ _ _ _ _ _ _ _ _ _ _ _ _ _ _ _ _ _ _ _ _ _ _ _ _ _ _ _ _ _ _ _ _ _ _ _ _ _ _ _ (by (simp_all; done)) hO
  subst pi
  by_cases pp : np = mp
  case neg =>
    have qp : ((np : Int) != (mp : Int)) = true := by rw [bne_iff_ne]; intro hx; exact pp (Int.ofNat.inj hx)
    have rp : (np == mp) = false := by simp [pp]
    clear pp
    go_wp2_with (first | ((with_reducible refine zaa ?_); refine zlf rfl hO rfl _ (by (first | exact at0 | exact at1 | fail)) ?_) | fail)
    exact hJ _ _ _ _ _ _ _ _ _ _ _ _ _ _ _ _ _ _ _ _ _ _ _ _ _ _ _ _ _ _ _ _ _ _ _ _ _ _ _ _ _ _ _ _ _ _ _ _ _ _ _ _ _ _ _ _ _ _ _ _ _ _ (by (simp_all; done)) hO
  subst pp
  by_cases pc : c = c2
  case neg =>
    have qc : (c != c2) = true := by simp [pc]
    have rc : (c == c2) = false := by simp [pc]
    clear pc
    go_wp2_with (first | ((with_reducible refine zaa ?_); refine zlf rfl hO rfl _ (by (first | exact at0 | exact at1 | fail)) ?_) | fail)
    exact hJ _ _ _ _ _ _ _ _ _ _ _ _ _ _ _ _ _ _ _ _ _ _ _ _ _ _ _ _ _ _ _ _ _ _ _ _ _ _ _ _ _ _ _ _ _ _ _ _ _ _ _ _ _ _ _ _ _ _ _ _ _ _ (by (simp_all; done)) hO
  subst pc
  by_cases pe : e = e2
  case neg =>
    have qe : (e != e2) = true := by simp [pe]
    have re : (e == e2) = false := by simp [pe]
    clear pe
    go_wp2_with (first | ((with_reducible refine zaa ?_); refine zlf rfl hO rfl _ (by (first | exact at0 | exact at1 | fail)) ?_) | fail)
    exact hJ _ _ _ _ _ _ _ _ _ _ _ _ _ _ _ _ _ _ _ _ _ _ _ _ _ _ _ _ _ _ _ _ _ _ _ _ _ _ _ _ _ _ _ _ _ _ _ _ _ _ _ _ _ _ _ _ _ _ _ _ _ _ (by (simp_all; done)) hO
  subst pe
  cases bn with
  | false =>
    go_wp2_with (first | ((with_reducible refine (Cn _ hO.below).mono ?_); rintro e u ⟨rfl, hb⟩; (replace hO := hO.step hb; clear hb)) | ((with_reducible refine zaa ?_); refine zlf rfl hO rfl _ (by (first | exact at0 | exact at1 | fail)) ?_) | fail)
    exact hJ _ _ _ _ _ _ _ _ _ _ _ _ _ _ _ _ _ _ _ _ _ _ _ _ _ _ _ _ _ _ _ _ _ _ _ _ _ _ _ _ _ _ _ _ _ _ _ _ _ _ _ _ _ _ _ _ _ _ _ _ _ _ (by (simp; done)) hO
  | true =>
  cases bc with
  | false =>
    go_wp2_with (first | ((with_reducible refine (Cn _ hO.below).mono ?_); rintro e u ⟨rfl, hb⟩; (replace hO := hO.step hb; clear hb)) | ((with_reducible refine (Cc _ hO.below).mono ?_); rintro e u ⟨rfl, hb⟩; (replace hO := hO.step hb; clear hb)) | ((with_reducible refine zaa ?_); refine zlf rfl hO rfl _ (by (first | exact at0 | exact at1 | fail)) ?_) | fail)
    exact hJ _ _ _ _ _ _ _ _ _ _ _ _ _ _ _ _ _ _ _ _ _ _ _ _ _ _ _ _ _ _ _ _ _ _ _ _ _ _ _ _ _ _ _ _ _ _ _ _ _ _ _ _ _ _ _ _ _ _ _ _ _ _ (by (simp; done)) hO
  | true =>
  cases bl with
  | false =>
    go_wp2_with (first | ((with_reducible refine (Cn _ hO.below).mono ?_); rintro e u ⟨rfl, hb⟩; (replace hO := hO.step hb; clear hb)) | ((with_reducible refine (Cc _ hO.below).mono ?_); rintro e u ⟨rfl, hb⟩; (replace hO := hO.step hb; clear hb)) | ((with_reducible refine (Cl _ hO.below).mono ?_); rintro e u ⟨rfl, hb⟩; (replace hO := hO.step hb; clear hb)) | ((with_reducible refine zaa ?_); refine zlf rfl hO rfl _ (by (first | exact at0 | exact at1 | fail)) ?_) | fail)
    exact hJ _ _ _ _ _ _ _ _ _ _ _ _ _ _ _ _ _ _ _ _ _ _ _ _ _ _ _ _ _ _ _ _ _ _ _ _ _ _ _ _ _ _ _ _ _ _ _ _ _ _ _ _ _ _ _ _ _ _ _ _ _ _ (by (simp; done)) hO
  | true =>
  go_wp2_with (first | ((with_reducible refine (Cn _ hO.below).mono ?_); rintro e u ⟨rfl, hb⟩; (replace hO := hO.step hb; clear hb)) | ((with_reducible refine (Cc _ hO.below).mono ?_); rintro e u ⟨rfl, hb⟩; (replace hO := hO.step hb; clear hb)) | ((with_reducible refine (Cl _ hO.below).mono ?_); rintro e u ⟨rfl, hb⟩; (replace hO := hO.step hb; clear hb)) | ((with_reducible refine zaa ?_); refine zlf rfl hO rfl _ (by (first | exact at0 | exact at1 | fail)) ?_) | fail)
  exact hJ _ _ _ _ _ _ _ _ _ _ _ _ _ _ _ _ _ _ _ _ _ _ _ _ _ _ _ _ _ _ _ _ _ _ _ _ _ _ _ _ _ _ _ _ _ _ _ _ _ _ _ _ _ _ _ _ _ _ _ _ _ _ (by (simp; done)) hO

end Go.Proofs.Ytmofcbpabdbjlaa
