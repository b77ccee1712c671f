/-
  What is proved: what the functions on three-valued logical values (NotLogical, AndLogical, OrLogical, XorLogical, of the program and of the reference) return, for all integers. what the functions on slices of integers (AllLogical, AnyLogical, and the statements' copies and comparisons of such slices) return; short forms of the laws of memory and of chains; conditions that a computation shows are proved where they are used; what the reference's readers of codes return (l1New, l1Byte, l1Below, l1Once, l1Pick, l1PickInt): some value of a known range; the code is left as it was; plain facts on fractions of integers in lowest terms (greatest common divisors, reducing, floors); no program in sight.
  Condition: the slices that are copied hold at most 1048576 numbers; codes of at most 1048576 bytes.
-/
import Derived.Deep.Cut
import Derived.Deep.DrawnRows
import Derived.Deep.Light
import Derived.Lib.Hide
import Derived.WalkSmall
import Init
import Derived.Test.YtmofcbpabdbjlaaGreatMz1
import Derived.Test.YtmofcbpabdbjlaaGreatMz2
import Derived.Test.YtmofcbpabdbjlaaGreatMz3
namespace Go.Proofs.YtmofcbpabdbjlaaGreat

set_option maxRecDepth 8000

section

open Go.RowKit

end

section

open Go.RowKit Go.ChangeShapes Go.WideShapes

def ints (zs : List Int) : List Value := zs.map (Value.int .i64)

end

end Go.Proofs.YtmofcbpabdbjlaaGreat

namespace Go.Proofs.YtmofcbpabdbjlaaGreat

set_option maxRecDepth 8000

open Go Go.RowKit

section

variable {P : Program} {o : Oper} {a : Act} {w w0 : World} {Q : Exit → Act → World → Prop} {L : List Res} {ops : Array Oper} {rest : List Oper}

theorem zlb {ty : TypeId} {x : Operand} (ho : o.op = .load ty x) (hO : Own w0 L w) {b : Nat} (hx : a.eval x = .pointer (some ⟨b, 0, none⟩)) (k : Nat) {t : TypeId} {cs : List Value} (hk : L[k]? = some (box b t cs)) {n : Nat} [hT : AggT P ty n] {a' : Act} (h : wpList P ops Q rest a' w)
    (hw : Region.wanted o (yielded ops a.tmps) = true := by rfl) (hn : cs.length = n := by rfl) (ha : a.put o.dst (.agg cs.toArray) = a' := by simp only [Act.put, zA, zB, zC]; rfl) : wpList P ops Q (o :: rest) a w := zay ho hw hO hx k hk hn ha h

theorem zlf {ty : TypeId} {x : Operand} (ho : o.op = .load ty x) (hO : Own w0 L w) {b i : Nat} (hx : a.eval x = .pointer (some ⟨b, i, none⟩)) (k : Nat) {t : TypeId} {cs : List Value} (hk : L[k]? = some (box b t cs)) [hT : OneT P ty] {v : Value} {a' : Act} (h : wpList P ops Q rest a' w)
    (hw : Region.wanted o (yielded ops a.tmps) = true := by rfl) (hv : cs[i]? = some v := by rfl) (ha : a.put o.dst v = a' := by simp only [Act.put, zA, zB, zC]; rfl) : wpList P ops Q (o :: rest) a w := zag ho hw hO hx k hk hv ha h

theorem zsb {ty : TypeId} {x y : Operand} (ho : o.op = .store ty x y) (hO : Own w0 L w) {b : Nat} (hx : a.eval x = .pointer (some ⟨b, 0, none⟩)) (k : Nat) {t : TypeId} {cs : List Value} (hk : L[k]? = some (box b t cs)) {vs : List Value} (hy : a.eval y = .agg vs.toArray) {n : Nat} [hT : AggT P ty n] {L' : List Res} (h : ∀ w, Own w0 L' w → wpList P ops Q rest a w)
    (hw : Region.wanted o (yielded ops a.tmps) = true := by rfl) (hn : vs.length = cs.length := by rfl) (hn2 : vs.length = n := by rfl) (h1 : vs.all (·.oneCell') = true := by rfl) (hL : L.set k (box b t vs) = L' := by rfl) (hd : o.dst = none := by rfl) : wpList P ops Q (o :: rest) a w := wpList_store_box ho hw hO hx k hk hy hn hn2 h1 hL hd h

theorem zsc {ty : TypeId} {x y : Operand} (ho : o.op = .store ty x y) (hO : Own w0 L w) {b : Nat} (hx : a.eval x = .pointer (some ⟨b, 0, none⟩)) (k : Nat) {t : TypeId} {cs : List Value} (hk : L[k]? = some (box b t cs)) {vs : List Value} {n : Nat} [hT : AggT P ty n] {L' : List Res} (h : ∀ w, Own w0 L' w → wpList P ops Q rest a w)
    (hw : Region.wanted o (yielded ops a.tmps) = true := by rfl) (hy : a.eval y = .agg vs.toArray := by simp only [Act.eval, zJ, zF, zD, zE, zP]; rfl) (hn : vs.length = cs.length := by rfl) (hn2 : vs.length = n := by rfl) (h1 : vs.all (·.oneCell') = true := by rfl) (hL : L.set k (box b t vs) = L' := by rfl) (hd : o.dst = none := by rfl) : wpList P ops Q (o :: rest) a w := wpList_store_box ho hw hO hx k hk hy hn hn2 h1 hL hd h

theorem zsf {ty : TypeId} {x y : Operand} (ho : o.op = .store ty x y) (hO : Own w0 L w) {b i : Nat} (hx : a.eval x = .pointer (some ⟨b, i, none⟩)) (k : Nat) {t : TypeId} {cs : List Value} (hk : L[k]? = some (box b t cs)) (hi : i < cs.length) {v : Value} [hT : OneT P ty] {L' : List Res} (h : ∀ w, Own w0 L' w → wpList P ops Q rest a w)
    (hw : Region.wanted o (yielded ops a.tmps) = true := by rfl) (hy : a.eval y = v := by simp only [Act.eval, zJ, zF, zD, zE, zP]; rfl) (h1 : v.oneCell' = true := by rfl) (hL : L.set k (box b t (cs.set i v)) = L' := by rfl) (hd : o.dst = none := by rfl) : wpList P ops Q (o :: rest) a w := wpList_store_field ho hw hO hx k hk hi hy h1 hL hd h

theorem zal {T : TypeId} (ho : o.op = .alloc T) (hO : Own w0 L w) {cs : List Value} [hT : ZeroT P T cs] {d : Tmp} (hd : o.dst = some d) {a' : Nat → Act} (h : ∀ b w, Own w0 (L ++ [box b T cs]) w → wpList P ops Q rest (a' b) w)
    (hw : Region.wanted o (yielded ops a.tmps) = true := by rfl) (ha : ∀ b, a.put (some d) (.pointer (some ⟨b, 0, none⟩)) = a' b := by intro b; simp only [Act.put, zA, zB, zC]; rfl) : wpList P ops Q (o :: rest) a w := wpList_alloc_own ho hw hO hd ha h

theorem zbx {T : TypeId} {x : Operand} (ho : o.op = .box T x) (hO : Own w0 L w) {cs : List Value} (hx : a.eval x = .agg cs.toArray) {d : Tmp} (hd : o.dst = some d) {a' : Nat → Act} (h : ∀ b w, Own w0 (L ++ [box b T cs]) w → wpList P ops Q rest (a' b) w)
    (hw : Region.wanted o (yielded ops a.tmps) = true := by rfl) (ha : ∀ b, a.put (some d) (.pointer (some ⟨b, 0, none⟩)) = a' b := by intro b; simp only [Act.put, zA, zB, zC]; rfl) : wpList P ops Q (o :: rest) a w := wpList_box_own ho hw hO hx hd ha h

theorem zcc {i : Nat} {D : List Nat} {a' : Act} {R : Act → Prop} (ho : ops[i]? = some o := by rfl) (hw : Region.wanted o (yielded ops a.tmps) = true := by rfl) {v : Value} (f : ∀ (M : List Res) (w : World), Own w0 (L ++ M) w → ∀ K : Act → World → Prop, (∀ w', Own w0 (L ++ M) w' → K (a.put o.dst v) w') → o.wp P a w K J.noQ)
    (ha : a.put o.dst v = a' := by simp only [J.putL, zI, zG, zH, J.dstOf, zF, zD, zE, zS, zQ, zR, Act.put, zA, zB, zC]; rfl) (h : J.Chain P ops w0 L D a' R) : J.Chain P ops w0 L (i :: D) a R := J.Chain.cons ho hw f ha h

theorem zcp {i : Nat} {D : List Nat} {a' : Act} {R : Act → Prop} (ho : ops[i]? = some o := by rfl) (hw : Region.wanted o (yielded ops a.tmps) = true := by rfl) {v : Value} (f : ∀ (M : List Res) (w : World), Own w0 (L ++ M) w → ∀ K : Act → World → Prop, (∀ w', Own w0 (L ++ M) w' → K (a.put o.dst v) w') → o.wp P a w K J.noQ := by intro M u hO K hK; simp only [wp_at_zero, wp_at_succ]; go_step; exact hK _ hO)
    (ha : a.put o.dst v = a' := by simp only [J.putL, zI, zG, zH, J.dstOf, zF, zD, zE, zS, zQ, zR, Act.put, zA, zB, zC]; rfl) (h : J.Chain P ops w0 L D a' R) : J.Chain P ops w0 L (i :: D) a R := J.Chain.cons ho hw f ha h

theorem zck {i : Nat} {D : List Nat} {a' : Act} {R : Act → Prop} (ho : ops[i]? = some o := by rfl) (hw : Region.wanted o (yielded ops a.tmps) = false := by rfl)
    (ha : a.put o.dst undef = a' := by simp only [J.putL, zI, zG, zH, J.dstOf, zF, zD, zE, zS, zQ, zR, Act.put, zA, zB, zC]; rfl) (h : J.Chain P ops w0 L D a' R) : J.Chain P ops w0 L (i :: D) a R := J.Chain.skip ho hw ha h

end

end Go.Proofs.YtmofcbpabdbjlaaGreat

namespace Go.Proofs.YtmofcbpabdbjlaaGreat

set_option maxRecDepth 8000

open Go.RowKit Go.ChangeShapes Go.WideShapes Go.Deep

set_option linter.unusedVariables false

set_option linter.unusedSimpArgs false

instance : AggT Tryz.prog 72 3 := ⟨⟨_, Tryz.underlying72, rfl, by kernel_rfl⟩⟩

instance : OneT Tryz.prog 36 := ⟨⟨_, Tryz.underlying36, rfl, by kernel_rfl⟩⟩

/-- the code's bytes lie in the caller's memory -/
structure Cod (w : World) (A : Option Addr) (n : Nat) (l : List Int) : Prop where
  sl : Sl w 1 A n (bys l)
  le : n ≤ 1048576
  len : l.length = n
  byte : ∀ z ∈ l, 0 ≤ z ∧ z ≤ 255

theorem Cod.below {w u : World} {A : Option Addr} {n : Nat} {l : List Int} (h : Cod w A n l) (hb : Below w.heap.size w u) : Cod u A n l := ⟨h.sl.below hb, h.le, h.len, h.byte⟩

/-- a reader of the code is the call's own -/
def Rd (w0 : World) (b : Nat) (A : Option Addr) (n c : Nat) (L : List Res) (u : World) : Prop := ∃ (i : Nat) (z : Int), i ≤ n ∧ Own w0 (box b 72 [.slice A n c, .int .i64 i, .int .i64 z] :: L) u

theorem Rd.drop {w0 u : World} {b n c : Nat} {A : Option Addr} {L M : List Res} (h : Rd w0 b A n c (L ++ M) u) : Rd w0 b A n c L u := by
  obtain ⟨i, z, hi, hO⟩ := h
  exact ⟨i, z, hi, hO.sub ((List.sublist_append_left L M).cons_cons _)⟩

theorem Rd.below {w0 u : World} {b n c : Nat} {A : Option Addr} {L : List Res} (h : Rd w0 b A n c L u) : Below w0.heap.size w0 u := by
  obtain ⟨i, z, hi, hO⟩ := h
  exact hO.below

/-- things are chosen by their places -/
theorem Own.pickB {w0 w : World} {L : List Res} (h : Own w0 L w) (idx : List Nat) (hn : idx.Nodup) : Own w0 (idx.filterMap fun i => L[i]?) w := by
  have hm : ∀ r ∈ idx.filterMap (fun i => L[i]?), r ∈ L := fun r hr => by
    obtain ⟨i, _, hi⟩ := List.mem_filterMap.1 hr
    exact List.mem_of_getElem? hi
  refine ⟨h.below, fun r hr => h.holds r (hm r hr), fun r hr => h.lo r (hm r hr), ?_⟩
  rw [List.pairwise_filterMap]
  refine List.Pairwise.imp (fun {i j} hij r hr s hs b hb hsb => ?_) hn
  obtain ⟨hi, ei⟩ := List.getElem?_eq_some_iff.1 hr
  obtain ⟨hj, ej⟩ := List.getElem?_eq_some_iff.1 hs
  have hp := List.pairwise_iff_getElem.1 h.sep
  rcases Nat.lt_or_gt_of_ne hij with hlt | hlt
  · have := hp i j hi hj hlt b
    rw [ei, ej] at this
    exact this hb hsb
  · have := hp j i hj hi hlt b
    rw [ei, ej] at this
    exact this hsb hb

set_option maxRecDepth 20000 in
set_option maxHeartbeats 1000000 in
theorem draw_new (A : Option Addr) (n c : Nat) (l : List Int) (w : World) (h : Cod w A n l) :
    Calls Tryz.prog 11 #[.slice A n c] w fun e w' => ∃ b, e = .returned (.pointer (some ⟨b, 0, none⟩)) ∧ Rd w b A n c [] w' := by
  obtain ⟨h, hn, hl0, hb⟩ := h
  have hln := Lib.hid hl0
  have HB := Lib.hid hb
  clear hb hl0
  go_enter Tryz.func11, Tryz.ntmps11
  have hO := Own.nil w
  go_wp2_with fail
  go_loopw [3, 4] (fun s i u => ∃ (k : Nat) (z : Int), k ≤ n ∧ i = .int .i64 k ∧ s = .int .i64 z ∧ 0 ≤ z ∧ z ≤ 1073741823 ∧ Own w [] u) (fun _ i _ => n - (intOf i).toNat)
  case atStart => exact ⟨0, _, Nat.zero_le _, rfl, rfl, by omega, by omega, hO⟩
  case round =>
    clear hO
    obtain ⟨k, z, hk, rfl, rfl, hz0, hz1, hO⟩ := hrel
    by_cases hlt : k < n
    · by_cases h4 : k < 4000
      · obtain ⟨b, off, rfl, hb, d0⟩ := h.by hO.below hlt (by rw [hln.out]; exact hlt)
        have hz := HB.out _ (List.getElem_mem (by rw [hln.out]; exact hlt))
        obtain ⟨y, hy⟩ : ∃ y, l[k]'(by rw [hln.out]; exact hlt) = y := ⟨_, rfl⟩
        rw [hy] at d0 hz
        clear hy
        go_wp2_with fail
        have hm := and_mask (z * 131 + y + 7) 1073741823 (by omega)
        exact ⟨⟨k + 1, _, by omega, by go_num, rfl, hm.1, hm.2, hO⟩, by simp [intOf]; omega⟩
      · go_wp2_with (first | ((with_reducible refine zad ?_); refine zbx rfl hO rfl rfl ?_; (refine nm 0 rfl ?_; clear hO; intro b0 u hO); simp only [zL, zK] at hO) | fail)
        go_ret
        exact ⟨_, rfl, _, _, Nat.zero_le _, hO⟩
    · go_wp2_with (first | ((with_reducible refine zad ?_); refine zbx rfl hO rfl rfl ?_; (refine nm 0 rfl ?_; clear hO; intro b0 u hO); simp only [zL, zK] at hO) | fail)
      go_ret
      exact ⟨_, rfl, _, _, Nat.zero_le _, hO⟩

theorem and255 (x : Int) : 0 ≤ bits .and .i64 x 255 ∧ bits .and .i64 x 255 ≤ 255 := and_mask x 255 (by omega)

set_option maxRecDepth 20000 in
set_option maxHeartbeats 2000000 in
theorem draw_byte {w0 w : World} {A : Option Addr} {n c b : Nat} {l : List Int} {L : List Res} (h : Cod w0 A n l) (hR : Rd w0 b A n c L w) :
    Calls Tryz.prog 48 #[.pointer (some ⟨b, 0, none⟩)] w fun e w' => ∃ x : Int, e = .returned (.int .i64 x) ∧ 0 ≤ x ∧ x ≤ 255 ∧ Rd w0 b A n c L w' := by
  obtain ⟨i, z, hi, hO⟩ := hR
  obtain ⟨h, hn, hl0, hb⟩ := h
  have hln := Lib.hid hl0
  have HB := Lib.hid hb
  clear hb hl0
  go_enter Tryz.func48, Tryz.ntmps48
  go_wp2_with (first | ((with_reducible refine zaa ?_); refine zlf rfl hO rfl _ (by exact at0) ?_) | ((with_reducible refine zab ?_); refine zsf rfl hO rfl _ (by exact at0) (zM rfl) ?_; clear hO; intro u hO; simp only [zC, zB] at hO) | fail)
  obtain ⟨z', hz'⟩ : ∃ z', wrap64 (wrap64 (z * 6364136223846793005) + 1442695040888963407) = z' := ⟨_, rfl⟩
  rw [hz'] at hO ⊢
  clear hz'
  refine J.wp_region_c (n := 58) [0, 1, 2, 3, 4, 5, 6, 7, 8, 9, 10, 11, 12] [] (deps := fun i => [[], [0], [0, 1], [0, 1, 2], [0, 1, 2, 3], [], [5], [5, 6], [5, 6, 7], [5, 6, 7, 8], [0, 1, 2, 3, 4, 5, 6, 7, 8, 9], [0, 1, 2, 3, 4, 5, 6, 7, 8, 9, 10], [0, 1, 2, 3, 4, 5, 6, 7, 8, 9, 10, 11]].getD i []) (fun _ _ _ => True) (r := 0) (lst := #[true, true, true, true, true, true, true, true, true, true, true, true, true]) (by kernel_rfl) (by kernel_rfl) (by kernel_rfl) rfl (by decide) (by kernel_rfl) hO ?_
  refine zcp (h := ?_)
  refine zcp (h := ?_)
  refine zcp (h := ?_)
  refine zcc (f := fun M u hO K hK => by (exact zae hO rfl rfl _ (by exact at0) (by rfl) (by rfl) (hK _ hO))) (h := ?_)
  refine zcp (h := ?_)
  refine zcp (h := ?_)
  refine zcp (h := ?_)
  refine zcp (h := ?_)
  refine zcc (f := fun M u hO K hK => by (exact zae hO rfl rfl _ (by exact at0) (by rfl) (by rfl) (hK _ hO))) (h := ?_)
  refine zcp (h := ?_)
  refine zcp (h := ?_)
  refine zcp (h := ?_)
  refine zcp (h := ?_)
  refine J.Chain.nil ⟨?_, ?_⟩
  · exact J.Each.nil
  intro vs u hO hF
  clear hF
  simp only [List.flatMap_cons, List.flatMap_nil, List.append_nil, zL, zK] at hO
  simp only [J.putL]
  clear vs
  refine wpAny_done (by kernel_rfl) ?_ _
  go_wp2_with fail
  have hx1 := and255 (bits .xor .i64 (z' / 8589934592) (z' / 35184372088832))
  obtain ⟨x, hx⟩ : ∃ x, bits .and .i64 (bits .xor .i64 (z' / 8589934592) (z' / 35184372088832)) 255 = x := ⟨_, rfl⟩
  rw [hx] at hx1 ⊢
  clear hx
  obtain ⟨hx1, hx2⟩ := hx1
  by_cases hlt : i < n
  · have hil : i < l.length := by rw [hln.out]; exact hlt
    have hy := HB.out _ (List.getElem_mem hil)
    obtain ⟨ab, off, rfl, hab, d0⟩ := h.by (Below.refl _ _) hlt hil
    obtain ⟨y, hyy⟩ : ∃ y, l[i] = y := ⟨_, rfl⟩
    rw [hyy] at hy d0
    clear hyy hil
    obtain ⟨hy1, hy2⟩ := hy
    have q1 : (i : Int) < (n : Int) := by omega
    refine J.wp_region_c (n := 58) [0, 1, 2, 3, 4, 5, 6, 7, 8, 9] [] (deps := fun i => [[], [0], [0, 1], [0, 1, 2], [], [4], [4, 5], [4, 5, 6], [4, 5, 6, 7], [0, 1, 2, 3, 4, 5, 6, 7, 8]].getD i []) (fun _ _ _ => True) (r := 0) (lst := #[true, true, true, true, true, true, true, true, true, true]) (by kernel_rfl) (by kernel_rfl) (by kernel_rfl) rfl (by decide) (by kernel_rfl) hO ?_
    refine zcp (h := ?_)
    refine zcp (h := ?_)
    refine zcp (h := ?_)
    refine zcc (f := fun M u hO K hK => by (exact zae hO rfl rfl _ (by exact at0) (by rfl) (by rfl) (hK _ hO))) (h := ?_)
    refine zcp (h := ?_)
    refine zcp (h := ?_)
    refine zcp (h := ?_)
    refine zcc (f := fun M u hO K hK => by (exact zae hO rfl rfl _ (by exact at0) (by rfl) (by rfl) (hK _ hO))) (h := ?_)
    refine zcp (h := ?_)
    refine zcp (h := ?_)
    refine J.Chain.nil ⟨?_, ?_⟩
    · exact J.Each.nil
    intro vs u hO hF
    clear hF
    simp only [List.flatMap_cons, List.flatMap_nil, List.append_nil, zL, zK] at hO
    simp only [J.putL]
    clear vs
    refine wpAny_done (by kernel_rfl) ?_ _
    go_wp2_with fail
    refine J.wp_region_c (n := 58) [0, 1, 2, 3, 4, 5, 6, 7, 8, 9, 10, 11, 12, 13] [] (deps := fun i => [[], [], [1], [1, 2], [1, 2, 3], [], [5], [5, 6], [5, 6, 7], [1, 2, 3, 4, 5, 6, 7, 8], [1, 2, 3, 4, 5, 6, 7, 8, 9], [1, 2, 3, 4, 5, 6, 7, 8, 9, 10], [0, 1, 2, 3, 4, 5, 6, 7, 8, 9, 10, 11], [0, 1, 2, 3, 4, 5, 6, 7, 8, 9, 10, 11, 12], []].getD i []) (fun _ _ _ => True) (r := 1) (lst := #[true, true, true, true, true, true, true, true, true, true, true, true, true, true, false]) (by kernel_rfl) (by kernel_rfl) (by kernel_rfl) rfl (by decide) (by kernel_rfl) hO ?_
    refine zcp (h := ?_)
    refine zcp (h := ?_)
    refine zcp (h := ?_)
    refine zcp (h := ?_)
    refine zcc (f := fun M u hO K hK => by (exact zae hO rfl rfl _ (by exact at0) (by rfl) (by rfl) (hK _ hO))) (h := ?_)
    refine zcp (h := ?_)
    refine zcp (h := ?_)
    refine zcp (h := ?_)
    refine zcc (f := fun M u hO K hK => by (exact zae hO rfl rfl _ (by exact at0) (by rfl) (by rfl) (hK _ hO))) (h := ?_)
    refine zcp (h := ?_)
    refine zcc (f := fun M u hO K hK => by ((have e0 := (hO.old hab).trans d0; simp only [wp_at_zero, wp_at_succ]; go_step; exact hK _ hO))) (h := ?_)
    refine zcp (h := ?_)
    refine zcp (h := ?_)
    refine zcp (h := ?_)
    refine J.Chain.nil ⟨?_, ?_⟩
    · exact J.Each.nil
    intro vs u hO hF
    clear hF
    simp only [List.flatMap_cons, List.flatMap_nil, List.append_nil, zL, zK] at hO
    simp only [J.putL]
    clear vs
    refine J.wpAny_one (i := 14) (by kernel_rfl) (by rfl) rfl fun K hK => ?_
    simp only [wp_at_zero, wp_at_succ]
    go_step
    refine hK _ _ ?_
    clear hK K
    refine wpAny_done (by kernel_rfl) ?_ _
    go_wp2_with (first | ((with_reducible refine zaa ?_); refine zlf rfl hO rfl _ (by exact at0) ?_) | ((with_reducible refine zab ?_); refine zsf rfl hO rfl _ (by exact at0) (zM rfl) ?_; clear hO; intro u hO; simp only [zC, zB] at hO) | fail)
    have hm := and255 (x + y)
    go_ret
    exact ⟨_, rfl, hm.1, hm.2, i + 1, z', by omega, by simpa using hO⟩
  · have q1 : ¬ (i : Int) < (n : Int) := by omega
    refine J.wp_region_c (n := 58) [0, 1, 2, 3, 4, 5, 6, 7, 8, 9] [] (deps := fun i => [[], [0], [0, 1], [0, 1, 2], [], [4], [4, 5], [4, 5, 6], [4, 5, 6, 7], [0, 1, 2, 3, 4, 5, 6, 7, 8]].getD i []) (fun _ _ _ => True) (r := 0) (lst := #[true, true, true, true, true, true, true, true, true, true]) (by kernel_rfl) (by kernel_rfl) (by kernel_rfl) rfl (by decide) (by kernel_rfl) hO ?_
    refine zcp (h := ?_)
    refine zcp (h := ?_)
    refine zcp (h := ?_)
    refine zcc (f := fun M u hO K hK => by (exact zae hO rfl rfl _ (by exact at0) (by rfl) (by rfl) (hK _ hO))) (h := ?_)
    refine zcp (h := ?_)
    refine zcp (h := ?_)
    refine zcp (h := ?_)
    refine zcc (f := fun M u hO K hK => by (exact zae hO rfl rfl _ (by exact at0) (by rfl) (by rfl) (hK _ hO))) (h := ?_)
    refine zcp (h := ?_)
    refine zcp (h := ?_)
    refine J.Chain.nil ⟨?_, ?_⟩
    · exact J.Each.nil
    intro vs u hO hF
    clear hF
    simp only [List.flatMap_cons, List.flatMap_nil, List.append_nil, zL, zK] at hO
    simp only [J.putL]
    clear vs
    refine wpAny_done (by kernel_rfl) ?_ _
    go_wp2_with fail
    go_ret
    exact ⟨_, rfl, hx1, hx2, i, z', hi, hO⟩

set_option maxRecDepth 20000 in
theorem zbg {w0 w : World} {A : Option Addr} {n c b : Nat} {l : List Int} {L : List Res} (m : Nat) (h0 : 0 < m) (h1 : m ≤ 256) (h : Cod w0 A n l) (hR : Rd w0 b A n c L w) :
    Calls Tryz.prog 15 #[.pointer (some ⟨b, 0, none⟩), .int .i64 (m : Int)] w fun e w' => ∃ x : Nat, e = .returned (.int .i64 (x : Int)) ∧ x < m ∧ Rd w0 b A n c L w' := by
  have q1 : ¬ (m : Int) ≤ 0 := by omega
  have q2 : (m : Int) ≤ 256 := by omega
  have q3 : ((m : Int) == 0) = false := by simp; omega
  go_enter Tryz.func15, Tryz.ntmps15
  go_wp2_with fail
  refine (draw_byte h hR).mono ?_
  rintro e u ⟨x, rfl, hx0, hx1, hR⟩
  go_wp2_with fail
  go_ret
  have hx2 : x % m = ((x.toNat % m : Nat) : Int) := by
    obtain ⟨y, rfl⟩ := Int.eq_ofNat_of_zero_le hx0
    rfl
  exact ⟨x.toNat % m, by rw [← hx2]; rfl, Nat.mod_lt _ h0, hR⟩

theorem draw_once {w0 w : World} {A : Option Addr} {n c b : Nat} {l : List Int} {L : List Res} (m : Nat) (h0 : 0 < m) (h1 : m ≤ 256) (h : Cod w0 A n l) (hR : Rd w0 b A n c L w) :
    Calls Tryz.prog 13 #[.pointer (some ⟨b, 0, none⟩), .int .i64 (m : Int)] w fun e w' => ∃ x : Bool, e = .returned (.bool x) ∧ Rd w0 b A n c L w' := by
  go_enter Tryz.func13, Tryz.ntmps13
  go_wp2_with fail
  refine (zbg m h0 h1 h hR).mono ?_
  rintro e u ⟨x, rfl, hx, hR⟩
  go_wp2_with fail
  go_ret
  exact ⟨_, rfl, hR⟩

set_option maxRecDepth 20000 in
/-- one of a list of the call's own -/
theorem draw_pickInt {w0 w : World} {A : Option Addr} {n c b : Nat} {l : List Int} {L : List Res} (zs : List Int) (m : Nat) (hz : zs.length = m) (h0 : 0 < m) (h1 : m ≤ 256) {bl t : Nat} (k : Nat) (hk : L[k]? = some (box bl t (ints zs))) (h : Cod w0 A n l) (hR : Rd w0 b A n c L w) :
    Calls Tryz.prog 17 #[.pointer (some ⟨b, 0, none⟩), .slice (some ⟨bl, 0, none⟩) m m] w fun e w' => ∃ y ∈ zs, e = .returned (.int .i64 y) ∧ Rd w0 b A n c L w' := by
  go_enter Tryz.func17, Tryz.ntmps17
  go_wp2_with fail
  refine (zbg m h0 h1 h hR).mono ?_
  rintro e u ⟨x, rfl, hx, hR⟩
  have hxl : x < zs.length := by omega
  have d0 : u.cell? ⟨bl, x, none⟩ = some (.int .i64 zs[x]) := by
    obtain ⟨i, z, hi, hO⟩ := hR
    rw [hO.cell (k + 1) (by simpa using hk) x]
    simp [ints, hxl]
  have q1 : (0 : Int) ≤ x := by omega
  have q2 : (x : Int) < m := by omega
  obtain ⟨y, hy⟩ : ∃ y, zs[x] = y := ⟨_, rfl⟩
  have hmem : y ∈ zs := by rw [← hy]; exact List.getElem_mem hxl
  rw [hy] at d0
  clear hy hk
  go_wp2_with fail
  go_ret
  exact ⟨y, hmem, rfl, hR⟩

set_option maxRecDepth 20000 in
theorem draw_pick {w0 w : World} {A : Option Addr} {n c b : Nat} {l : List Int} {L : List Res} (zs : List ByteArray) (m : Nat) (hz : zs.length = m) (h0 : 0 < m) (h1 : m ≤ 256) {bl t : Nat} (k : Nat) (hk : L[k]? = some (box bl t (stc zs))) (h : Cod w0 A n l) (hR : Rd w0 b A n c L w) :
    Calls Tryz.prog 45 #[.pointer (some ⟨b, 0, none⟩), .slice (some ⟨bl, 0, none⟩) m m] w fun e w' => ∃ y ∈ zs, e = .returned (.string y) ∧ Rd w0 b A n c L w' := by
  go_enter Tryz.func45, Tryz.ntmps45
  go_wp2_with fail
  refine (zbg m h0 h1 h hR).mono ?_
  rintro e u ⟨x, rfl, hx, hR⟩
  have hxl : x < zs.length := by omega
  have d0 : u.cell? ⟨bl, x, none⟩ = some (.string zs[x]) := by
    obtain ⟨i, z, hi, hO⟩ := hR
    rw [hO.cell (k + 1) (by simpa using hk) x]
    simp [stc, hxl]
  have q1 : (0 : Int) ≤ x := by omega
  have q2 : (x : Int) < m := by omega
  obtain ⟨y, hy⟩ : ∃ y, zs[x] = y := ⟨_, rfl⟩
  have hmem : y ∈ zs := by rw [← hy]; exact List.getElem_mem hxl
  rw [hy] at d0
  clear hy hk
  go_wp2_with fail
  go_ret
  exact ⟨y, hmem, rfl, hR⟩

theorem last_at {α : Type} (L : List α) (x : α) : (L ++ [x])[L.length]? = some x := by simp

end Go.Proofs.YtmofcbpabdbjlaaGreat

namespace Go.Proofs.YtmofcbpabdbjlaaGreat.Nm

set_option maxRecDepth 8000

/-- the greatest common divisor of two integers, as an integer -/
def gcdI (a b : Int) : Int := (Int.gcd a b : Int)

/-- numerator and denominator are those of a number -/
def isNum (n d : Int) : Bool := decide (1 ≤ d ∧ d ≤ 999999999 ∧ -999999999 ≤ n ∧ n ≤ 999999999 ∧ Int.gcd n d = 1)

/-- n / d in lowest terms, with a positive denominator -/
def red (n d : Int) : Int × Int := if d < 0 then ((-n) / gcdI n d, (-d) / gcdI n d) else (n / gcdI n d, d / gcdI n d)

def inL (n : Int) : Bool := decide (-4000000000000000000 ≤ n ∧ n ≤ 4000000000000000000)

def inM (r : Int × Int) : Bool := decide (-999999999 ≤ r.1 ∧ r.1 ≤ 999999999 ∧ r.2 ≤ 999999999)

/-- what MakeNumber makes: (0, 0) stands for the missing value -/
def mk (n d : Int) : Int × Int := if d = 0 ∨ inL n = false ∨ inL d = false then (0, 0) else if inM (red n d) then red n d else (0, 0)

theorem gcdI_pos (n d : Int) (h : d ≠ 0) : 0 < gcdI n d := by
  unfold gcdI
  have : 0 < Int.gcd n d := Int.gcd_pos_of_ne_zero_right n h
  omega

theorem gcdI_dvd_left (n d : Int) : gcdI n d ∣ n := Int.gcd_dvd_left n d

theorem gcdI_dvd_right (n d : Int) : gcdI n d ∣ d := Int.gcd_dvd_right n d

theorem quo_pos {g e : Int} (hp : 0 < g) (he : 0 < e) (hd : g ∣ e) : 1 ≤ e / g := by
  obtain ⟨k, rfl⟩ := hd
  rw [Int.mul_ediv_cancel_left _ (by omega)]
  rcases Int.lt_trichotomy k 0 with hk | hk | hk
  · have := Int.mul_neg_of_pos_of_neg hp hk; omega
  · subst hk; simp at he
  · omega

theorem red_pos (n d : Int) (h : d ≠ 0) : 1 ≤ (red n d).2 := by
  have hp := gcdI_pos n d h
  unfold red
  split
  · exact quo_pos hp (by omega) (Int.dvd_neg.2 (gcdI_dvd_right n d))
  · exact quo_pos hp (by omega) (gcdI_dvd_right n d)

theorem red_gcd (n d : Int) (h : d ≠ 0) : Int.gcd (red n d).1 (red n d).2 = 1 := by
  have hg : 0 < Int.gcd n d := Int.gcd_pos_of_ne_zero_right n h
  unfold red
  split
  · simp only [gcdI]
    have := Int.gcd_ediv_gcd_ediv_gcd (i := -n) (j := -d) (by simpa using hg)
    simpa using this
  · simp only [gcdI]
    exact Int.gcd_ediv_gcd_ediv_gcd hg

/-- cross multiplication: the reduced fraction is the fraction -/
theorem red_cross (n d : Int) (h : d ≠ 0) : (red n d).1 * d = n * (red n d).2 := by
  have hp := gcdI_pos n d h
  obtain ⟨a, ha⟩ := gcdI_dvd_left n d
  obtain ⟨b, hb⟩ := gcdI_dvd_right n d
  unfold red
  have hne : gcdI n d ≠ 0 := by omega
  have e1 : n / gcdI n d = a := Int.ediv_eq_of_eq_mul_right hne ha
  have e2 : d / gcdI n d = b := Int.ediv_eq_of_eq_mul_right hne hb
  have e3 : (-n) / gcdI n d = -a := Int.ediv_eq_of_eq_mul_right hne (by rw [Int.mul_neg, ← ha])
  have e4 : (-d) / gcdI n d = -b := Int.ediv_eq_of_eq_mul_right hne (by rw [Int.mul_neg, ← hb])
  split
  · simp only [e3, e4]
    clear e1 e2 e3 e4
    generalize gcdI n d = g at *
    subst ha; subst hb
    simp only [Int.mul_neg, Int.neg_mul]
    rw [show a * (g * b) = g * a * b by rw [← Int.mul_assoc, Int.mul_comm a g]]
  · simp only [e1, e2]
    clear e1 e2 e3 e4
    generalize gcdI n d = g at *
    subst ha; subst hb
    rw [← Int.mul_assoc, Int.mul_comm a g]

/-- Go's quotient by the gcd is the exact one -/
theorem tdiv_gcd_left (n d : Int) : n.tdiv (gcdI n d) = n / gcdI n d := by
  obtain ⟨a, ha⟩ := gcdI_dvd_left n d
  by_cases h : gcdI n d = 0
  · rw [h]; simp
  · rw [Int.tdiv_eq_ediv_of_dvd (gcdI_dvd_left n d)]

theorem tdiv_gcd_right (n d : Int) : d.tdiv (gcdI n d) = d / gcdI n d := by
  rw [Int.tdiv_eq_ediv_of_dvd (gcdI_dvd_right n d)]

theorem gcdI_neg (n d : Int) : gcdI (-n) (-d) = gcdI n d := by simp [gcdI]

theorem gcd_step (x y : Nat) : Nat.gcd y (x % y) = Nat.gcd x y := by rw [Nat.gcd_comm x y, Nat.gcd_rec y x, Nat.gcd_comm]

end Go.Proofs.YtmofcbpabdbjlaaGreat.Nm
