/-
  What is proved: what the functions on three-valued logical values (NotLogical, AndLogical, OrLogical, XorLogical, of the program and of the reference) return, for all integers. what the functions on slices of integers (AllLogical, AnyLogical, and the statements' copies and comparisons of such slices) return; short forms of the laws of memory and of chains; conditions that a computation shows are proved where they are used.
  Condition: the slices that are copied hold at most 1048576 numbers.
-/
import Derived.Deep.Light
import Derived.Lib.Hide
import Derived.WalkSmall
import Derived.Test.YtmofcbpabdbjlaaVz1
import Derived.Test.YtmofcbpabdbjlaaVz2
import Derived.Test.YtmofcbpabdbjlaaVz5
namespace Go.Proofs.Ytmofcbpabdbjlaa

set_option maxRecDepth 8000

section

open Go.RowKit

end

section

open Go.RowKit Go.ChangeShapes Go.WideShapes

def ints (zs : List Int) : List Value := zs.map (Value.int .i64)

end

end Go.Proofs.Ytmofcbpabdbjlaa

namespace Go.Proofs.Ytmofcbpabdbjlaa

set_option maxRecDepth 8000

open Go Go.RowKit

section

variable {P : Program} {o : Oper} {a : Act} {w w0 : World} {Q : Exit → Act → World → Prop} {L : List Res} {ops : Array Oper} {rest : List Oper}

theorem zlb {ty : TypeId} {x : Operand} (ho : o.op = .load ty x) (hO : Own w0 L w) {b : Nat} (hx : a.eval x = .pointer (some ⟨b, 0, none⟩)) (k : Nat) {t : TypeId} {cs : List Value} (hk : L[k]? = some (box b t cs)) {n : Nat} [hT : AggT P ty n] {a' : Act} (h : wpList P ops Q rest a' w)
    (hw : Region.wanted o (yielded ops a.tmps) = true := by rfl) (hn : cs.length = n := by rfl) (ha : a.put o.dst (.agg cs.toArray) = a' := by simp only [Act.put, zA, zB, zC]; rfl) : wpList P ops Q (o :: rest) a w := wpList_load_box ho hw hO hx k hk hn ha h

theorem zlf {ty : TypeId} {x : Operand} (ho : o.op = .load ty x) (hO : Own w0 L w) {b i : Nat} (hx : a.eval x = .pointer (some ⟨b, i, none⟩)) (k : Nat) {t : TypeId} {cs : List Value} (hk : L[k]? = some (box b t cs)) [hT : OneT P ty] {v : Value} {a' : Act} (h : wpList P ops Q rest a' w)
    (hw : Region.wanted o (yielded ops a.tmps) = true := by rfl) (hv : cs[i]? = some v := by rfl) (ha : a.put o.dst v = a' := by simp only [Act.put, zA, zB, zC]; rfl) : wpList P ops Q (o :: rest) a w := zai ho hw hO hx k hk hv ha h

theorem zsb {ty : TypeId} {x y : Operand} (ho : o.op = .store ty x y) (hO : Own w0 L w) {b : Nat} (hx : a.eval x = .pointer (some ⟨b, 0, none⟩)) (k : Nat) {t : TypeId} {cs : List Value} (hk : L[k]? = some (box b t cs)) {vs : List Value} (hy : a.eval y = .agg vs.toArray) {n : Nat} [hT : AggT P ty n] {L' : List Res} (h : ∀ w, Own w0 L' w → wpList P ops Q rest a w)
    (hw : Region.wanted o (yielded ops a.tmps) = true := by rfl) (hn : vs.length = cs.length := by rfl) (hn2 : vs.length = n := by rfl) (h1 : vs.all (·.oneCell') = true := by rfl) (hL : L.set k (box b t vs) = L' := by rfl) (hd : o.dst = none := by rfl) : wpList P ops Q (o :: rest) a w := wpList_store_box ho hw hO hx k hk hy hn hn2 h1 hL hd h

theorem zsc {ty : TypeId} {x y : Operand} (ho : o.op = .store ty x y) (hO : Own w0 L w) {b : Nat} (hx : a.eval x = .pointer (some ⟨b, 0, none⟩)) (k : Nat) {t : TypeId} {cs : List Value} (hk : L[k]? = some (box b t cs)) {vs : List Value} {n : Nat} [hT : AggT P ty n] {L' : List Res} (h : ∀ w, Own w0 L' w → wpList P ops Q rest a w)
    (hw : Region.wanted o (yielded ops a.tmps) = true := by rfl) (hy : a.eval y = .agg vs.toArray := by simp only [Act.eval, zJ, zF, zD, zE, zP]; rfl) (hn : vs.length = cs.length := by rfl) (hn2 : vs.length = n := by rfl) (h1 : vs.all (·.oneCell') = true := by rfl) (hL : L.set k (box b t vs) = L' := by rfl) (hd : o.dst = none := by rfl) : wpList P ops Q (o :: rest) a w := wpList_store_box ho hw hO hx k hk hy hn hn2 h1 hL hd h

theorem zsf {ty : TypeId} {x y : Operand} (ho : o.op = .store ty x y) (hO : Own w0 L w) {b i : Nat} (hx : a.eval x = .pointer (some ⟨b, i, none⟩)) (k : Nat) {t : TypeId} {cs : List Value} (hk : L[k]? = some (box b t cs)) (hi : i < cs.length) {v : Value} [hT : OneT P ty] {L' : List Res} (h : ∀ w, Own w0 L' w → wpList P ops Q rest a w)
    (hw : Region.wanted o (yielded ops a.tmps) = true := by rfl) (hy : a.eval y = v := by simp only [Act.eval, zJ, zF, zD, zE, zP]; rfl) (h1 : v.oneCell' = true := by rfl) (hL : L.set k (box b t (cs.set i v)) = L' := by rfl) (hd : o.dst = none := by rfl) : wpList P ops Q (o :: rest) a w := wpList_store_field ho hw hO hx k hk hi hy h1 hL hd h

theorem zal {T : TypeId} (ho : o.op = .alloc T) (hO : Own w0 L w) {cs : List Value} [hT : ZeroT P T cs] {d : Tmp} (hd : o.dst = some d) {a' : Nat → Act} (h : ∀ b w, Own w0 (L ++ [box b T cs]) w → wpList P ops Q rest (a' b) w)
    (hw : Region.wanted o (yielded ops a.tmps) = true := by rfl) (ha : ∀ b, a.put (some d) (.pointer (some ⟨b, 0, none⟩)) = a' b := by intro b; simp only [Act.put, zA, zB, zC]; rfl) : wpList P ops Q (o :: rest) a w := wpList_alloc_own ho hw hO hd ha h

theorem zbx {T : TypeId} {x : Operand} (ho : o.op = .box T x) (hO : Own w0 L w) {cs : List Value} (hx : a.eval x = .agg cs.toArray) {d : Tmp} (hd : o.dst = some d) {a' : Nat → Act} (h : ∀ b w, Own w0 (L ++ [box b T cs]) w → wpList P ops Q rest (a' b) w)
    (hw : Region.wanted o (yielded ops a.tmps) = true := by rfl) (ha : ∀ b, a.put (some d) (.pointer (some ⟨b, 0, none⟩)) = a' b := by intro b; simp only [Act.put, zA, zB, zC]; rfl) : wpList P ops Q (o :: rest) a w := wpList_box_own ho hw hO hx hd ha h

theorem zcc {i : Nat} {D : List Nat} {a' : Act} {R : Act → Prop} (ho : ops[i]? = some o := by rfl) (hw : Region.wanted o (yielded ops a.tmps) = true := by rfl) {v : Value} (f : ∀ (M : List Res) (w : World), Own w0 (L ++ M) w → ∀ K : Act → World → Prop, (∀ w', Own w0 (L ++ M) w' → K (a.put o.dst v) w') → o.wp P a w K J.noQ)
    (ha : a.put o.dst v = a' := by simp only [J.putL, zI, zG, zH, J.dstOf, zF, zD, zE, zS, zQ, zR, Act.put, zA, zB, zC]; rfl) (h : J.Chain P ops w0 L D a' R) : J.Chain P ops w0 L (i :: D) a R := J.Chain.cons ho hw f ha h

theorem zcp {i : Nat} {D : List Nat} {a' : Act} {R : Act → Prop} (ho : ops[i]? = some o := by rfl) (hw : Region.wanted o (yielded ops a.tmps) = true := by rfl) {v : Value} (f : ∀ (M : List Res) (w : World), Own w0 (L ++ M) w → ∀ K : Act → World → Prop, (∀ w', Own w0 (L ++ M) w' → K (a.put o.dst v) w') → o.wp P a w K J.noQ := by intro M u hO K hK; simp only [wp_at_zero, wp_at_succ]; go_step; exact hK _ hO)
    (ha : a.put o.dst v = a' := by simp only [J.putL, zI, zG, zH, J.dstOf, zF, zD, zE, zS, zQ, zR, Act.put, zA, zB, zC]; rfl) (h : J.Chain P ops w0 L D a' R) : J.Chain P ops w0 L (i :: D) a R := J.Chain.cons ho hw f ha h

theorem zck {i : Nat} {D : List Nat} {a' : Act} {R : Act → Prop} (ho : ops[i]? = some o := by rfl) (hw : Region.wanted o (yielded ops a.tmps) = false := by rfl)
    (ha : a.put o.dst undef = a' := by simp only [J.putL, zI, zG, zH, J.dstOf, zF, zD, zE, zS, zQ, zR, Act.put, zA, zB, zC]; rfl) (h : J.Chain P ops w0 L D a' R) : J.Chain P ops w0 L (i :: D) a R := J.Chain.skip ho hw ha h

end

end Go.Proofs.Ytmofcbpabdbjlaa
