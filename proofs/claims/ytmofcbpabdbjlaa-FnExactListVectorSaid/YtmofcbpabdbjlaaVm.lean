/-
  What is proved: plain facts on the sizes and the marks of vectors as trees.
  No condition.
-/
import Derived.Test.YtmofcbpabdbjlaaVa
import Derived.Test.YtmofcbpabdbjlaaFmtI
namespace Go.Proofs.Ytmofcbpabdbjlaa
set_option maxRecDepth 8000
set_option linter.unusedVariables false
set_option linter.unusedSimpArgs false

/-! sizes -/
def itz : List It → Nat
  | [] => 0
  | x :: l => x.text.size + itz l
def szI (l : List It) : Nat := l.length + itz l
mutual
def szV : VT → Nat
  | .mk k is ps ns cs ls c e => szI is + szL ps + szS ns + szS cs + szS ls
def szL : List VT → Nat
  | [] => 0
  | p :: ps => 1 + szV p + szL ps
end
/-- the size of the parts, one by one, without their number -/
def szP : List VT → Nat
  | [] => 0
  | p :: ps => szV p + szP ps
theorem szL_eq (ps : List VT) : szL ps = ps.length + szP ps := by
  induction ps with
  | nil => rfl
  | cons p ps ih => simp only [szL, szP, List.length_cons, ih]; omega
theorem itz_app (a b : List It) : itz (a ++ b) = itz a + itz b := by
  induction a with
  | nil => simp [itz]
  | cons x a ih => simp [itz, ih, Nat.add_assoc]
theorem itz_succ {l : List It} {k : Nat} (h : k < l.length) : itz (l.take (k + 1)) = itz (l.take k) + (l[k]'h).text.size := by rw [take_snoc' h, itz_app]; simp [itz]
theorem itz_take_le (l : List It) (k : Nat) : itz (l.take k) ≤ itz l := by
  have := itz_app (l.take k) (l.drop k)
  rw [List.take_append_drop] at this
  omega
theorem szP_app (a b : List VT) : szP (a ++ b) = szP a + szP b := by
  induction a with
  | nil => simp [szP]
  | cons x a ih => simp [szP, ih, Nat.add_assoc]
theorem szP_succ {l : List VT} {k : Nat} (h : k < l.length) : szP (l.take (k + 1)) = szP (l.take k) + szV (l[k]'h) := by rw [take_snoc' h, szP_app]; simp [szP]
theorem szP_take_le (l : List VT) (k : Nat) : szP (l.take k) ≤ szP l := by
  have := szP_app (l.take k) (l.drop k)
  rw [List.take_append_drop] at this
  omega
theorem szP_mem {l : List VT} {k : Nat} (h : k < l.length) : szV (l[k]'h) ≤ szP l := by
  have := szP_succ h
  have := szP_take_le l (k + 1)
  omega
theorem stz_mem {l : List ByteArray} {k : Nat} (h : k < l.length) : (l[k]'h).size ≤ stz l := by
  have := stz_take_succ h
  have := stz_take_le l (k + 1)
  omega
theorem itz_mem {l : List It} {k : Nat} (h : k < l.length) : (l[k]'h).text.size ≤ itz l := by
  have := itz_succ h
  have := itz_take_le l (k + 1)
  omega

/-! marks -/
def mtx (k : Nat) : ByteArray := bstr (109 :: (if k = 0 then [48] else dig k))
def mkI1 (k i : Nat) : It := ⟨(k + 3 * i : Nat), (k + 3 * i + 1 : Nat), mtx (k + 3 * i + 2)⟩
def mkI (k n : Nat) : List It := (List.range n).map (mkI1 k)
def mkS (k n : Nat) : List ByteArray := (List.range n).map fun i => mtx (k + i)
theorem mkI_len (k n : Nat) : (mkI k n).length = n := by simp [mkI]
theorem mkS_len (k n : Nat) : (mkS k n).length = n := by simp [mkS]
theorem mkI_succ (k n : Nat) : mkI k (n + 1) = mkI k n ++ [mkI1 k n] := by simp [mkI, List.range_succ]
theorem mkS_succ (k n : Nat) : mkS k (n + 1) = mkS k n ++ [mtx (k + n)] := by simp [mkS, List.range_succ]
theorem mkI_at {k n i : Nat} (h : i < (mkI k n).length) : (mkI k n)[i] = mkI1 k i := by simp [mkI]
theorem mkS_at {k n i : Nat} (h : i < (mkS k n).length) : (mkS k n)[i] = mtx (k + i) := by simp [mkS]
mutual
def cntV : VT → Nat
  | .mk k is ps ns cs ls c e => 3 * is.length + cntL ps + ns.length + cs.length + ls.length
def cntL : List VT → Nat
  | [] => 0
  | p :: ps => (cntV p + 3) + cntL ps
end
def setT : VT → Int → Int → Int → VT
  | .mk _ is ps ns cs ls _ _, k, c, e => .mk k is ps ns cs ls c e
mutual
def mrkV : Nat → VT → VT
  | q, .mk k is ps ns cs ls c e => .mk k (mkI q is.length) (mrkL (q + 3 * is.length) ps) (mkS (q + 3 * is.length + cntL ps) ns.length) (mkS (q + 3 * is.length + cntL ps + ns.length) cs.length)
      (mkS (q + 3 * is.length + cntL ps + ns.length + cs.length) ls.length) c e
def mrkL : Nat → List VT → List VT
  | _, [] => []
  | q, p :: ps => setT (mrkV (q + 1) p) q (q + 1 + cntV p : Nat) (q + 2 + cntV p : Nat) :: mrkL (q + 3 + cntV p) ps
end
/-- a marked part -/
def mrkP (q : Nat) (p : VT) : VT := setT (mrkV (q + 1) p) q (q + 1 + cntV p : Nat) (q + 2 + cntV p : Nat)
theorem cntL_app (a b : List VT) : cntL (a ++ b) = cntL a + cntL b := by
  induction a with
  | nil => simp [cntL]
  | cons x a ih => simp [cntL, ih, Nat.add_assoc]
theorem cntL_succ {l : List VT} {k : Nat} (h : k < l.length) : cntL (l.take (k + 1)) = cntL (l.take k) + (cntV (l[k]'h) + 3) := by rw [take_snoc' h, cntL_app]; simp [cntL]
theorem cntL_take_le (l : List VT) (k : Nat) : cntL (l.take k) ≤ cntL l := by
  have := cntL_app (l.take k) (l.drop k)
  rw [List.take_append_drop] at this
  omega
theorem cntL_mem {l : List VT} {k : Nat} (h : k < l.length) : cntV (l[k]'h) + 3 + cntL (l.take k) ≤ cntL l := by
  have := cntL_succ h
  have := cntL_take_le l (k + 1)
  omega
theorem mrkL_app (q : Nat) (a b : List VT) : mrkL q (a ++ b) = mrkL q a ++ mrkL (q + cntL a) b := by
  induction a generalizing q with
  | nil => simp [mrkL, cntL]
  | cons x a ih => simp only [List.cons_append, mrkL, cntL, ih]; rw [show q + 3 + cntV x + cntL a = q + (cntV x + 3 + cntL a) by omega]
theorem mrkL_succ (q : Nat) {l : List VT} {k : Nat} (h : k < l.length) : mrkL q (l.take (k + 1)) = mrkL q (l.take k) ++ [mrkP (q + cntL (l.take k)) (l[k]'h)] := by
  rw [take_snoc' h, mrkL_app]; simp [mrkL, mrkP]
theorem mrkL_len (q : Nat) (l : List VT) : (mrkL q l).length = l.length := by
  induction l generalizing q with
  | nil => rfl
  | cons x a ih => simp [mrkL, ih]
theorem mrkL_at (q : Nat) (l : List VT) (k : Nat) (h : k < l.length) (h' : k < (mrkL q l).length) : (mrkL q l)[k] = mrkP (q + cntL (l.take k)) l[k] := by
  have h1 := mrkL_succ q h
  have e : mrkL q l = mrkL q (l.take (k + 1)) ++ mrkL (q + cntL (l.take (k + 1))) (l.drop (k + 1)) := by rw [← mrkL_app, List.take_append_drop]
  have hl : (mrkL q (l.take k)).length = k := by rw [mrkL_len, List.length_take]; omega
  have h2 : (mrkL q l)[k]? = some (mrkP (q + cntL (l.take k)) l[k]) := by
    rw [e, h1, List.append_assoc, List.getElem?_append_right (by omega), hl, Nat.sub_self]
    rfl
  exact (List.getElem?_eq_some_iff.1 h2).2

theorem cntL_ge (ps : List VT) : 3 * ps.length ≤ cntL ps := by
  induction ps with
  | nil => simp
  | cons p ps ih => simp only [cntL, List.length_cons]; omega

mutual
theorem cnt_sz : ∀ t, cntV t ≤ 3 * szV t
  | .mk k is ps ns cs ls c e => by
    have := cntL_sz ps
    simp only [cntV, szV, szI, szS]
    omega
theorem cntL_sz : ∀ ps, cntL ps ≤ 3 * szL ps
  | [] => by simp [cntL, szL]
  | p :: ps => by
    have := cnt_sz p
    have := cntL_sz ps
    simp only [cntL, szL]
    omega
end
end Go.Proofs.Ytmofcbpabdbjlaa
