/-
  What is proved: the length and the names of a result that is computed from two operands (program and reference), the elements one by one in plain Lean.
  Condition: none beyond those of the theorems.
-/
import Derived.Test.YtmofcbpabdbjlaaGreatMz4
import Derived.Test.YtmofcbpabdbjlaaGreatMz16
import Derived.Test.YtmofcbpabdbjlaaGreatMz20
namespace Go.Proofs.YtmofcbpabdbjlaaGreat

set_option maxRecDepth 8000

open Go.RowKit Go.ChangeShapes Go.WideShapes Go.Deep

set_option linter.unusedVariables false

set_option linter.unusedSimpArgs false

/-- a variable for a text -/
theorem za9 {P : Program} {o : Oper} {a : Act} {w w0 : World} {Q : Exit → Act → World → Prop} {L : List Res} {ops : Array Oper} {rest : List Oper} {T : TypeId} {x : Operand} (ho : o.op = .box T x) (hw : Region.wanted o (yielded ops a.tmps) = true) (hO : Own w0 L w) {s : ByteArray} (hx : a.eval x = .string s) {d : Tmp} (hd : o.dst = some d)
    {a' : Nat → Act} (ha : ∀ b, a.put (some d) (.pointer (some ⟨b, 0, none⟩)) = a' b) (h : ∀ b w, Own w0 (L ++ [box b T [.string s]]) w → wpList P ops Q rest (a' b) w) : wpList P ops Q (o :: rest) a w :=
  zbd (hw := hw) (wp_box_own hO ho hx rfl hd fun b w hO => by rw [ha b]; exact h b w hO)

def recB (m n : Nat) : Bool := decide (m = 0) || decide (n = 0) || decide (max m n % min m n = 0)

def recN (m n : Nat) : Nat := if m = 0 ∨ n = 0 then 0 else max m n

def difS : ByteArray := ⟨#[108, 101, 110, 103, 116, 104, 115, 32, 100, 111, 32, 110, 111, 116, 32, 109, 97, 116, 99, 104]⟩

theorem recN_le {m n k : Nat} (hm : m ≤ k) (hn : n ≤ k) : recN m n ≤ k := by
  unfold recN
  split
  · omega
  · omega

theorem emod_dec (m n : Nat) : (((m : Int) % (n : Int)) == 0) = decide (m % n = 0) := by
  rw [Bool.eq_iff_iff, beq_iff_eq, decide_eq_true_eq, ← Int.natCast_emod]
  omega

/-- the element at place i, the list begun anew at its end -/
def atI (l : List It) (i : Nat) : It := l.getD (i % l.length) ⟨0, 0, ⟨#[]⟩⟩

def pwL {α β : Type} (f : Nat → α) (g : Nat → β) {γ : Type} (G : α → β → γ) (n : Nat) : List γ := (List.range n).map fun i => G (f i) (g i)

theorem pwL_len {α β γ : Type} (f : Nat → α) (g : Nat → β) (G : α → β → γ) (n : Nat) : (pwL f g G n).length = n := by simp [pwL]

theorem pwL_succ {α β γ : Type} (f : Nat → α) (g : Nat → β) (G : α → β → γ) (n : Nat) : pwL f g G (n + 1) = pwL f g G n ++ [G (f n) (g n)] := by simp [pwL, List.range_succ]

theorem atI_eq {l : List It} {i j : Nat} (h : i % l.length = j) (hj : j < l.length) : atI l i = l[j] := by
  unfold atI
  rw [h]
  simp [hj]

/-- hands back a slice of texts of its own -/
def RetRow (l : List ByteArray) (w : World) (e : Ending) (w' : World) : Prop := ∃ A c, e = .returned (.slice A l.length c) ∧ Own w [row 9 1 (.slice A l.length c) l.length (stc l)] w'

/-- the names of a result (program) -/
def nmP (n la : Nat) (na : List ByteArray) (lb : Nat) (nb : List ByteArray) : List ByteArray := if 0 < n ∧ la = n ∧ 0 < na.length then na else if 0 < n ∧ lb = n then nb else []

/-- the names of a result (reference) -/
def nmQ (n la : Nat) (na : List ByteArray) (lb : Nat) (nb : List ByteArray) : List ByteArray := if la = n ∧ 0 < na.length then na else if lb = n then nb else []

theorem nm_eq {n la lb : Nat} {na nb : List ByteArray} (ha : na.length = 0 ∨ na.length = la) (hb : nb.length = 0 ∨ nb.length = lb) : nmP n la na lb nb = nmQ n la na lb nb := by
  unfold nmP nmQ
  by_cases hn : 0 < n
  · simp [hn]
  · have h0 : n = 0 := by omega
    subst h0
    rw [if_neg (by omega), if_neg (by omega), if_neg (by omega)]
    by_cases h : lb = 0
    · rw [if_pos h]
      exact (List.length_eq_zero_iff.1 (by omega)).symm
    · rw [if_neg h]

set_option maxHeartbeats 1000000 in
theorem impl_recycled (m n : Nat) (w : World) (hm : m ≤ 1048576) (hn : n ≤ 1048576) : Calls Tryz.prog 64 #[.int .i64 m, .int .i64 n] w fun e w' => ∃ r : Nat, e = .returned (.tuple #[.int .i64 r, .bool (recB m n)]) ∧ (recB m n = true → r = recN m n) ∧ Below w.heap.size w w' := by
  by_cases h0 : m = 0
  · subst h0
    have hB : Hid (recB 0 n = true) := Lib.hid rfl
    have hN : Hid (recN 0 n = 0) := Lib.hid rfl
    go_enter Tryz.func64, Tryz.ntmps64
    have hO := Own.nil w
    go_wp2_with (first | ((with_reducible refine zac ?_); refine zal rfl hO rfl ?_; (first | (refine nm 0 rfl ?_; clear hO; intro b0 u hO)); simp only [zL, zK] at hO) | ((with_reducible refine zad ?_); refine zbx rfl hO rfl rfl ?_; (first | (refine nm 0 rfl ?_; clear hO; intro b0 u hO)); simp only [zL, zK] at hO) | fail)
    go_ret2
    exact ⟨0, by rw [hB.out]; rfl, fun _ => hN.out.symm, hO.below⟩
  · have q0 : ((m : Int) == 0) = false := by simpa using h0
    by_cases h1 : n = 0
    · subst h1
      have hB : Hid (recB m 0 = true) := Lib.hid (by simp [recB])
      have hN : Hid (recN m 0 = 0) := Lib.hid (by simp [recN])
      clear h0
      go_enter Tryz.func64, Tryz.ntmps64
      have hO := Own.nil w
      go_wp2_with (first | ((with_reducible refine zac ?_); refine zal rfl hO rfl ?_; (first | (refine nm 0 rfl ?_; clear hO; intro b0 u hO)); simp only [zL, zK] at hO) | ((with_reducible refine zad ?_); refine zbx rfl hO rfl rfl ?_; (first | (refine nm 0 rfl ?_; clear hO; intro b0 u hO)); simp only [zL, zK] at hO) | fail)
      go_ret2
      exact ⟨0, by rw [hB.out]; rfl, fun _ => hN.out.symm, hO.below⟩
    · have q1 : ((n : Int) == 0) = false := by simpa using h1
      have hN : Hid (recN m n = max m n) := Lib.hid (by unfold recN; rw [if_neg (by omega)])
      have hB : Hid (recB m n = decide (max m n % min m n = 0)) := Lib.hid (by unfold recB; rw [decide_eq_false h0, decide_eq_false h1]; rfl)
      by_cases hlt : m < n
      · have hR : Hid (recB m n = (((n : Int) % (m : Int)) == 0)) := Lib.hid (by rw [hB.out, emod_dec, show max m n = n by omega, show min m n = m by omega])
        have hM : Hid (recN m n = n) := Lib.hid (by rw [hN.out]; omega)
        have x1 : (m : Int) < n := by omega
        have x2 : ¬ (n : Int) < m := by omega
        have x3 : ¬ (n : Int) ≤ m := by omega
        have x4 : (m : Int) ≤ n := by omega
        clear hN hB h1 hlt
        go_enter Tryz.func64, Tryz.ntmps64
        have hO := Own.nil w
        go_wp2_with (first | ((with_reducible refine zac ?_); refine zal rfl hO rfl ?_; (first | (refine nm 0 rfl ?_; clear hO; intro b0 u hO)); simp only [zL, zK] at hO) | ((with_reducible refine zad ?_); refine zbx rfl hO rfl rfl ?_; (first | (refine nm 0 rfl ?_; clear hO; intro b0 u hO)); simp only [zL, zK] at hO) | fail)
        refine J.wp_region_c (n := 23) [0, 1, 2, 3, 4, 5, 6, 7, 8, 9, 10, 11, 12] [] (deps := fun i => [[], [], [0, 1], [], [], [3, 4], [], [], [6, 7], [3, 4, 5, 6, 7, 8], [3, 4, 5, 6, 7, 8, 9], [0, 1, 2], [3, 4, 5, 6, 7, 8, 9, 10]].getD i []) (fun _ _ _ => True) (r := 0) (lst := #[true, true, true, true, true, true, true, true, true, true, true, true, true]) (by kernel_rfl) (by kernel_rfl) (by kernel_rfl) rfl (by decide) (by kernel_rfl) hO ?_
        refine zcp (h := ?_)
        refine zcp (h := ?_)
        refine zcp (h := ?_)
        refine zcp (h := ?_)
        refine zcp (h := ?_)
        refine zcp (h := ?_)
        refine zcp (h := ?_)
        refine zcp (h := ?_)
        refine zcp (h := ?_)
        refine zcp (h := ?_)
        refine zcp (h := ?_)
        refine zcp (h := ?_)
        refine zcp (h := ?_)
        refine J.Chain.nil ⟨?_, ?_⟩
        · exact J.Each.nil
        intro vs u hO hF
        clear hF
        simp only [List.flatMap_cons, List.flatMap_nil, List.append_nil, zL, zK] at hO
        simp only [J.putL]
        clear vs
        refine wpAny_done (by kernel_rfl) ?_ _
        go_wp2_with (first | ((with_reducible refine zac ?_); refine zal rfl hO rfl ?_; (first | (refine nm 0 rfl ?_; clear hO; intro b0 u hO)); simp only [zL, zK] at hO) | ((with_reducible refine zad ?_); refine zbx rfl hO rfl rfl ?_; (first | (refine nm 0 rfl ?_; clear hO; intro b0 u hO)); simp only [zL, zK] at hO) | fail)
        go_ret2
        exact ⟨n, by rw [hR.out]; rfl, fun _ => hM.out.symm, hO.below⟩
      · by_cases hgt : n < m
        · have hR : Hid (recB m n = (((m : Int) % (n : Int)) == 0)) := Lib.hid (by rw [hB.out, emod_dec, show max m n = m by omega, show min m n = n by omega])
          have hM : Hid (recN m n = m) := Lib.hid (by rw [hN.out]; omega)
          have x1 : (n : Int) < m := by omega
          have x2 : ¬ (m : Int) < n := by omega
          have x3 : ¬ (m : Int) ≤ n := by omega
          have x4 : (n : Int) ≤ m := by omega
          clear hN hB hlt hgt
          go_enter Tryz.func64, Tryz.ntmps64
          have hO := Own.nil w
          go_wp2_with (first | ((with_reducible refine zac ?_); refine zal rfl hO rfl ?_; (first | (refine nm 0 rfl ?_; clear hO; intro b0 u hO)); simp only [zL, zK] at hO) | ((with_reducible refine zad ?_); refine zbx rfl hO rfl rfl ?_; (first | (refine nm 0 rfl ?_; clear hO; intro b0 u hO)); simp only [zL, zK] at hO) | fail)
          refine J.wp_region_c (n := 23) [0, 1, 2, 3, 4, 5, 6, 7, 8, 9, 10, 11, 12] [] (deps := fun i => [[], [], [0, 1], [], [], [3, 4], [], [], [6, 7], [3, 4, 5, 6, 7, 8], [3, 4, 5, 6, 7, 8, 9], [0, 1, 2], [3, 4, 5, 6, 7, 8, 9, 10]].getD i []) (fun _ _ _ => True) (r := 0) (lst := #[true, true, true, true, true, true, true, true, true, true, true, true, true]) (by kernel_rfl) (by kernel_rfl) (by kernel_rfl) rfl (by decide) (by kernel_rfl) hO ?_
          refine zcp (h := ?_)
          refine zcp (h := ?_)
          refine zcp (h := ?_)
          refine zcp (h := ?_)
          refine zcp (h := ?_)
          refine zcp (h := ?_)
          refine zcp (h := ?_)
          refine zcp (h := ?_)
          refine zcp (h := ?_)
          refine zcp (h := ?_)
          refine zcp (h := ?_)
          refine zcp (h := ?_)
          refine zcp (h := ?_)
          refine J.Chain.nil ⟨?_, ?_⟩
          · exact J.Each.nil
          intro vs u hO hF
          clear hF
          simp only [List.flatMap_cons, List.flatMap_nil, List.append_nil, zL, zK] at hO
          simp only [J.putL]
          clear vs
          refine wpAny_done (by kernel_rfl) ?_ _
          go_wp2_with (first | ((with_reducible refine zac ?_); refine zal rfl hO rfl ?_; (first | (refine nm 0 rfl ?_; clear hO; intro b0 u hO)); simp only [zL, zK] at hO) | ((with_reducible refine zad ?_); refine zbx rfl hO rfl rfl ?_; (first | (refine nm 0 rfl ?_; clear hO; intro b0 u hO)); simp only [zL, zK] at hO) | fail)
          go_ret2
          exact ⟨m, by rw [hR.out]; rfl, fun _ => hM.out.symm, hO.below⟩
        · have hmn : m = n := by omega
          subst hmn
          have hR : Hid (recB m m = true) := Lib.hid (by rw [hB.out]; simp)
          have hM : Hid (recN m m = m) := Lib.hid (by rw [hN.out]; omega)
          clear hN hB hlt hgt
          go_enter Tryz.func64, Tryz.ntmps64
          have hO := Own.nil w
          go_wp2_with (first | ((with_reducible refine zac ?_); refine zal rfl hO rfl ?_; (first | (refine nm 0 rfl ?_; clear hO; intro b0 u hO)); simp only [zL, zK] at hO) | ((with_reducible refine zad ?_); refine zbx rfl hO rfl rfl ?_; (first | (refine nm 0 rfl ?_; clear hO; intro b0 u hO)); simp only [zL, zK] at hO) | fail)
          refine J.wp_region_c (n := 23) [0, 1, 2, 3, 4, 5, 6, 7, 8, 9, 10, 11, 12] [] (deps := fun i => [[], [], [0, 1], [], [], [3, 4], [], [], [6, 7], [3, 4, 5, 6, 7, 8], [3, 4, 5, 6, 7, 8, 9], [0, 1, 2], [3, 4, 5, 6, 7, 8, 9, 10]].getD i []) (fun _ _ _ => True) (r := 0) (lst := #[true, true, true, true, true, true, true, true, true, true, true, true, true]) (by kernel_rfl) (by kernel_rfl) (by kernel_rfl) rfl (by decide) (by kernel_rfl) hO ?_
          refine zcp (h := ?_)
          refine zcp (h := ?_)
          refine zcp (h := ?_)
          refine zcp (h := ?_)
          refine zcp (h := ?_)
          refine zcp (h := ?_)
          refine zcp (h := ?_)
          refine zcp (h := ?_)
          refine zcp (h := ?_)
          refine zcp (h := ?_)
          refine zcp (h := ?_)
          refine zcp (h := ?_)
          refine zcp (h := ?_)
          refine J.Chain.nil ⟨?_, ?_⟩
          · exact J.Each.nil
          intro vs u hO hF
          clear hF
          simp only [List.flatMap_cons, List.flatMap_nil, List.append_nil, zL, zK] at hO
          simp only [J.putL]
          clear vs
          refine wpAny_done (by kernel_rfl) ?_ _
          go_wp2_with (first | ((with_reducible refine zac ?_); refine zal rfl hO rfl ?_; (first | (refine nm 0 rfl ?_; clear hO; intro b0 u hO)); simp only [zL, zK] at hO) | ((with_reducible refine zad ?_); refine zbx rfl hO rfl rfl ?_; (first | (refine nm 0 rfl ?_; clear hO; intro b0 u hO)); simp only [zL, zK] at hO) | fail)
          go_ret2
          exact ⟨m, by rw [hR.out]; rfl, fun _ => hM.out.symm, hO.below⟩

def sizI (m n : Nat) : Int := if recB m n then (recN m n : Int) else -1

set_option maxHeartbeats 1000000 in
theorem spec_size (m n : Nat) (w : World) (hm : m ≤ 1048576) (hn : n ≤ 1048576) : Calls Tryz.prog 34 #[.int .i64 m, .int .i64 n] w fun e w' => e = .returned (.int .i64 (sizI m n)) ∧ Below w.heap.size w w' := by
  by_cases h0 : m = 0
  · subst h0
    have hB : Hid (recB 0 n = true) := Lib.hid rfl
    have hN : Hid (recN 0 n = 0) := Lib.hid rfl
    go_enter Tryz.func34, Tryz.ntmps34
    have hO := Own.nil w
    go_wp2_with (first | ((with_reducible refine zac ?_); refine zal rfl hO rfl ?_; (first | (refine nm 0 rfl ?_; clear hO; intro b0 u hO)); simp only [zL, zK] at hO) | ((with_reducible refine zad ?_); refine zbx rfl hO rfl rfl ?_; (first | (refine nm 0 rfl ?_; clear hO; intro b0 u hO)); simp only [zL, zK] at hO) | fail)
    go_ret
    exact ⟨by unfold sizI; rw [hB.out, hN.out]; rfl, hO.below⟩
  · have q0 : ((m : Int) == 0) = false := by simpa using h0
    by_cases h1 : n = 0
    · subst h1
      have hB : Hid (recB m 0 = true) := Lib.hid (by simp [recB])
      have hN : Hid (recN m 0 = 0) := Lib.hid (by simp [recN])
      clear h0
      go_enter Tryz.func34, Tryz.ntmps34
      have hO := Own.nil w
      go_wp2_with (first | ((with_reducible refine zac ?_); refine zal rfl hO rfl ?_; (first | (refine nm 0 rfl ?_; clear hO; intro b0 u hO)); simp only [zL, zK] at hO) | ((with_reducible refine zad ?_); refine zbx rfl hO rfl rfl ?_; (first | (refine nm 0 rfl ?_; clear hO; intro b0 u hO)); simp only [zL, zK] at hO) | fail)
      go_ret
      exact ⟨by unfold sizI; rw [hB.out, hN.out]; rfl, hO.below⟩
    · have q1 : ((n : Int) == 0) = false := by simpa using h1
      have hN : Hid (recN m n = max m n) := Lib.hid (by unfold recN; rw [if_neg (by omega)])
      have hB : Hid (recB m n = decide (max m n % min m n = 0)) := Lib.hid (by unfold recB; rw [decide_eq_false h0, decide_eq_false h1]; rfl)
      by_cases hlt : m < n
      · have hR : Hid (recB m n = (((n : Int) % (m : Int)) == 0)) := Lib.hid (by rw [hB.out, emod_dec, show max m n = n by omega, show min m n = m by omega])
        have hM : Hid (recN m n = n) := Lib.hid (by rw [hN.out]; omega)
        have x1 : (m : Int) < n := by omega
        have x2 : ¬ (n : Int) < m := by omega
        have x3 : ¬ (n : Int) ≤ m := by omega
        have x4 : (m : Int) ≤ n := by omega
        clear hN hB h1 hlt
        cases hq : (((n : Int) % (m : Int)) == 0) with
        | true =>
          have q2 : (((n : Int) % (m : Int)) != 0) = false := by show (!(((n : Int) % (m : Int)) == 0)) = false; rw [hq]; rfl
          have hS : Hid (sizI m n = n) := Lib.hid (by unfold sizI; rw [hR.out, hq, hM.out]; rfl)
          clear hq hR hM
          go_enter Tryz.func34, Tryz.ntmps34
          have hO := Own.nil w
          go_wp2_with (first | ((with_reducible refine zac ?_); refine zal rfl hO rfl ?_; (first | (refine nm 0 rfl ?_; clear hO; intro b0 u hO)); simp only [zL, zK] at hO) | ((with_reducible refine zad ?_); refine zbx rfl hO rfl rfl ?_; (first | (refine nm 0 rfl ?_; clear hO; intro b0 u hO)); simp only [zL, zK] at hO) | fail)
          go_ret
          exact ⟨by rw [hS.out]; rfl, hO.below⟩
        | false =>
          have q2 : (((n : Int) % (m : Int)) != 0) = true := by show (!(((n : Int) % (m : Int)) == 0)) = true; rw [hq]; rfl
          have hS : Hid (sizI m n = -1) := Lib.hid (by unfold sizI; rw [hR.out, hq]; rfl)
          clear hq hR hM
          go_enter Tryz.func34, Tryz.ntmps34
          have hO := Own.nil w
          go_wp2_with (first | ((with_reducible refine zac ?_); refine zal rfl hO rfl ?_; (first | (refine nm 0 rfl ?_; clear hO; intro b0 u hO)); simp only [zL, zK] at hO) | ((with_reducible refine zad ?_); refine zbx rfl hO rfl rfl ?_; (first | (refine nm 0 rfl ?_; clear hO; intro b0 u hO)); simp only [zL, zK] at hO) | fail)
          go_ret
          exact ⟨by rw [hS.out]; rfl, hO.below⟩
      · by_cases hgt : n < m
        · have hR : Hid (recB m n = (((m : Int) % (n : Int)) == 0)) := Lib.hid (by rw [hB.out, emod_dec, show max m n = m by omega, show min m n = n by omega])
          have hM : Hid (recN m n = m) := Lib.hid (by rw [hN.out]; omega)
          have x1 : (n : Int) < m := by omega
          have x2 : ¬ (m : Int) < n := by omega
          have x3 : ¬ (m : Int) ≤ n := by omega
          have x4 : (n : Int) ≤ m := by omega
          clear hN hB hlt hgt
          cases hq : (((m : Int) % (n : Int)) == 0) with
          | true =>
            have q2 : (((m : Int) % (n : Int)) != 0) = false := by show (!(((m : Int) % (n : Int)) == 0)) = false; rw [hq]; rfl
            have hS : Hid (sizI m n = m) := Lib.hid (by unfold sizI; rw [hR.out, hq, hM.out]; rfl)
            clear hq hR hM
            go_enter Tryz.func34, Tryz.ntmps34
            have hO := Own.nil w
            go_wp2_with (first | ((with_reducible refine zac ?_); refine zal rfl hO rfl ?_; (first | (refine nm 0 rfl ?_; clear hO; intro b0 u hO)); simp only [zL, zK] at hO) | ((with_reducible refine zad ?_); refine zbx rfl hO rfl rfl ?_; (first | (refine nm 0 rfl ?_; clear hO; intro b0 u hO)); simp only [zL, zK] at hO) | fail)
            go_ret
            exact ⟨by rw [hS.out]; rfl, hO.below⟩
          | false =>
            have q2 : (((m : Int) % (n : Int)) != 0) = true := by show (!(((m : Int) % (n : Int)) == 0)) = true; rw [hq]; rfl
            have hS : Hid (sizI m n = -1) := Lib.hid (by unfold sizI; rw [hR.out, hq]; rfl)
            clear hq hR hM
            go_enter Tryz.func34, Tryz.ntmps34
            have hO := Own.nil w
            go_wp2_with (first | ((with_reducible refine zac ?_); refine zal rfl hO rfl ?_; (first | (refine nm 0 rfl ?_; clear hO; intro b0 u hO)); simp only [zL, zK] at hO) | ((with_reducible refine zad ?_); refine zbx rfl hO rfl rfl ?_; (first | (refine nm 0 rfl ?_; clear hO; intro b0 u hO)); simp only [zL, zK] at hO) | fail)
            go_ret
            exact ⟨by rw [hS.out]; rfl, hO.below⟩
        · have hmn : m = n := by omega
          subst hmn
          have hR : Hid (recB m m = true) := Lib.hid (by rw [hB.out]; simp)
          have hM : Hid (recN m m = m) := Lib.hid (by rw [hN.out]; omega)
          clear hN hB hlt hgt
          go_enter Tryz.func34, Tryz.ntmps34
          have hO := Own.nil w
          go_wp2_with (first | ((with_reducible refine zac ?_); refine zal rfl hO rfl ?_; (first | (refine nm 0 rfl ?_; clear hO; intro b0 u hO)); simp only [zL, zK] at hO) | ((with_reducible refine zad ?_); refine zbx rfl hO rfl rfl ?_; (first | (refine nm 0 rfl ?_; clear hO; intro b0 u hO)); simp only [zL, zK] at hO) | fail)
          go_ret
          exact ⟨by unfold sizI; rw [hR.out, hM.out]; rfl, hO.below⟩

set_option maxHeartbeats 1000000 in
theorem impl_names (n : Nat) (k k' : Int) (Ai Ap An Bi Bp Bn : Option Addr) (ni ci np cp cn ni' ci' np' cp' cn' : Nat) (v4 v5 v6 v7 u4 u5 u6 u7 : Value) (na nb : List ByteArray) (w : World) (ha : Sl w 1 An na.length (stc na)) (hb : Sl w 1 Bn nb.length (stc nb)) (hna : na.length ≤ 1048576) (hnb : nb.length ≤ 1048576)
    (hl : (ni : Int) + np ≤ 9223372036854775807) (hl' : (ni' : Int) + np' ≤ 9223372036854775807) : Calls Tryz.prog 22 #[.int .i64 n, .agg #[.int .i64 k, .slice Ai ni ci, .slice Ap np cp, .slice An na.length cn, v4, v5, v6, v7], .agg #[.int .i64 k', .slice Bi ni' ci', .slice Bp np' cp', .slice Bn nb.length cn', u4, u5, u6, u7]] w (RetRow (nmP n (lenN k ni np) na (lenN k' ni' np') nb) w) := by
  have CA := fun u (hb : Below w.heap.size w u) => zbe An cn na u (ha.below hb) hna
  have CB := fun u (h : Below w.heap.size w u) => zbe Bn cn' nb u (hb.below h) hnb
  have LA := fun u => impl_length k Ai Ap ni np ci cp (.slice An na.length cn) v4 v5 v6 v7 u hl
  have LB := fun u => impl_length k' Bi Bp ni' np' ci' cp' (.slice Bn nb.length cn') u4 u5 u6 u7 u hl'
  have HE : Hid (nmP n (lenN k ni np) na (lenN k' ni' np') nb = if 0 < n ∧ lenN k ni np = n ∧ 0 < na.length then na else if 0 < n ∧ lenN k' ni' np' = n then nb else []) := Lib.hid rfl
  obtain ⟨R, hR⟩ : ∃ R, nmP n (lenN k ni np) na (lenN k' ni' np') nb = R := ⟨_, rfl⟩
  rw [hR] at HE ⊢
  obtain ⟨la, hla⟩ : ∃ l, lenN k ni np = l := ⟨_, rfl⟩
  obtain ⟨lb, hlb⟩ : ∃ l, lenN k' ni' np' = l := ⟨_, rfl⟩
  rw [hla] at LA HE
  rw [hlb] at LB HE
  clear hR hla hlb ha hb hl hl'
  by_cases e0 : 0 < n
  · have q1 : (0 : Int) < (n : Int) := by omega
    by_cases e1 : la = n
    · have q2 : ((la : Int) == (n : Int)) = true := by simp [e1]
      by_cases e3 : 0 < na.length
      · have q3 : (0 : Int) < (na.length : Int) := by omega
        have HF : Hid (R = na) := Lib.hid (by rw [HE.out, if_pos (by omega)])
        clear HE CB
        go_enter Tryz.func22, Tryz.ntmps22
        have hO := Own.nil w
        go_wp2_with (first | ((with_reducible refine (LA _).mono ?_); rintro e u ⟨rfl, hb⟩; (replace hO := hO.step hb; clear hb)) | ((with_reducible refine zad ?_); refine zbx rfl hO rfl rfl ?_; (first | (refine nm 0 rfl ?_; clear hO; intro b0 u hO) | (refine nm 1 rfl ?_; clear hO; intro b1 u hO) | fail); simp only [zL, zK] at hO) | ((with_reducible refine zaa ?_); refine zlb rfl hO rfl _ (by exact at0) ?_) | ((with_reducible refine zaa ?_); refine zlf rfl hO rfl _ (by exact at0) ?_) | fail)
        refine (CA _ hO.below).mono ?_
        rintro e u ⟨N', d', rfl, hb⟩
        replace hO := hO.call hb
        clear hb
        simp only [zK, zL] at hO
        go_wp2_with fail
        go_ret
        rw [HF.out]
        exact ⟨_, _, rfl, hO.pick [0] (by decide)⟩
      · have q3 : ¬ (0 : Int) < (na.length : Int) := by omega
        by_cases e2 : lb = n
        · have q4 : ((lb : Int) == (n : Int)) = true := by simp [e2]
          have HF : Hid (R = nb) := Lib.hid (by rw [HE.out, if_neg (by omega), if_pos (by omega)])
          clear HE CA
          go_enter Tryz.func22, Tryz.ntmps22
          have hO := Own.nil w
          go_wp2_with (first | ((with_reducible refine (LA _).mono ?_); rintro e u ⟨rfl, hb⟩; (replace hO := hO.step hb; clear hb)) | ((with_reducible refine (LB _).mono ?_); rintro e u ⟨rfl, hb⟩; (replace hO := hO.step hb; clear hb)) | ((with_reducible refine zad ?_); refine zbx rfl hO rfl rfl ?_; (first | (refine nm 0 rfl ?_; clear hO; intro b0 u hO) | (refine nm 1 rfl ?_; clear hO; intro b1 u hO) | fail); simp only [zL, zK] at hO) | ((with_reducible refine zaa ?_); refine zlb rfl hO rfl _ (by (first | exact at0 | exact at1 | fail)) ?_) | ((with_reducible refine zaa ?_); refine zlf rfl hO rfl _ (by (first | exact at0 | exact at1 | fail)) ?_) | fail)
          refine (CB _ hO.below).mono ?_
          rintro e u ⟨N', d', rfl, hb⟩
          replace hO := hO.call hb
          clear hb
          simp only [zK, zL] at hO
          go_wp2_with fail
          go_ret
          rw [HF.out]
          exact ⟨_, _, rfl, hO.pick [0] (by decide)⟩
        · have q4 : ((lb : Int) == (n : Int)) = false := by simp; omega
          have HF : Hid (R = []) := Lib.hid (by rw [HE.out, if_neg (by omega), if_neg (by omega)])
          clear HE CA CB
          go_enter Tryz.func22, Tryz.ntmps22
          have hO := Own.nil w
          go_wp2_with (first | ((with_reducible refine (LA _).mono ?_); rintro e u ⟨rfl, hb⟩; (replace hO := hO.step hb; clear hb)) | ((with_reducible refine (LB _).mono ?_); rintro e u ⟨rfl, hb⟩; (replace hO := hO.step hb; clear hb)) | ((with_reducible refine zad ?_); refine zbx rfl hO rfl rfl ?_; (first | (refine nm 0 rfl ?_; clear hO; intro b0 u hO) | (refine nm 1 rfl ?_; clear hO; intro b1 u hO) | fail); simp only [zL, zK] at hO) | ((with_reducible refine zaa ?_); refine zlb rfl hO rfl _ (by (first | exact at0 | exact at1 | fail)) ?_) | ((with_reducible refine zaa ?_); refine zlf rfl hO rfl _ (by exact at0) ?_) | fail)
          go_ret
          rw [HF.out]
          exact ⟨none, 0, rfl, (hO.addNil 9 1).pick [2] (by decide)⟩
    · have q2 : ((la : Int) == (n : Int)) = false := by simp; omega
      by_cases e2 : lb = n
      · have q4 : ((lb : Int) == (n : Int)) = true := by simp [e2]
        have HF : Hid (R = nb) := Lib.hid (by rw [HE.out, if_neg (by omega), if_pos (by omega)])
        clear HE CA
        go_enter Tryz.func22, Tryz.ntmps22
        have hO := Own.nil w
        go_wp2_with (first | ((with_reducible refine (LA _).mono ?_); rintro e u ⟨rfl, hb⟩; (replace hO := hO.step hb; clear hb)) | ((with_reducible refine (LB _).mono ?_); rintro e u ⟨rfl, hb⟩; (replace hO := hO.step hb; clear hb)) | ((with_reducible refine zad ?_); refine zbx rfl hO rfl rfl ?_; (first | (refine nm 0 rfl ?_; clear hO; intro b0 u hO) | (refine nm 1 rfl ?_; clear hO; intro b1 u hO) | fail); simp only [zL, zK] at hO) | ((with_reducible refine zaa ?_); refine zlb rfl hO rfl _ (by (first | exact at0 | exact at1 | fail)) ?_) | ((with_reducible refine zaa ?_); refine zlf rfl hO rfl _ (by exact at1) ?_) | fail)
        refine (CB _ hO.below).mono ?_
        rintro e u ⟨N', d', rfl, hb⟩
        replace hO := hO.call hb
        clear hb
        simp only [zK, zL] at hO
        go_wp2_with fail
        go_ret
        rw [HF.out]
        exact ⟨_, _, rfl, hO.pick [0] (by decide)⟩
      · have q4 : ((lb : Int) == (n : Int)) = false := by simp; omega
        have HF : Hid (R = []) := Lib.hid (by rw [HE.out, if_neg (by omega), if_neg (by omega)])
        clear HE CA CB
        go_enter Tryz.func22, Tryz.ntmps22
        have hO := Own.nil w
        go_wp2_with (first | ((with_reducible refine (LA _).mono ?_); rintro e u ⟨rfl, hb⟩; (replace hO := hO.step hb; clear hb)) | ((with_reducible refine (LB _).mono ?_); rintro e u ⟨rfl, hb⟩; (replace hO := hO.step hb; clear hb)) | ((with_reducible refine zad ?_); refine zbx rfl hO rfl rfl ?_; (first | (refine nm 0 rfl ?_; clear hO; intro b0 u hO) | (refine nm 1 rfl ?_; clear hO; intro b1 u hO) | fail); simp only [zL, zK] at hO) | ((with_reducible refine zaa ?_); refine zlb rfl hO rfl _ (by (first | exact at0 | exact at1 | fail)) ?_) | fail)
        go_ret
        rw [HF.out]
        exact ⟨none, 0, rfl, (hO.addNil 9 1).pick [2] (by decide)⟩
  · have q1 : ¬ (0 : Int) < (n : Int) := by omega
    have HF : Hid (R = []) := Lib.hid (by rw [HE.out, if_neg (by omega), if_neg (by omega)])
    clear HE CA CB
    go_enter Tryz.func22, Tryz.ntmps22
    have hO := Own.nil w
    go_wp2_with (first | ((with_reducible refine zad ?_); refine zbx rfl hO rfl rfl ?_; (first | (refine nm 0 rfl ?_; clear hO; intro b0 u hO) | (refine nm 1 rfl ?_; clear hO; intro b1 u hO) | fail); simp only [zL, zK] at hO) | fail)
    go_ret
    rw [HF.out]
    exact ⟨none, 0, rfl, (hO.addNil 9 1).pick [2] (by decide)⟩

set_option maxHeartbeats 1000000 in
theorem spec_names (n : Nat) (k k' : Int) (Ai Ap An Bi Bp Bn : Option Addr) (ni ci np cp cn ni' ci' np' cp' cn' : Nat) (v4 v5 v6 v7 u4 u5 u6 u7 : Value) (na nb : List ByteArray) (w : World) (ha : Sl w 1 An na.length (stc na)) (hb : Sl w 1 Bn nb.length (stc nb)) (hna : na.length ≤ 1048576) (hnb : nb.length ≤ 1048576)
    (hl : (ni : Int) + np ≤ 9223372036854775807) (hl' : (ni' : Int) + np' ≤ 9223372036854775807) : Calls Tryz.prog 36 #[.agg #[.int .i64 k, .slice Ai ni ci, .slice Ap np cp, .slice An na.length cn, v4, v5, v6, v7], .agg #[.int .i64 k', .slice Bi ni' ci', .slice Bp np' cp', .slice Bn nb.length cn', u4, u5, u6, u7], .int .i64 n] w (RetRow (nmQ n (lenN k ni np) na (lenN k' ni' np') nb) w) := by
  have CA := fun u (h : Below w.heap.size w u) => ha.below h
  have CB := fun u (h : Below w.heap.size w u) => hb.below h
  have LA := fun u => spec_len k Ai Ap ni np ci cp (.slice An na.length cn) v4 v5 v6 v7 u hl
  have LB := fun u => spec_len k' Bi Bp ni' np' ci' cp' (.slice Bn nb.length cn') u4 u5 u6 u7 u hl'
  have HE : Hid (nmQ n (lenN k ni np) na (lenN k' ni' np') nb = if lenN k ni np = n ∧ 0 < na.length then na else if lenN k' ni' np' = n then nb else []) := Lib.hid rfl
  obtain ⟨R, hR⟩ : ∃ R, nmQ n (lenN k ni np) na (lenN k' ni' np') nb = R := ⟨_, rfl⟩
  rw [hR] at HE ⊢
  obtain ⟨la, hla⟩ : ∃ l, lenN k ni np = l := ⟨_, rfl⟩
  obtain ⟨lb, hlb⟩ : ∃ l, lenN k' ni' np' = l := ⟨_, rfl⟩
  rw [hla] at LA HE
  rw [hlb] at LB HE
  clear hR hla hlb ha hb hl hl'
  by_cases e1 : la = n
  · have q2 : ((la : Int) == (n : Int)) = true := by simp [e1]
    by_cases e3 : 0 < na.length
    · have q3 : (0 : Int) < (na.length : Int) := by omega
      have HF : Hid (R = na) := Lib.hid (by rw [HE.out, if_pos (by omega)])
      clear HE CB
      go_enter Tryz.func36, Tryz.ntmps36
      have hO := Own.nil w
      go_wp2_with (first | ((with_reducible refine (LA _).mono ?_); rintro e u ⟨rfl, hb⟩; (replace hO := hO.step hb; clear hb)) | ((with_reducible refine zad ?_); refine zbx rfl hO rfl rfl ?_; (first | (refine nm 0 rfl ?_; clear hO; intro b0 u hO) | (refine nm 1 rfl ?_; clear hO; intro b1 u hO) | fail); simp only [zL, zK] at hO) | ((with_reducible refine zaa ?_); refine zlb rfl hO rfl _ (by exact at0) ?_) | ((with_reducible refine zaa ?_); refine zlf rfl hO rfl _ (by exact at0) ?_) | ((with_reducible refine zao ?_); refine za0 hO rfl (by rfl) rfl (fun b => by simp only [Act.put, zA, zB, zC]; rfl) ?_; clear hO; intro bb u hO; simp only [zL, zK] at hO) | ((with_reducible refine za2 ?_); refine zbf hO rfl (by rfl) rfl rfl _ (by exact at2) (CA _ hO.below) (stc_one _) (by omega) (by omega) rfl (fun A' c' => by simp only [Act.put, zA, zB, zC]; rfl) ?_; clear hO; intro A' c' u hO; simp only [zC, zB, Nat.zero_add, zL] at hO; (try simp only [Nat.zero_add])) | fail)
      go_ret
      rw [HF.out]
      exact ⟨_, _, rfl, hO.pick [2] (by decide)⟩
    · have q3 : ¬ (0 : Int) < (na.length : Int) := by omega
      by_cases e2 : lb = n
      · have q4 : ((lb : Int) == (n : Int)) = true := by simp [e2]
        have HF : Hid (R = nb) := Lib.hid (by rw [HE.out, if_neg (by omega), if_pos (by omega)])
        clear HE CA
        go_enter Tryz.func36, Tryz.ntmps36
        have hO := Own.nil w
        go_wp2_with (first | ((with_reducible refine (LA _).mono ?_); rintro e u ⟨rfl, hb⟩; (replace hO := hO.step hb; clear hb)) | ((with_reducible refine (LB _).mono ?_); rintro e u ⟨rfl, hb⟩; (replace hO := hO.step hb; clear hb)) | ((with_reducible refine zad ?_); refine zbx rfl hO rfl rfl ?_; (first | (refine nm 0 rfl ?_; clear hO; intro b0 u hO) | (refine nm 1 rfl ?_; clear hO; intro b1 u hO) | fail); simp only [zL, zK] at hO) | ((with_reducible refine zaa ?_); refine zlb rfl hO rfl _ (by (first | exact at0 | exact at1 | fail)) ?_) | ((with_reducible refine zaa ?_); refine zlf rfl hO rfl _ (by (first | exact at0 | exact at1 | fail)) ?_) | ((with_reducible refine zao ?_); refine za0 hO rfl (by rfl) rfl (fun b => by simp only [Act.put, zA, zB, zC]; rfl) ?_; clear hO; intro bb u hO; simp only [zL, zK] at hO) | ((with_reducible refine za2 ?_); refine zbf hO rfl (by rfl) rfl rfl _ (by exact at2) (CB _ hO.below) (stc_one _) (by omega) (by omega) rfl (fun A' c' => by simp only [Act.put, zA, zB, zC]; rfl) ?_; clear hO; intro A' c' u hO; simp only [zC, zB, Nat.zero_add, zL] at hO; (try simp only [Nat.zero_add])) | fail)
        go_ret
        rw [HF.out]
        exact ⟨_, _, rfl, hO.pick [2] (by decide)⟩
      · have q4 : ((lb : Int) == (n : Int)) = false := by simp; omega
        have HF : Hid (R = []) := Lib.hid (by rw [HE.out, if_neg (by omega), if_neg (by omega)])
        clear HE CA CB
        go_enter Tryz.func36, Tryz.ntmps36
        have hO := Own.nil w
        go_wp2_with (first | ((with_reducible refine (LA _).mono ?_); rintro e u ⟨rfl, hb⟩; (replace hO := hO.step hb; clear hb)) | ((with_reducible refine (LB _).mono ?_); rintro e u ⟨rfl, hb⟩; (replace hO := hO.step hb; clear hb)) | ((with_reducible refine zad ?_); refine zbx rfl hO rfl rfl ?_; (first | (refine nm 0 rfl ?_; clear hO; intro b0 u hO) | (refine nm 1 rfl ?_; clear hO; intro b1 u hO) | fail); simp only [zL, zK] at hO) | ((with_reducible refine zaa ?_); refine zlb rfl hO rfl _ (by (first | exact at0 | exact at1 | fail)) ?_) | ((with_reducible refine zaa ?_); refine zlf rfl hO rfl _ (by exact at0) ?_) | ((with_reducible refine zao ?_); refine za0 hO rfl (by rfl) rfl (fun b => by simp only [Act.put, zA, zB, zC]; rfl) ?_; clear hO; intro bb u hO; simp only [zL, zK] at hO) | fail)
        go_ret
        rw [HF.out]
        exact ⟨_, 0, rfl, hO.pick [2] (by decide)⟩
  · have q2 : ((la : Int) == (n : Int)) = false := by simp; omega
    by_cases e2 : lb = n
    · have q4 : ((lb : Int) == (n : Int)) = true := by simp [e2]
      have HF : Hid (R = nb) := Lib.hid (by rw [HE.out, if_neg (by omega), if_pos (by omega)])
      clear HE CA
      go_enter Tryz.func36, Tryz.ntmps36
      have hO := Own.nil w
      go_wp2_with (first | ((with_reducible refine (LA _).mono ?_); rintro e u ⟨rfl, hb⟩; (replace hO := hO.step hb; clear hb)) | ((with_reducible refine (LB _).mono ?_); rintro e u ⟨rfl, hb⟩; (replace hO := hO.step hb; clear hb)) | ((with_reducible refine zad ?_); refine zbx rfl hO rfl rfl ?_; (first | (refine nm 0 rfl ?_; clear hO; intro b0 u hO) | (refine nm 1 rfl ?_; clear hO; intro b1 u hO) | fail); simp only [zL, zK] at hO) | ((with_reducible refine zaa ?_); refine zlb rfl hO rfl _ (by (first | exact at0 | exact at1 | fail)) ?_) | ((with_reducible refine zaa ?_); refine zlf rfl hO rfl _ (by exact at1) ?_) | ((with_reducible refine zao ?_); refine za0 hO rfl (by rfl) rfl (fun b => by simp only [Act.put, zA, zB, zC]; rfl) ?_; clear hO; intro bb u hO; simp only [zL, zK] at hO) | ((with_reducible refine za2 ?_); refine zbf hO rfl (by rfl) rfl rfl _ (by exact at2) (CB _ hO.below) (stc_one _) (by omega) (by omega) rfl (fun A' c' => by simp only [Act.put, zA, zB, zC]; rfl) ?_; clear hO; intro A' c' u hO; simp only [zC, zB, Nat.zero_add, zL] at hO; (try simp only [Nat.zero_add])) | fail)
      go_ret
      rw [HF.out]
      exact ⟨_, _, rfl, hO.pick [2] (by decide)⟩
    · have q4 : ((lb : Int) == (n : Int)) = false := by simp; omega
      have HF : Hid (R = []) := Lib.hid (by rw [HE.out, if_neg (by omega), if_neg (by omega)])
      clear HE CA CB
      go_enter Tryz.func36, Tryz.ntmps36
      have hO := Own.nil w
      go_wp2_with (first | ((with_reducible refine (LA _).mono ?_); rintro e u ⟨rfl, hb⟩; (replace hO := hO.step hb; clear hb)) | ((with_reducible refine (LB _).mono ?_); rintro e u ⟨rfl, hb⟩; (replace hO := hO.step hb; clear hb)) | ((with_reducible refine zad ?_); refine zbx rfl hO rfl rfl ?_; (first | (refine nm 0 rfl ?_; clear hO; intro b0 u hO) | (refine nm 1 rfl ?_; clear hO; intro b1 u hO) | fail); simp only [zL, zK] at hO) | ((with_reducible refine zaa ?_); refine zlb rfl hO rfl _ (by (first | exact at0 | exact at1 | fail)) ?_) | ((with_reducible refine zao ?_); refine za0 hO rfl (by rfl) rfl (fun b => by simp only [Act.put, zA, zB, zC]; rfl) ?_; clear hO; intro bb u hO; simp only [zL, zK] at hO) | fail)
      go_ret
      rw [HF.out]
      exact ⟨_, 0, rfl, hO.pick [2] (by decide)⟩

end Go.Proofs.YtmofcbpabdbjlaaGreat
