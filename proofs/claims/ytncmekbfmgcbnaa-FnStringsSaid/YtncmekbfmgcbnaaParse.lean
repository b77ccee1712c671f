/-
  What is proved: what ParseInt (of the program and of the reference) returns, and the statement on it.
  Condition: strings of a length that is an int.
-/
import Derived.Test.YtncmekbfmgcbnaaFmtI
namespace Go.Proofs.Ytncmekbfmgcbnaa
open Go.RowKit
set_option linter.unusedVariables false
set_option linter.unusedSimpArgs false

def isDg (c : UInt8) : Bool := decide (48 ≤ c.toNat ∧ c.toNat ≤ 57)
def dval (l : List UInt8) : Nat := l.foldl (fun a c => 10 * a + (c.toNat - 48)) 0
def sgn (b : Bool) (n : Nat) : Int := if b then -(n : Int) else n
/-- is there a sign; what follows it -/
def prs (l : List UInt8) : Bool × List UInt8 := if l.head? = some 45 then (true, l.tail) else (false, l)
def parseB (l : List UInt8) : Bool := decide ((prs l).2 ≠ [] ∧ (prs l).2.length ≤ 9 ∧ (prs l).2.all isDg = true ∧ fmtI (sgn (prs l).1 (dval (prs l).2)) = l)
def parseN (l : List UInt8) : Int := if parseB l then sgn (prs l).1 (dval (prs l).2) else 0

theorem dval_snoc (l : List UInt8) (c : UInt8) : dval (l ++ [c]) = 10 * dval l + (c.toNat - 48) := by simp [dval]
theorem dval_lt : ∀ (l : List UInt8), l.all isDg = true → dval l < 10 ^ l.length := by
  intro l
  suffices h : ∀ (l : List UInt8) (a : Nat), l.all isDg = true → l.foldl (fun a c => 10 * a + (c.toNat - 48)) a < (a + 1) * 10 ^ l.length by
    intro hl; have := h l 0 hl; unfold dval; simpa using this
  intro l
  induction l with
  | nil => intro a _; simp
  | cons c l ih =>
    intro a h
    rw [List.all_cons, Bool.and_eq_true] at h
    have hc := h.1
    simp only [isDg, decide_eq_true_eq] at hc
    rw [List.foldl_cons, List.length_cons, Nat.pow_succ]
    have h1 := ih (10 * a + (c.toNat - 48)) h.2
    have h2 : (10 * a + (c.toNat - 48) + 1) * 10 ^ l.length ≤ (10 * (a + 1)) * 10 ^ l.length := Nat.mul_le_mul_right _ (by omega)
    calc _ < _ := h1
      _ ≤ _ := h2
      _ = _ := by rw [Nat.mul_comm 10 (a + 1), Nat.mul_assoc, Nat.mul_comm 10]

theorem dval_bd {l : List UInt8} {k : Nat} (h : l.all isDg = true) (hl : l.length ≤ k) : dval l < 10 ^ k := Nat.lt_of_lt_of_le (dval_lt l h) (Nat.pow_le_pow_right (by omega) hl)

theorem parse_no {l : List UInt8} (h : parseB l = false) : parseN l = 0 := by simp [parseN, h]
theorem parse_yes {l : List UInt8} (h : parseB l = true) : parseN l = sgn (prs l).1 (dval (prs l).2) := by simp [parseN, h]

theorem ne_test {a b : ByteArray} (h : a = b) : (!a.toList == b.toList) = false := by subst h; simp
theorem ne_test' {a b : ByteArray} (h : ¬ a = b) : (!a.toList == b.toList) = true := by
  have : ¬ a.toList = b.toList := fun e => h (WideShapes.bytes_inj (by rw [ByteArray.toList_eq, ByteArray.toList_eq] at e; exact e))
  simp [this]
theorem parse_val {l r : List UInt8} {b : Bool} {m : Nat} (hp : prs l = (b, r)) (hB : parseB l = true) (hm : dval r = m) : parseN l = sgn b m := by rw [parse_yes hB, hp, ← hm]

theorem take_all_snoc {r : ByteArray} {k : Nat} (hk : k < r.size) (h : (r.data.toList.take k).all isDg = true) (hc : isDg r[k] = true) :
    (r.data.toList.take (k + 1)).all isDg = true ∧ dval (r.data.toList.take (k + 1)) = 10 * dval (r.data.toList.take k) + (r[k].toNat - 48) := by
  have e : r.data.toList.take (k + 1) = r.data.toList.take k ++ [r[k]] := by
    rw [List.take_succ_eq_append_getElem (by simpa using hk)]
    rfl
  rw [e, dval_snoc, List.all_append, h]
  exact ⟨by simp [hc], rfl⟩

theorem not_all {r : ByteArray} {k : Nat} (hk : k < r.size) (hc : isDg r[k] = false) : r.data.toList.all isDg = false := by
  rw [Bool.eq_false_iff]
  intro h
  rw [List.all_eq_true] at h
  have := h r[k] (by
    have : r[k] = r.data.toList[k]'(by simpa using hk) := rfl
    rw [this]; exact List.getElem_mem _)
  rw [hc] at this
  cases this

theorem isDg_true {c : UInt8} (h : isDg c = true) : (48 : Int) ≤ c.toNat ∧ (c.toNat : Int) ≤ 57 := by
  simp only [isDg, decide_eq_true_eq] at h; omega
theorem isDg_false {c : UInt8} (h : isDg c = false) : (c.toNat : Int) < 48 ∨ ((48 : Int) ≤ c.toNat ∧ (57 : Int) < c.toNat) := by
  simp only [isDg, decide_eq_false_iff_not] at h; omega

theorem str_nil {s : ByteArray} (h : s.size = 0) : s.toList = [] := by rw [ByteArray.toList_eq]; exact List.length_eq_zero_iff.1 (by simpa using h)
theorem str_ne {s : ByteArray} (h : 0 < s.size) : ¬ s.toList = [] := by
  rw [ByteArray.toList_eq]; intro e
  have h2 := List.length_eq_zero_iff.2 e
  rw [show s.data.toList.length = s.size from by simp] at h2
  omega
theorem str_size {s : ByteArray} (h : ¬ s.toList = []) : 0 < s.size := by
  rcases Nat.eq_zero_or_pos s.size with e | e
  · exact absurd (str_nil e) h
  · exact e
theorem head_at {s : ByteArray} (h : 0 < s.size) : s.data.toList.head? = some s[0] := by
  have : s.data.toList.head? = s.data.toList[0]? := by cases s.data.toList <;> rfl
  rw [this, List.getElem?_eq_getElem (by simpa using h)]
  rfl
theorem prs_minus {s : ByteArray} (h : 0 < s.size) (hc : ((s[0].toNat : Int) == 45) = true) : prs s.data.toList = (true, (s.extract 1 s.size).data.toList) := by
  have : s[0] = 45 := by
    rw [beq_iff_eq] at hc
    have h2 : s[0].toNat = 45 := by omega
    exact UInt8.toNat.inj h2
  unfold prs
  rw [head_at h, this, if_pos rfl]
  simp [ByteArray.data_extract, List.tail_drop]
  rw [← List.drop_one]
  refine (List.take_of_length_le ?_).symm
  simp
theorem prs_plain {s : ByteArray} (h : 0 < s.size) (hc : ((s[0].toNat : Int) == 45) = false) : prs s.data.toList = (false, s.data.toList) := by
  unfold prs
  rw [head_at h, if_neg]
  intro e
  injection e with e
  rw [e] at hc
  simp at hc

theorem parseB_of {s r : ByteArray} {b : Bool} (hp : prs s.data.toList = (b, r.data.toList)) :
    parseB s.data.toList = (decide (0 < r.size) && decide (r.size ≤ 9) && r.data.toList.all isDg && decide (bstr (fmtI (sgn b (dval r.data.toList))) = s)) := by
  unfold parseB
  rw [hp]
  rw [Bool.eq_iff_iff]
  simp only [decide_eq_true_eq, Bool.and_eq_true]
  have e1 : r.data.toList ≠ [] ↔ 0 < r.size := by
    rw [← List.length_pos_iff]; simp
  have e2 : fmtI (sgn b (dval r.data.toList)) = s.data.toList ↔ bstr (fmtI (sgn b (dval r.data.toList))) = s := by
    constructor
    · intro h; exact (eq_bstr h.symm).symm
    · intro h; rw [← h]; rfl
  rw [e2]
  constructor
  · rintro ⟨h1, h2, h3, h4⟩; exact ⟨⟨⟨e1.1 h1, by simpa using h2⟩, h3⟩, h4⟩
  · rintro ⟨⟨⟨h1, h2⟩, h3⟩, h4⟩; exact ⟨e1.2 h1, by simpa using h2, h3, h4⟩

theorem prs_nil {s : ByteArray} (h : s.size = 0) : parseB s.data.toList = false := by
  have : s.data.toList = [] := List.length_eq_zero_iff.1 (by simpa using h)
  rw [this]; decide

/- the walks -/
set_option maxHeartbeats 2000000 in
theorem impl_parse (s : ByteArray) (w : World) (hs : s.size ≤ maxLen) : Calls Try.prog 68 #[.string s] w fun e w' => e = .returned (.tuple #[.int .i64 (parseN s.data.toList), .bool (parseB s.data.toList)]) ∧ Below w.heap.size w w' := by
  unfold maxLen at hs
  by_cases h0 : s.size = 0
  · have h1 := str_nil h0
    have h2 : (!s.toList.isEmpty) = false := by simp [h1]
    have hB := Lib.hid (prs_nil h0)
    clear h0
    go_enter Try.func68, Try.ntmps68
    go_wp2_with fail
    go_ret2
    exact ⟨by rw [parse_no hB.out, hB.out]; rfl, Below.refl _ _⟩
  have hp : 0 < s.size := by omega
  have h1 := str_ne hp
  have h2 : (!s.toList.isEmpty) = true := by simp [h1]
  clear h0
  cases hc : ((s[0].toNat : Int) == 45)
  · have hP := prs_plain hp hc
    have hsz : s.size = s.size := by simp
    by_cases g1 : s.size = 0
    · have e1 := str_nil g1
      have e2 : s.toList.isEmpty = true := by simp [e1]
      have hB := Lib.hid (show parseB s.data.toList = false by rw [parseB_of hP]; simp [g1])
      clear hP hsz g1

      go_enter Try.func68, Try.ntmps68
      go_wp2_with fail
      go_ret2
      exact ⟨by rw [parse_no hB.out, hB.out]; rfl, Below.refl _ _⟩

    · have e1 := str_ne (Nat.pos_of_ne_zero g1)
      have e2 : s.toList.isEmpty = false := by simp [e1]
      by_cases g2 : 9 < s.size
      · have hB := Lib.hid (show parseB s.data.toList = false by rw [parseB_of hP]; simp; omega)
        have g3 : (9 : Int) < ((s.size : Nat) : Int) := by omega
        clear hP hsz g1 g2

        go_enter Try.func68, Try.ntmps68
        go_wp2_with fail
        go_ret2
        exact ⟨by rw [parse_no hB.out, hB.out]; rfl, Below.refl _ _⟩

      · have g3 : ((s.size : Nat) : Int) ≤ 9 := by omega
        have g4 : s.size ≤ 9 := by omega
        have g5 : 0 < s.size := Nat.pos_of_ne_zero g1
        have HP := Lib.hid hP
        have HC := Lib.hid hc
        clear hP g2 g1
        go_enter Try.func68, Try.ntmps68
        go_wp2_with fail
        go_loop [6, 7] (fun n i => ∃ k : Nat, k ≤ s.size ∧ i = .int .i64 k ∧ n = .int .i64 (dval (s.data.toList.take k) : Nat) ∧ Hid ((s.data.toList.take k).all isDg = true)) (fun n i => s.size - (intOf i).toNat)
        case atStart => exact ⟨0, Nat.zero_le _, rfl, rfl, (by simp : _ = _)⟩
        case round =>
          obtain ⟨k, hk, rfl, rfl, hall⟩ := hrel
          have hb9 := dval_bd (k := 9) hall.out (by simp; omega)
          by_cases hlt : k < s.size
          · cases hd : isDg s[k]
            · have hB := Lib.hid (show parseB s.data.toList = false by rw [parseB_of HP.out, not_all hlt hd]; simp)
              have h0 := isDg_false hd
              clear hd
              rcases h0 with q1 | ⟨q1, q2⟩
              all_goals
                go_wp2_with fail
                go_ret2
                exact ⟨by rw [parse_no hB.out, hB.out]; rfl, Below.refl _ _⟩
            · obtain ⟨q1, q2⟩ := isDg_true hd
              obtain ⟨hA, hV⟩ := take_all_snoc hlt hall.out hd
              have HA := Lib.hid hA
              have HV := Lib.hid hV
              clear hd hA hV
              go_wp2_with fail
              go_round
              case rel => exact ⟨k + 1, by omega, by go_num, by rw [HV.out]; exact congrArg (Value.int .i64) (by omega), HA⟩
              case measure => simp [intOf]; omega
          · have hkn : k = s.size := by omega
            have htk : s.data.toList.take k = s.data.toList := List.take_of_length_le (by simp; omega)
            rw [htk] at hall hb9
            rw [htk]
            have HK := Lib.hid hkn
            clear hkn htk
            have hps := Lib.hid (parseB_of HP.out)
            rw [hall.out] at hps
            obtain ⟨m, hm⟩ : ∃ m, dval s.data.toList = m := ⟨_, rfl⟩
            rw [hm] at hps hb9
            rw [hm]
            have HM := Lib.hid hm
            clear hm
            by_cases hq : bstr (fmtI (sgn false m)) = s
            · have hB := Lib.hid (show parseB s.data.toList = true by rw [hps.out]; simp [hq]; omega)
              have hq2 := ne_test hq
              have HQ := Lib.hid hq
              clear hq
              have HN := Lib.hid (parse_val HP.out hB.out HM.out)
              go_wp2_with fail
              rw [show (m : Int) = sgn false m from rfl]
              refine (impl_fmt _ _ (by show _ ≤ (m : Int); omega) (by show (m : Int) ≤ _; omega)).mono ?_
              rintro e u ⟨rfl, hb⟩
              go_wp2_with fail
              go_ret2
              exact ⟨by rw [HN.out, hB.out]; rfl, hb⟩
            · have hB := Lib.hid (show parseB s.data.toList = false by rw [hps.out]; simp [hq])
              have hq2 := ne_test' hq
              have HQ := Lib.hid hq
              clear hq
              go_wp2_with fail
              rw [show (m : Int) = sgn false m from rfl]
              refine (impl_fmt _ _ (by show _ ≤ (m : Int); omega) (by show (m : Int) ≤ _; omega)).mono ?_
              rintro e u ⟨rfl, hb⟩
              go_wp2_with fail
              go_ret2
              exact ⟨by rw [parse_no hB.out, hB.out]; rfl, hb⟩
  · have hP := prs_minus hp hc
    have hsz : (s.extract 1 s.size).size = s.size - 1 := by simp
    by_cases g1 : (s.extract 1 s.size).size = 0
    · have e1 := str_nil g1
      have e2 : (s.extract 1 s.size).toList.isEmpty = true := by simp [e1]
      have hB := Lib.hid (show parseB s.data.toList = false by rw [parseB_of hP]; simp [g1])
      clear hP hsz g1

      go_enter Try.func68, Try.ntmps68
      go_wp2_with fail
      go_ret2
      exact ⟨by rw [parse_no hB.out, hB.out]; rfl, Below.refl _ _⟩

    · have e1 := str_ne (Nat.pos_of_ne_zero g1)
      have e2 : (s.extract 1 s.size).toList.isEmpty = false := by simp [e1]
      by_cases g2 : 9 < (s.extract 1 s.size).size
      · have hB := Lib.hid (show parseB s.data.toList = false by rw [parseB_of hP]; simp; omega)
        have g3 : (9 : Int) < ((s.size - 1 : Nat) : Int) := by omega
        clear hP hsz g1 g2

        go_enter Try.func68, Try.ntmps68
        go_wp2_with fail
        go_ret2
        exact ⟨by rw [parse_no hB.out, hB.out]; rfl, Below.refl _ _⟩

      · have g3 : ((s.size - 1 : Nat) : Int) ≤ 9 := by omega
        have g4 : (s.extract 1 s.size).size ≤ 9 := by omega
        have g5 : 0 < (s.extract 1 s.size).size := Nat.pos_of_ne_zero g1
        have HP := Lib.hid hP
        have HC := Lib.hid hc
        clear hP g2 g1
        go_enter Try.func68, Try.ntmps68
        go_wp2_with fail
        clear hsz e1 e2 g3
        obtain ⟨r, hr⟩ : ∃ r, s.extract 1 s.size = r := ⟨_, rfl⟩
        rw [hr] at HP g4 g5
        rw [hr]
        clear hr
        go_loop [6, 7] (fun n i => ∃ k : Nat, k ≤ r.size ∧ i = .int .i64 k ∧ n = .int .i64 (dval (r.data.toList.take k) : Nat) ∧ Hid ((r.data.toList.take k).all isDg = true)) (fun n i => r.size - (intOf i).toNat)
        case atStart => exact ⟨0, Nat.zero_le _, rfl, rfl, (by simp : _ = _)⟩
        case round =>
          obtain ⟨k, hk, rfl, rfl, hall⟩ := hrel
          have hb9 := dval_bd (k := 9) hall.out (by simp; omega)
          by_cases hlt : k < r.size
          · cases hd : isDg r[k]
            · have hB := Lib.hid (show parseB s.data.toList = false by rw [parseB_of HP.out, not_all hlt hd]; simp)
              have h0 := isDg_false hd
              clear hd
              rcases h0 with q1 | ⟨q1, q2⟩
              all_goals
                go_wp2_with fail
                go_ret2
                exact ⟨by rw [parse_no hB.out, hB.out]; rfl, Below.refl _ _⟩
            · obtain ⟨q1, q2⟩ := isDg_true hd
              obtain ⟨hA, hV⟩ := take_all_snoc hlt hall.out hd
              have HA := Lib.hid hA
              have HV := Lib.hid hV
              clear hd hA hV
              go_wp2_with fail
              go_round
              case rel => exact ⟨k + 1, by omega, by go_num, by rw [HV.out]; exact congrArg (Value.int .i64) (by omega), HA⟩
              case measure => simp [intOf]; omega
          · have hkn : k = r.size := by omega
            have htk : r.data.toList.take k = r.data.toList := List.take_of_length_le (by simp; omega)
            rw [htk] at hall hb9
            rw [htk]
            have HK := Lib.hid hkn
            clear hkn htk
            have hps := Lib.hid (parseB_of HP.out)
            rw [hall.out] at hps
            obtain ⟨m, hm⟩ : ∃ m, dval r.data.toList = m := ⟨_, rfl⟩
            rw [hm] at hps hb9
            rw [hm]
            have HM := Lib.hid hm
            clear hm
            by_cases hq : bstr (fmtI (sgn true m)) = s
            · have hB := Lib.hid (show parseB s.data.toList = true by rw [hps.out]; simp [hq]; omega)
              have hq2 := ne_test hq
              have HQ := Lib.hid hq
              clear hq
              have HN := Lib.hid (parse_val HP.out hB.out HM.out)
              go_wp2_with fail
              rw [show -(m : Int) = sgn true m from rfl]
              refine (impl_fmt _ _ (by show _ ≤ (-(m : Int)); omega) (by show (-(m : Int)) ≤ _; omega)).mono ?_
              rintro e u ⟨rfl, hb⟩
              go_wp2_with fail
              go_ret2
              exact ⟨by rw [HN.out, hB.out]; rfl, hb⟩
            · have hB := Lib.hid (show parseB s.data.toList = false by rw [hps.out]; simp [hq])
              have hq2 := ne_test' hq
              have HQ := Lib.hid hq
              clear hq
              go_wp2_with fail
              rw [show -(m : Int) = sgn true m from rfl]
              refine (impl_fmt _ _ (by show _ ≤ (-(m : Int)); omega) (by show (-(m : Int)) ≤ _; omega)).mono ?_
              rintro e u ⟨rfl, hb⟩
              go_wp2_with fail
              go_ret2
              exact ⟨by rw [parse_no hB.out, hB.out]; rfl, hb⟩
end Go.Proofs.Ytncmekbfmgcbnaa
