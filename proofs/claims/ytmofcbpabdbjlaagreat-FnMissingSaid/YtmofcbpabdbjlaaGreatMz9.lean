/-
  What is proved: append of a slice that lies anywhere; an empty slice literal as a row; FormatInt of the program and of the reference return the decimal text of every int. plain facts on slices of bytes that a call makes itself: how they read, how they are turned round, and the string that they make. FormatInt of the program returns the decimal text of every int, as the reference does; the statement on it.
  Condition: the argument is an int of 64 bits. No condition.
-/
import Derived.Deep.Upon
import Derived.Laws.BytesArg
import Derived.WalkLawsBesides
import Derived.WalkSmall
import Derived.WalkSpells
import Derived.Test.YtmofcbpabdbjlaaGreatMz1
import Derived.Test.YtmofcbpabdbjlaaGreatMz2
import Derived.Test.YtmofcbpabdbjlaaGreatMz7
namespace Go.Proofs.YtmofcbpabdbjlaaGreat

set_option maxRecDepth 8000

open Go Go.RowKit

set_option linter.unusedSimpArgs false

set_option linter.unusedVariables false

section

variable {P : Program} {o : Oper} {a : Act} {w w' w0 : World} {K : Act → World → Prop} {Q : Exit → Act → World → Prop} {L : List Res} {ops : Array Oper} {rest : List Oper}

theorem add_off (b off i : Nat) : (⟨b, off, none⟩ : Addr).add i = ⟨b, off + i, none⟩ := by
  unfold Addr.add
  by_cases h0 : i = 0 <;> simp [h0]

theorem wp_append_src (hO : Own w0 L w) {s x : Operand} {t : TypeId} (ho : o.op = .call { callee := .builtin .append, args := #[s, x], argTypes := #[t, t] })
    {E sz bytes : Nat} [hT : RowT P t E sz bytes] {A : Option Addr} {n c : Nat} (hs : a.eval s = .slice A n c) {B : Option Addr} {m c' : Nat} (hx : a.eval x = .slice B m c')
    (k : Nat) {xs : List Value} (hk : L[k]? = some (row E sz (.slice A n c) n xs)) {news : List Value} (hsl : Sl w sz B m news) (h1 : news.all (·.oneCell') = true)
    (h63 : n + m ≤ 9223372036854775807) (hbytes : (n + m) * bytes ≤ 140737488355328) {d : Tmp} (hd : o.dst = some d)
    (h : ∀ A' c' w', Own w0 (L.set k (row E sz (.slice A' (n + m) c') (n + m) (xs ++ news))) w' → K (a.put (some d) (.slice A' (n + m) c')) w') : o.wp P a w K Q := by
  by_cases h0 : m = 0
  · subst h0
    have hn : news = [] := List.length_eq_zero_iff.1 (by have := hsl.len; simpa using this)
    subst hn
    obtain ⟨i, z, t1, t2, t3, t4, t5, t6, t7⟩ := hT.of
    have hnc := row_cap (hO.get k hk)
    have hr := Go.run_append_nothing (P := P) w t t o.type E i t1 t2 A n c hnc (.slice B 0 c') ⟨.inl ⟨_, t1⟩, fun w' => by simp [Builtin.lenOf], by cases B <;> simp [Builtin.firstCells, loadCells, loadCellsFrom], by cases B <;> simp [Builtin.firstCells, loadCells, loadCellsFrom], by simp, by simp⟩
    unfold Oper.wp execOp
    simp only [ho, resolve, invoke, builtin, Sem.run_bind, Sem.run_pure, Result.andThen_ok, List.map_toArray, List.map_cons, List.map_nil, hs, hx, hr]
    show K (a.put o.dst _) _
    rw [hd]
    refine h A c w ?_
    have e : L.set k (row E sz (.slice A (n + 0) c) (n + 0) (xs ++ [])) = L := by
      rw [List.append_nil, Nat.add_zero]
      obtain ⟨hlt, he⟩ := List.getElem?_eq_some_iff.1 hk
      rw [← he, List.set_getElem_self]
    rw [e]
    exact hO
  · obtain ⟨b, off, rfl, hb, hc⟩ := hsl.at_ (by omega)
    refine wp_append_row hO (Below.refl _ _) ho hs hx k hk news hsl.len (fun j u hu => ?_) (fun u hu => (List.all_eq_true.1 h1) u hu) h63 hbytes hd h
    rw [add_off]
    exact hc j u hu

theorem zbf (hO : Own w0 L w) {s x : Operand} {t : TypeId} (ho : o.op = .call { callee := .builtin .append, args := #[s, x], argTypes := #[t, t] }) (hw : Region.wanted o (yielded ops a.tmps) = true)
    {E sz bytes : Nat} [hT : RowT P t E sz bytes] {A : Option Addr} {n c : Nat} (hs : a.eval s = .slice A n c) {B : Option Addr} {m c' : Nat} (hx : a.eval x = .slice B m c')
    (k : Nat) {xs : List Value} (hk : L[k]? = some (row E sz (.slice A n c) n xs)) {news : List Value} (hsl : Sl w sz B m news) (h1 : news.all (·.oneCell') = true)
    (h63 : n + m ≤ 9223372036854775807) (hbytes : (n + m) * bytes ≤ 140737488355328) {d : Tmp} (hd : o.dst = some d) {a' : Option Addr → Nat → Act} (ha : ∀ A' c', a.put (some d) (.slice A' (n + m) c') = a' A' c')
    (h : ∀ A' c' w', Own w0 (L.set k (row E sz (.slice A' (n + m) c') (n + m) (xs ++ news))) w' → wpList P ops Q rest (a' A' c') w') : wpList P ops Q (o :: rest) a w :=
  zbd (hw := hw) (wp_append_src hO ho hs hx k hk hsl h1 h63 hbytes hd fun A' c' w' h' => by rw [ha]; exact h A' c' w' h')

theorem za0 (hO : Own w0 L w) {t : TypeId} (ho : o.op = .buildSlice t 0 #[]) (hw : Region.wanted o (yielded ops a.tmps) = true) {E sz bytes : Nat} [hT : RowT P t E sz bytes]
    {d : Tmp} (hd : o.dst = some d) {a' : Nat → Act} (ha : ∀ b, a.put (some d) (.slice (some ⟨b, 0, none⟩) 0 0) = a' b)
    (h : ∀ b w', Own w0 (L ++ [row E sz (.slice (some ⟨b, 0, none⟩) 0 0) 0 []]) w' → wpList P ops Q rest (a' b) w') : wpList P ops Q (o :: rest) a w :=
  zbd (hw := hw) (wp_build_list hO ho [] rfl rfl rfl (by omega) rfl hd fun b w' h' => by
    rw [ha]
    refine h b w' ?_
    have h1 := h'.perm (L' := box b E [] :: L) List.perm_append_comm
    have h2 := h1.box_row sz 0 (by simp) (by omega)
    exact h2.perm (List.perm_append_comm (l₁ := [_])))

end

/-- copies of texts -/
theorem zbe (A : Option Addr) (c : Nat) (l : List ByteArray) (w : World) (h : Sl w 1 A l.length (stc l)) (hn : l.length ≤ 1048576) :
    Calls Tryz.prog 44 #[.slice A l.length c] w fun e w' => ∃ A' c', e = .returned (.slice A' l.length c') ∧ Own w [row 9 1 (.slice A' l.length c') l.length (stc l)] w' := by
  have S := fun u (hb : Below w.heap.size w u) => h.below hb
  go_enter Tryz.func44, Tryz.ntmps44
  have hO := Own.nil w
  go_wp2_with (first
    | ((with_reducible refine zao ?_); refine za0 hO rfl (by rfl) rfl (fun b => by simp only [Act.put, zA, zB, zC]; rfl) ?_; clear hO; intro bb u hO; simp only [zL, zK] at hO)
    | ((with_reducible refine za2 ?_); refine zbf hO rfl (by rfl) rfl rfl _ (by exact at0) (S _ hO.below) (stc_one _) (by omega) (by omega) rfl (fun A' c' => by simp only [Act.put, zA, zB, zC]; rfl) ?_; clear hO; intro A' c' u hO; simp only [zC, zB, Nat.zero_add, zL] at hO; (try simp only [Nat.zero_add]))
    | fail)
  go_ret
  exact ⟨_, _, rfl, hO⟩

end Go.Proofs.YtmofcbpabdbjlaaGreat

namespace Go.Proofs.YtmofcbpabdbjlaaGreat

set_option maxRecDepth 8000

section

open Go.RowKit

set_option linter.unusedVariables false

set_option linter.unusedSimpArgs false

/-- the digit d as a byte -/
def dch (d : Nat) : UInt8 := UInt8.ofNat (48 + d)

/-- the decimal digits of a natural number; none of 0 -/
def dig (n : Nat) : List UInt8 := if h : n = 0 then [] else dig (n / 10) ++ [dch (n % 10)]
termination_by n
decreasing_by omega

theorem dig_zero : dig 0 = [] := by rw [dig]; simp

theorem dig_pos {n : Nat} (h : 0 < n) : dig n = dig (n / 10) ++ [dch (n % 10)] := by
  rw [dig]
  simp [show ¬ n = 0 by omega]

theorem dig_len (n : Nat) : (dig n).length ≤ 1 + n / 10 := by
  by_cases h : n = 0
  · subst h; rw [dig_zero]; simp
  · rw [dig_pos (by omega), List.length_append]
    have := dig_len (n / 10)
    by_cases h9 : n / 10 = 0
    · rw [h9, dig_zero] at *; simp
    · simp; omega
termination_by n
decreasing_by omega

theorem dig_ne {n : Nat} (h : 0 < n) : 0 < (dig n).length := by rw [dig_pos h]; simp

/-- the text of an int -/
def fmtI (n : Int) : List UInt8 := if n = 0 then [48] else if n < 0 then 45 :: dig n.natAbs else dig n.natAbs

def bstr (l : List UInt8) : ByteArray := ⟨l.toArray⟩

theorem bstr_size (l : List UInt8) : (bstr l).size = l.length := rfl

theorem eq_bstr {s : ByteArray} {l : List UInt8} (h : s.data.toList = l) : s = bstr l := by
  subst h; rfl

theorem digit_text (d : Nat) (h : d < 10) : (ByteArray.extract ⟨#[48, 49, 50, 51, 52, 53, 54, 55, 56, 57]⟩ d (d + 1)).data.toList = [dch d] := by
  match d, h with
  | 0, _ => rfl
  | 1, _ => rfl
  | 2, _ => rfl
  | 3, _ => rfl
  | 4, _ => rfl
  | 5, _ => rfl
  | 6, _ => rfl
  | 7, _ => rfl
  | 8, _ => rfl
  | 9, _ => rfl

theorem step_text {N a : Nat} {t : ByteArray} (ha : 0 < a) (h : dig a ++ t.data.toList = dig N) :
    dig (a / 10) ++ (bstr [dch (a % 10)] ++ t).data.toList = dig N := by
  rw [← h, dig_pos ha]
  simp [bstr]

theorem slice_digit (x : Int) (d : Nat) (hx : x = d) (hd : d < 10) (w : World) :
    (Instr.slice 9 (.string ⟨#[48, 49, 50, 51, 52, 53, 54, 55, 56, 57]⟩) (some (.int .i64 x)) (some (.int .i64 (x + 1))) none).run Tryz.prog w = .ok (.string (bstr [dch d])) w := by
  subst hx
  rw [run_slice_string_if _ _ _ _ _ _ _ Tryz.underlying9]
  have h1 : (0 : Int) ≤ (d : Int) + 1 ∧ (d : Int) + 1 ≤ ((⟨#[48, 49, 50, 51, 52, 53, 54, 55, 56, 57]⟩ : ByteArray).size : Int) := by
    rw [show (⟨#[48, 49, 50, 51, 52, 53, 54, 55, 56, 57]⟩ : ByteArray).size = 10 from rfl]; omega
  rw [if_pos h1, if_pos ⟨by omega, by omega⟩]
  have e1 : ((d : Int)).toNat = d := by omega
  have e2 : ((d : Int) + 1).toNat = d + 1 := by omega
  rw [e1, e2]
  exact congrArg (fun s => Result.ok (Value.string s) w) (eq_bstr (digit_text d hd))

theorem text_size {N a : Nat} {t : ByteArray} (ha : 0 < a) (h : dig a ++ t.data.toList = dig N) : t.size ≤ N / 10 := by
  have h1 := dig_len N
  have h2 := dig_ne ha
  have h3 : (dig a ++ t.data.toList).length = (dig N).length := by rw [h]
  have h4 : t.data.toList.length = t.size := by simp
  simp only [List.length_append] at h3
  omega

theorem spec_fmt_pos (n : Nat) (w : World) (h0 : 0 < n) (h : n ≤ 9223372036854775807) :
    Calls Tryz.prog 102 #[.int .i64 n] w fun e w' => e = .returned (.string (bstr (dig n))) ∧ w = w' := by
  have g0 : ((n : Int) == 0) = false := by simp; omega
  go_enter Tryz.func102, Tryz.ntmps102
  go_wp2_with fail
  go_loop [3, 4] (fun s x => ∃ (a : Nat) (t : ByteArray), s = .string t ∧ x = .int .i64 a ∧ a ≤ n ∧ Hid (dig a ++ t.data.toList = dig n)) (fun _ x => (intOf x).toNat)
  case atStart => exact ⟨n, ⟨#[]⟩, rfl, rfl, Nat.le_refl _, by simp [Hid]⟩
  case round =>
    obtain ⟨a, t, rfl, rfl, han, hd⟩ := hrel
    by_cases ha : 0 < a
    · have g1 : ((a : Int) != 0) = true := by simp; omega
      have hs := text_size ha hd.out
      have hs2 : t.size ≤ 922337203685477580 := by omega
      have hst := Lib.hid (step_text ha hd.out)
      have hsz : (bstr [dch (a % 10)]).size = 1 := rfl
      have hsl := slice_digit ((a : Int) % 10) (a % 10) (by omega) (by omega)
      clear hs
      go_wp2_with fail
      go_round
      case rel => exact ⟨a / 10, bstr [dch (a % 10)] ++ t, rfl, by go_num, by omega, hst⟩
      case measure => simp [intOf]; omega
    · have hz : a = 0 := by omega
      have g1 : ((a : Int) != 0) = false := by simp [hz]
      have fin : Hid (t.data.toList = dig n) := by have := hd.out; rw [hz, dig_zero] at this; exact this
      clear hz
      go_wp2_with fail
      go_ret
      exact ⟨ret_str (eq_bstr fin.out), rfl⟩

theorem spec_fmt_neg (n : Nat) (w : World) (h0 : 0 < n) (h : n ≤ 9223372036854775808) :
    Calls Tryz.prog 102 #[.int .i64 (-(n : Int))] w fun e w' => e = .returned (.string (bstr (45 :: dig n))) ∧ w = w' := by
  have g0 : ((-(n : Int)) == 0) = false := by simp; omega
  have g9 : (-(n : Int)) < 0 := by omega
  go_enter Tryz.func102, Tryz.ntmps102
  go_wp2_with fail
  go_loop [3, 4] (fun s x => ∃ (a : Nat) (t : ByteArray), s = .string t ∧ x = .int .i64 (-(a : Int)) ∧ a ≤ n ∧ Hid (dig a ++ t.data.toList = dig n)) (fun _ x => (- intOf x).toNat)
  case atStart => exact ⟨n, ⟨#[]⟩, rfl, rfl, Nat.le_refl _, by simp [Hid]⟩
  case round =>
    obtain ⟨a, t, rfl, rfl, han, hd⟩ := hrel
    by_cases ha : 0 < a
    · have g1 : ((-(a : Int)) != 0) = true := by simp; omega
      have hs := text_size ha hd.out
      have hs2 : t.size ≤ 922337203685477580 := by omega
      have hst := Lib.hid (step_text ha hd.out)
      have hsz : (bstr [dch (a % 10)]).size = 1 := rfl
      have hsl := slice_digit ((a : Int) % 10) (a % 10) (by omega) (by omega)
      clear hs
      by_cases hq : a % 10 = 0
      · have hq1 : (a : Int) % 10 = 0 := by omega
        have hq2 : ¬ 0 < (a : Int) % 10 := by omega
        have hsl0 := slice_digit (-((a : Int) % 10)) 0 (by omega) (by omega)
        have hsz0 : (bstr [dch 0]).size = 1 := rfl
        have hst0 : Hid (dig (a / 10) ++ (bstr [dch 0] ++ t).data.toList = dig n) := by have := hst.out; rw [hq] at this; exact this
        clear hq hq1 hsl hsz
        go_wp2_with fail
        go_round
        case rel => exact ⟨a / 10, bstr [dch 0] ++ t, rfl, by go_num, by omega, hst0⟩
        case measure => simp [intOf]; omega
      · have hq2 : 0 < (a : Int) % 10 := by omega
        clear hq
        go_wp2_with fail
        go_round
        case rel => exact ⟨a / 10, bstr [dch (a % 10)] ++ t, rfl, by go_num, by omega, hst⟩
        case measure => simp [intOf]; omega
    · have hz : a = 0 := by omega
      have g1 : ((-(a : Int)) != 0) = false := by simp [hz]
      have fin : Hid (t.data.toList = dig n) := by have := hd.out; rw [hz, dig_zero] at this; exact this
      have fs : t.size ≤ 9223372036854775000 := by
        have h1 := dig_len n
        have h2 : t.data.toList.length = t.size := by simp
        rw [fin.out] at h2
        omega
      clear hz
      go_wp2_with fail
      go_ret
      exact ⟨ret_str (eq_bstr (by simp [fin.out])), rfl⟩

end

section

open Go.RowKit

set_option linter.unusedVariables false

set_option linter.unusedSimpArgs false

/-- the cells of a slice of bytes -/
def bcs (l : List UInt8) : List Value := l.map fun c => .int .u8 (c.toNat : Int)

theorem bcs_app (a b : List UInt8) : bcs (a ++ b) = bcs a ++ bcs b := by simp [bcs]

theorem bcs_one (c : UInt8) : bcs [c] = [.int .u8 (c.toNat : Int)] := rfl

theorem bcs_at (l : List UInt8) (k : Nat) (h : k < l.length) : (bcs l)[k]? = some (.int .u8 ((l[k]?.getD 0).toNat : Int)) := by
  simp [bcs, h]

theorem bcs_set (l : List UInt8) (k : Nat) (c : UInt8) : (bcs l).set k (.int .u8 (c.toNat : Int)) = bcs (l.set k c) := by
  simp [bcs, List.map_set]

theorem info_byte : (Tryz.prog.info? 5).map (fun i => (i.zero, i.size, i.bytes)) = some (some (.int .u8 0), 1, 1) := by kernel_rfl

/-- the list after i exchanges of its ends -/
def rv (L : List UInt8) (i : Nat) : List UInt8 := (List.range L.length).map fun m => if m < i ∨ L.length ≤ m + i then L[L.length - 1 - m]?.getD 0 else L[m]?.getD 0

theorem rv_len (L : List UInt8) (i : Nat) : (rv L i).length = L.length := by simp [rv]

theorem rv_at (L : List UInt8) (i m : Nat) (h : m < L.length) : (rv L i)[m]? = some (if m < i ∨ L.length ≤ m + i then L[L.length - 1 - m]?.getD 0 else L[m]?.getD 0) := by
  simp [rv, h]

theorem rv_zero (L : List UInt8) : rv L 0 = L := by
  apply List.ext_getElem?
  intro m
  by_cases h : m < L.length
  · rw [rv_at L 0 m h, if_neg (by omega), List.getElem?_eq_getElem h]; rfl
  · rw [List.getElem?_eq_none (by rw [rv_len]; omega), List.getElem?_eq_none (by omega)]

theorem rv_mid (L : List UInt8) (i m : Nat) (h : m < L.length) (h1 : i ≤ m) (h2 : m + i < L.length) : (rv L i)[m]? = some (L[m]?.getD 0) := by
  rw [rv_at L i m h, if_neg (by omega)]

theorem rv_step (L : List UInt8) (i j : Nat) (h : i < j) (hj : i + j + 1 = L.length) :
    ((rv L i).set i ((rv L i)[j]?.getD 0)).set j ((rv L i)[i]?.getD 0) = rv L (i + 1) := by
  have ei := rv_mid L i i (by omega) (by omega) (by omega)
  have ej := rv_mid L i j (by omega) (by omega) (by omega)
  rw [ei, ej]
  apply List.ext_getElem?
  intro m
  by_cases hm : m < L.length
  · rw [rv_at L (i + 1) m hm, List.getElem?_set, List.getElem?_set, rv_at L i m hm]
    simp only [List.length_set, rv_len]
    by_cases h1 : j = m
    · subst h1
      rw [if_pos rfl, if_pos hm, if_pos (by omega), show L.length - 1 - j = i by omega]; rfl
    · rw [if_neg h1]
      by_cases h2 : i = m
      · subst h2
        rw [if_pos rfl, if_pos hm, if_pos (by omega), show L.length - 1 - i = j by omega]; rfl
      · rw [if_neg h2]
        by_cases h3 : m < i ∨ L.length ≤ m + i
        · rw [if_pos h3, if_pos (by omega)]
        · rw [if_neg h3, if_neg (by omega)]
  · rw [List.getElem?_eq_none (by simp [rv_len]; omega), List.getElem?_eq_none (by rw [rv_len]; omega)]

theorem rv_end (L : List UInt8) (i j : Nat) (h : j ≤ i) (hj : i + j + 1 = L.length) : rv L i = L.reverse := by
  apply List.ext_getElem?
  intro m
  by_cases hm : m < L.length
  · rw [rv_at L i m hm, List.getElem?_reverse hm, List.getElem?_eq_getElem (show L.length - 1 - m < L.length by omega)]
    by_cases h3 : m < i ∨ L.length ≤ m + i
    · rw [if_pos h3]; rfl
    · rw [if_neg h3, List.getElem?_eq_getElem hm]
      have : m = L.length - 1 - m := by omega
      simp only [Option.getD_some]
      congr 1
      congr 1
  · rw [List.getElem?_eq_none (by rw [rv_len]; omega), List.getElem?_eq_none (by simp; omega)]

/-- 'string(b)' of a slice that the call owns -/
theorem conv_own {w : World} {base g n c : Nat} {l : List UInt8} (h : w.ownsRow base 5 1 (.slice (some ⟨g, 0, none⟩) n c) n (bcs l)) :
    (convert 22 9 (.slice (some ⟨g, 0, none⟩) n c)).run Tryz.prog w = .ok (.string ⟨l.toArray⟩) w := by
  have hl : l.length = n := by have := h.1; simpa [bcs] using this
  have h1 := run_convert_bytes_arg (P := Tryz.prog) w 22 5 Tryz.underlying22 Tryz.underlying5 g 0 n c (l.map fun c => (c.toNat : Int)) (by simpa using hl) (fun i hi => by
    rw [Nat.zero_add, h.cellAt i (by omega), bcs_at l i (by omega)]
    simp [List.getD_eq_getElem?_getD, show i < l.length by omega]) 9 Tryz.underlying9
  rw [h1]
  congr 2
  apply WideShapes.bytes_inj
  rw [strOfNums_data, List.map_map]
  show _ = l
  conv => rhs; rw [← List.map_id l]
  apply List.map_congr_left
  intro x _
  simp

end

section

open Go.RowKit

set_option linter.unusedVariables false

set_option linter.unusedSimpArgs false

theorem dch_nat {d : Nat} (h : d < 10) : ((dch d).toNat : Int) = 48 + (d : Int) := by
  unfold dch
  rw [UInt8.toNat_ofNat_of_lt' (by simp [UInt8.size]; omega)]
  omega

theorem step_digits {n a : Nat} {D : List UInt8} (ha : 0 < a) (h : dig a ++ D.reverse = dig n) : dig (a / 10) ++ (D ++ [dch (a % 10)]).reverse = dig n := by
  rw [← h, dig_pos ha]
  simp

theorem dig_le : ∀ (k n : Nat), n < 10 ^ k → (dig n).length ≤ k
  | 0, n, h => by
    have : n = 0 := by simpa using h
    subst this; rw [dig_zero]; simp
  | k + 1, n, h => by
    by_cases h0 : n = 0
    · subst h0; rw [dig_zero]; simp
    · rw [dig_pos (by omega), List.length_append]
      have := dig_le k (n / 10) (by rw [Nat.pow_succ] at h; omega)
      simp; omega

theorem digits_len {n a : Nat} {D : List UInt8} (hn : n ≤ 9223372036854775808) (ha : 0 < a) (h : dig a ++ D.reverse = dig n) : D.length ≤ 19 := by
  have h1 := dig_le 20 n (by omega)
  have h2 := dig_ne ha
  have h3 : (dig a ++ D.reverse).length = (dig n).length := by rw [h]
  simp only [List.length_append, List.length_reverse] at h3
  omega

set_option maxHeartbeats 1000000 in
theorem impl_fmt_pos (n : Nat) (w : World) (h0 : 0 < n) (h : n ≤ 9223372036854775807) :
    Calls Tryz.prog 111 #[.int .i64 n] w fun e w' => e = .returned (.string (bstr (dig n))) ∧ Below w.heap.size w w' := by
  have g0 : ((n : Int) == 0) = false := by simp; omega
  have g9 : ¬ (n : Int) < 0 := by omega
  obtain ⟨i0, hi, hz0, hz1, hz2⟩ := info_parts info_byte
  go_enter Tryz.func111, Tryz.ntmps111
  go_wp2_with fail
  go_loopw [0, 3] (fun x v wr => ∃ (a : Nat) (D : List UInt8), x = .int .i64 a ∧ a ≤ n ∧ wr.ownsRow w.heap.size 5 1 v D.length (bcs D) ∧ Hid (dig a ++ D.reverse = dig n) ∧ Below w.heap.size w wr) (fun x _ _ => (intOf x).toNat)
  case atStart => exact ⟨n, [], rfl, Nat.le_refl _, World.ownsRow_nil _ _ _ _, by simp [Hid], Below.refl _ _⟩
  case round =>
    obtain ⟨a, D, rfl, han, hown, hd, hbel⟩ := hrel
    by_cases ha : 0 < a
    · have g1 : ((a : Int) != 0) = true := by simp; omega
      have hlen := digits_len (by omega) ha hd.out
      have hst := Lib.hid (step_digits ha hd.out)
      have hdn := Lib.hid (dch_nat (d := a % 10) (by omega))
      have hbs := hbel.size
      have ha10 : 0 ≤ (a : Int) % 10 ∧ (a : Int) % 10 ≤ 9 := by omega
      obtain ⟨hr1, hr2⟩ := ha10
      go_wp2_with (at_builtin; refine wpList_append_own _ rfl (.tmp 20) (.tmp 24) 22 rfl w.heap.size 5 i0 (.int .u8 0) 1 1 Tryz.underlying22 hi hz0 hz1 hz2 rfl (by decide) _ _ _ rfl (hown.alloc _) ⟨wr.heap.size, 0, none⟩ 1 1 [.int .u8 (48 + (a : Int) % 10)] rfl rfl ?c1 ?c2 ?c3 ?c4 ?c5 ?_)
      case c1 =>
        intro j u hj
        match j, hj with
        | 0, hj => simp at hj; subst hj; simp [Addr.add]
      case c2 => intro u hu; simp at hu; subst hu; rfl
      case c3 => unfold maxLen; omega
      case c4 => omega
      case c5 => simp; omega
      intro v' w1 hown' hgrow _
      have hlt := hown.lt
      have hb1 : Below w.heap.size w w1 := (hbel.alloc hbs _).grown hgrow (by simp; omega) (fun k hk => (hlt k hk).1)
      have hown2 : w1.ownsRow w.heap.size 5 1 v' (D ++ [dch (a % 10)]).length (bcs (D ++ [dch (a % 10)])) := by
        have e := hdn.out
        rw [bcs_app, bcs_one, e, List.length_append]
        have := hown'
        simpa using this
      clear hown' hgrow hown hlt
      go_wp2_with fail
      go_roundw
      case rel => exact ⟨a / 10, D ++ [dch (a % 10)], by go_num, by omega, hown2, hst, hb1⟩
      case measure => simp [intOf]; omega
    · have hz : a = 0 := by omega
      have g1 : ((a : Int) != 0) = false := by simp [hz]
      have hDn : Hid (D.reverse = dig n) := by have := hd.out; rw [hz, dig_zero] at this; exact this
      have hpos : 0 < D.length := by
        have := dig_ne h0
        rw [← hDn.out] at this
        simpa using this
      have hlen : D.length ≤ 20 := by
        have := dig_le 20 n (by omega)
        rw [← hDn.out] at this
        simpa using this
      clear hz hd
      obtain ⟨g, c, hv, hgB, hgl⟩ := own_form hown hpos
      subst hv
      go_wp2_with fail
      go_loopw [6, 7] (fun x y ws => ∃ i j : Nat, x = .int .i64 i ∧ y = .int .i64 j ∧ i + j + 1 = D.length ∧ ws.ownsRow w.heap.size 5 1 (.slice (some ⟨g, 0, none⟩) D.length c) D.length (bcs (rv D i)) ∧ Below w.heap.size w ws) (fun x y _ => D.length - (intOf x).toNat)
      case atStart => exact ⟨0, D.length - 1, rfl, by go_num, by omega, by rw [rv_zero]; exact hown, hbel⟩
      case round =>
        obtain ⟨i, j, rfl, rfl, hij, hown2, hbel2⟩ := hrel
        have HIJ := Lib.hid hij
        by_cases hlt : i < j
        · have hlen2 : i < D.length ∧ j < D.length := by omega
          obtain ⟨q1, q2⟩ := hlen2
          clear hij
          have ci := hown2.cellAt i (by omega)
          have cj := hown2.cellAt j (by omega)
          rw [bcs_at _ _ (by rw [rv_len]; omega)] at ci cj
          have fi := hown2.frozenAt i
          have fj := hown2.frozenAt j
          have hst := (((hown2.stored i (.int .u8 (((rv D i)[j]?.getD 0).toNat : Int))).1).stored j (.int .u8 (((rv D i)[i]?.getD 0).toNat : Int))).1
          rw [bcs_set, bcs_set, rv_step D i j hlt HIJ.out] at hst
          have HST := Lib.hid hst
          have hB1 := (hbel2.setCell (p := ⟨g, i, none⟩) hgB (.int .u8 (((rv D i)[j]?.getD 0).toNat : Int))).setCell (p := ⟨g, j, none⟩) hgB (.int .u8 (((rv D i)[i]?.getD 0).toNat : Int))
          have HB1 := Lib.hid hB1
          clear hst hB1
          go_wp2_with fail
          go_region
          go_wp2_with fail
          go_roundw
          case rel => exact ⟨i + 1, j - 1, by go_num, by go_num, by have := HIJ.out; omega, HST.out, HB1.out.drew⟩
          case measure => simp [intOf]; omega
        · have hcv := conv_own hown2
          rw [rv_end D i j (by omega) hij, hDn.out] at hcv
          go_wp2_with fail
          go_ret
          exact ⟨ret_str rfl, hbel2⟩

set_option maxHeartbeats 1000000 in
theorem impl_fmt_neg (n : Nat) (w : World) (h0 : 0 < n) (h : n ≤ 9223372036854775808) :
    Calls Tryz.prog 111 #[.int .i64 (-(n : Int))] w fun e w' => e = .returned (.string (bstr (45 :: dig n))) ∧ Below w.heap.size w w' := by
  have g0 : ((-(n : Int)) == 0) = false := by simp; omega
  have g9 : (-(n : Int)) < 0 := by omega
  obtain ⟨i0, hi, hz0, hz1, hz2⟩ := info_parts info_byte
  go_enter Tryz.func111, Tryz.ntmps111
  go_wp2_with fail
  go_loopw [0, 3] (fun x v wr => ∃ (a : Nat) (D : List UInt8), x = .int .i64 (-(a : Int)) ∧ a ≤ n ∧ wr.ownsRow w.heap.size 5 1 v D.length (bcs D) ∧ Hid (dig a ++ D.reverse = dig n) ∧ Below w.heap.size w wr) (fun x _ _ => (- intOf x).toNat)
  case atStart => exact ⟨n, [], rfl, Nat.le_refl _, World.ownsRow_nil _ _ _ _, by simp [Hid], Below.refl _ _⟩
  case round =>
    obtain ⟨a, D, rfl, han, hown, hd, hbel⟩ := hrel
    by_cases ha : 0 < a
    · have g1 : ((-(a : Int)) != 0) = true := by simp; omega
      have hlen := digits_len (by omega) ha hd.out
      have hst := Lib.hid (step_digits ha hd.out)
      have hdn := Lib.hid (dch_nat (d := a % 10) (by omega))
      have hbs := hbel.size
      have ha10 : 0 ≤ (a : Int) % 10 ∧ (a : Int) % 10 ≤ 9 := by omega
      obtain ⟨hr1, hr2⟩ := ha10
      by_cases hq : (a : Int) % 10 = 0
      · have HQ := Lib.hid hq
        clear hr1 hr2
        go_wp2_with (at_builtin; refine wpList_append_own _ rfl (.tmp 20) (.tmp 24) 22 rfl w.heap.size 5 i0 (.int .u8 0) 1 1 Tryz.underlying22 hi hz0 hz1 hz2 rfl (by decide) _ _ _ rfl (hown.alloc _) ⟨wr.heap.size, 0, none⟩ 1 1 [.int .u8 48] rfl rfl ?d1 ?d2 ?d3 ?d4 ?d5 ?_)
        case d1 =>
          intro j u hj
          match j, hj with
          | 0, hj => simp at hj; subst hj; simp [Addr.add]
        case d2 => intro u hu; simp at hu; subst hu; rfl
        case d3 => unfold maxLen; omega
        case d4 => omega
        case d5 => simp; omega
        intro v' w1 hown' hgrow _
        have hlt := hown.lt
        have hb1 : Below w.heap.size w w1 := (hbel.alloc hbs _).grown hgrow (by simp; omega) (fun k hk => (hlt k hk).1)
        have hown2 : w1.ownsRow w.heap.size 5 1 v' (D ++ [dch (a % 10)]).length (bcs (D ++ [dch (a % 10)])) := by
          have e : ((dch (a % 10)).toNat : Int) = 48 := by rw [hdn.out]; have := HQ.out; omega
          rw [bcs_app, bcs_one, e, List.length_append]
          have := hown'
          simpa using this
        clear hown' hgrow hown hlt
        go_wp2_with fail
        go_roundw
        case rel => exact ⟨a / 10, D ++ [dch (a % 10)], by go_num, by omega, hown2, hst, hb1⟩
        case measure => simp [intOf]; omega
      · have hq2 : 0 < (a : Int) % 10 := by omega
        clear hq
        go_wp2_with (at_builtin; refine wpList_append_own _ rfl (.tmp 20) (.tmp 24) 22 rfl w.heap.size 5 i0 (.int .u8 0) 1 1 Tryz.underlying22 hi hz0 hz1 hz2 rfl (by decide) _ _ _ rfl (hown.alloc _) ⟨wr.heap.size, 0, none⟩ 1 1 [.int .u8 (48 + (a : Int) % 10)] rfl rfl ?c1 ?c2 ?c3 ?c4 ?c5 ?_)
        case c1 =>
          intro j u hj
          match j, hj with
          | 0, hj => simp at hj; subst hj; simp [Addr.add]
        case c2 => intro u hu; simp at hu; subst hu; rfl
        case c3 => unfold maxLen; omega
        case c4 => omega
        case c5 => simp; omega
        intro v' w1 hown' hgrow _
        have hlt := hown.lt
        have hb1 : Below w.heap.size w w1 := (hbel.alloc hbs _).grown hgrow (by simp; omega) (fun k hk => (hlt k hk).1)
        have hown2 : w1.ownsRow w.heap.size 5 1 v' (D ++ [dch (a % 10)]).length (bcs (D ++ [dch (a % 10)])) := by
          have e := hdn.out
          rw [bcs_app, bcs_one, e, List.length_append]
          have := hown'
          simpa using this
        clear hown' hgrow hown hlt
        go_wp2_with fail
        go_roundw
        case rel => exact ⟨a / 10, D ++ [dch (a % 10)], by go_num, by omega, hown2, hst, hb1⟩
        case measure => simp [intOf]; omega
    · have hz : a = 0 := by omega
      have g1 : ((-(a : Int)) != 0) = false := by simp [hz]
      have hDn : Hid (D.reverse = dig n) := by have := hd.out; rw [hz, dig_zero] at this; exact this
      have hpos : 0 < D.length := by
        have := dig_ne h0
        rw [← hDn.out] at this
        simpa using this
      have hlen : D.length ≤ 20 := by
        have := dig_le 20 n (by omega)
        rw [← hDn.out] at this
        simpa using this
      clear hz hd
      have hbs := hbel.size
      go_wp2_with (at_builtin; refine wpList_append_own _ rfl (.tmp 29) (.tmp 30) 22 rfl w.heap.size 5 i0 (.int .u8 0) 1 1 Tryz.underlying22 hi hz0 hz1 hz2 rfl (by decide) _ _ _ rfl (hown.alloc _) ⟨wr.heap.size, 0, none⟩ 1 1 [.int .u8 45] rfl rfl ?e1 ?e2 ?e3 ?e4 ?e5 ?_)
      case e1 =>
        intro j u hj
        match j, hj with
        | 0, hj => simp at hj; subst hj; simp [Addr.add]
      case e2 => intro u hu; simp at hu; subst hu; rfl
      case e3 => unfold maxLen; omega
      case e4 => omega
      case e5 => simp; omega
      intro v' w1 hown' hgrow _
      have hlt := hown.lt
      have hb1 : Below w.heap.size w w1 := (hbel.alloc hbs _).grown hgrow (by simp; omega) (fun k hk => (hlt k hk).1)
      have hown3 : w1.ownsRow w.heap.size 5 1 v' (D ++ [45]).length (bcs (D ++ [45])) := by
        rw [bcs_app, bcs_one, List.length_append]
        exact hown'
      have hlen3 : (D ++ [45]).length = D.length + 1 := by simp
      have HL3 := Lib.hid hlen3
      have hl1 : 0 < (D ++ [45]).length := by omega
      have hl2 : (D ++ [45]).length ≤ 21 := by omega
      clear hlen3 hown' hgrow hown hlt hbel
      obtain ⟨L, hL⟩ : ∃ L, L = D ++ [45] := ⟨_, rfl⟩
      rw [← hL] at hown3 hl1 hl2
      have hLr : Hid (L.reverse = 45 :: dig n) := by rw [hL, List.reverse_append, hDn.out]; rfl
      clear hL HL3
      obtain ⟨g, c, hv, hgB, hgl⟩ := own_form hown3 hl1
      subst hv
      go_wp2_with fail
      go_loopw [6, 7] (fun x y ws => ∃ i j : Nat, x = .int .i64 i ∧ y = .int .i64 j ∧ i + j + 1 = L.length ∧ ws.ownsRow w.heap.size 5 1 (.slice (some ⟨g, 0, none⟩) L.length c) L.length (bcs (rv L i)) ∧ Below w.heap.size w ws) (fun x y _ => L.length - (intOf x).toNat)
      case atStart => exact ⟨0, L.length - 1, rfl, by go_num, by omega, by rw [rv_zero]; exact hown3, hb1⟩
      case round =>
        obtain ⟨i, j, rfl, rfl, hij, hown2, hbel2⟩ := hrel
        have HIJ := Lib.hid hij
        by_cases hlt : i < j
        · have hlen2 : i < L.length ∧ j < L.length := by omega
          obtain ⟨q1, q2⟩ := hlen2
          clear hij
          have ci := hown2.cellAt i (by omega)
          have cj := hown2.cellAt j (by omega)
          rw [bcs_at _ _ (by rw [rv_len]; omega)] at ci cj
          have fi := hown2.frozenAt i
          have fj := hown2.frozenAt j
          have hst := (((hown2.stored i (.int .u8 (((rv L i)[j]?.getD 0).toNat : Int))).1).stored j (.int .u8 (((rv L i)[i]?.getD 0).toNat : Int))).1
          rw [bcs_set, bcs_set, rv_step L i j hlt HIJ.out] at hst
          have HST := Lib.hid hst
          have hB1 := (hbel2.setCell (p := ⟨g, i, none⟩) hgB (.int .u8 (((rv L i)[j]?.getD 0).toNat : Int))).setCell (p := ⟨g, j, none⟩) hgB (.int .u8 (((rv L i)[i]?.getD 0).toNat : Int))
          have HB1 := Lib.hid hB1
          clear hst hB1
          go_wp2_with fail
          go_region
          go_wp2_with fail
          go_roundw
          case rel => exact ⟨i + 1, j - 1, by go_num, by go_num, by have := HIJ.out; omega, HST.out, HB1.out.drew⟩
          case measure => simp [intOf]; omega
        · have hcv := conv_own hown2
          rw [rv_end L i j (by omega) hij, hLr.out] at hcv
          go_wp2_with fail
          go_ret
          exact ⟨ret_str rfl, hbel2⟩

theorem fmt_pos {n : Nat} (h : 0 < n) : fmtI (n : Int) = dig n := by
  unfold fmtI
  rw [if_neg (by omega), if_neg (by omega)]
  rfl

theorem fmt_neg {n : Nat} (h : 0 < n) : fmtI (-(n : Int)) = 45 :: dig n := by
  unfold fmtI
  rw [if_neg (by omega), if_pos (by omega)]
  simp

theorem int_cases (n : Int) (h1 : -9223372036854775808 ≤ n) (h2 : n ≤ 9223372036854775807) :
    n = 0 ∨ (∃ m : Nat, n = (m : Int) ∧ 0 < m ∧ m ≤ 9223372036854775807) ∨ (∃ m : Nat, n = -(m : Int) ∧ 0 < m ∧ m ≤ 9223372036854775808) := by
  rcases Int.lt_trichotomy n 0 with h | h | h
  · exact .inr (.inr ⟨n.natAbs, by omega, by omega, by omega⟩)
  · exact .inl h
  · exact .inr (.inl ⟨n.natAbs, by omega, by omega, by omega⟩)

theorem impl_fmt (n : Int) (w : World) (h1 : -9223372036854775808 ≤ n) (h2 : n ≤ 9223372036854775807) :
    Calls Tryz.prog 111 #[.int .i64 n] w fun e w' => e = .returned (.string (bstr (fmtI n))) ∧ Below w.heap.size w w' := by
  rcases int_cases n h1 h2 with rfl | ⟨m, rfl, hm, hm2⟩ | ⟨m, rfl, hm, hm2⟩
  · go_enter Tryz.func111, Tryz.ntmps111
    go_wp2_with fail
    go_ret
    exact ⟨rfl, Below.refl _ _⟩
  · rw [fmt_pos hm]; exact impl_fmt_pos m w hm hm2
  · rw [fmt_neg hm]; exact impl_fmt_neg m w hm hm2

theorem spec_fmt (n : Int) (w : World) (h1 : -9223372036854775808 ≤ n) (h2 : n ≤ 9223372036854775807) :
    Calls Tryz.prog 102 #[.int .i64 n] w fun e w' => e = .returned (.string (bstr (fmtI n))) ∧ w = w' := by
  rcases int_cases n h1 h2 with rfl | ⟨m, rfl, hm, hm2⟩ | ⟨m, rfl, hm, hm2⟩
  · go_enter Tryz.func102, Tryz.ntmps102
    go_wp2_with fail
    refine wp_loop_rounds 1 ?_
    rw [rounds_succ]
    go_wp2_with fail
    go_ret
    exact ⟨rfl, rfl⟩
  · rw [fmt_pos hm]; exact spec_fmt_pos m w hm hm2
  · rw [fmt_neg hm]; exact spec_fmt_neg m w hm hm2

end

end Go.Proofs.YtmofcbpabdbjlaaGreat
