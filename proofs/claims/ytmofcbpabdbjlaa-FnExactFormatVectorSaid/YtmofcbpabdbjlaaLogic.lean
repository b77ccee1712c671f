/-
  What is proved: what the functions on three-valued logical values (NotLogical, AndLogical, OrLogical, XorLogical, of the program and of the reference) return, for all integers. what the functions on slices of integers (AllLogical, AnyLogical, and the statements' copies and comparisons of such slices) return.
  No condition. Condition: the slices that are copied hold at most 1048576 numbers.
-/
import Derived.Test.YtmofcbpabdbjlaaBase
import Derived.Lib.Hide
import Derived.Deep.Light
import Derived.WalkSmall
namespace Go.Proofs.Ytmofcbpabdbjlaa
set_option maxRecDepth 8000

section
open Go.RowKit

def notL (x : Int) : Int := if x = 0 then 1 else if x = 1 then 0 else 2
def andL (x y : Int) : Int := if x = 0 ∨ y = 0 then 0 else if x = 1 ∧ y = 1 then 1 else 2
def orL (x y : Int) : Int := if x = 1 ∨ y = 1 then 1 else if x = 0 ∧ y = 0 then 0 else 2
def xorL (x y : Int) : Int := if x < 0 ∨ x > 1 ∨ y < 0 ∨ y > 1 then 2 else if x = y then 0 else 1
def valL (x : Int) : Int := if x = 0 ∨ x = 1 then x else 2

theorem impl_and (x y : Int) (w : World) : Calls Try.prog 115 #[.int .i64 x, .int .i64 y] w fun e w' => e = .returned (.int .i64 (andL x y)) ∧ w = w' := by
  go_enter Try.func115, Try.ntmps115
  go_wp2
  all_goals (go_ret; exact ⟨ret_int (by simp_all [andL]), rfl⟩)

theorem impl_or (x y : Int) (w : World) : Calls Try.prog 117 #[.int .i64 x, .int .i64 y] w fun e w' => e = .returned (.int .i64 (orL x y)) ∧ w = w' := by
  go_enter Try.func117, Try.ntmps117
  go_wp2
  all_goals (go_ret; exact ⟨ret_int (by simp_all [orL]), rfl⟩)

theorem notL_hi {x : Int} (h : ¬ (0 ≤ x ∧ x ≤ 1)) : notL x = 2 := by unfold notL; rw [if_neg (by omega), if_neg (by omega)]
theorem notL_lo {x : Int} (h : 0 ≤ x ∧ x ≤ 1) : notL x = 1 - x := by
  unfold notL
  by_cases h0 : x = 0
  · rw [if_pos h0]; omega
  · rw [if_neg h0, if_pos (by omega)]; omega

theorem spec_not (x : Int) (w : World) : Calls Try.prog 159 #[.int .i64 x] w fun e w' => e = .returned (.int .i64 (notL x)) ∧ w = w' := by
  by_cases h : 0 ≤ x ∧ x ≤ 1
  · have hn := Lib.hid (notL_lo h)
    have hi := inI_true h
    obtain ⟨h0, h1⟩ := h
    go_enter Try.func159, Try.ntmps159
    go_wp2_with (go_at_call 104; refine (spec_in _ _ _ _).mono ?_; rintro e w' ⟨rfl, rfl⟩)
    go_ret
    exact ⟨ret_int hn.out.symm, rfl⟩
  · have hn := Lib.hid (notL_hi h)
    have hi := inI_false h
    clear h
    go_enter Try.func159, Try.ntmps159
    go_wp2_with (go_at_call 104; refine (spec_in _ _ _ _).mono ?_; rintro e w' ⟨rfl, rfl⟩)
    go_ret
    exact ⟨ret_int hn.out.symm, rfl⟩

theorem spec_val (x : Int) (w : World) : Calls Try.prog 158 #[.int .i64 x] w fun e w' => e = .returned (.int .i64 (valL x)) ∧ w = w' := by
  go_enter Try.func158, Try.ntmps158
  go_wp2_with (go_at_call 104; refine (spec_in _ _ _ _).mono ?_; rintro e w' ⟨rfl, rfl⟩)
  all_goals (go_ret; exact ⟨ret_int (by simp_all [valL, inI]; try omega), rfl⟩)

theorem spec_and (x y : Int) (w : World) : Calls Try.prog 110 #[.int .i64 x, .int .i64 y] w fun e w' => e = .returned (.int .i64 (andL x y)) ∧ w = w' := by
  go_enter Try.func110, Try.ntmps110
  go_wp2_with (go_at_call 158; refine (spec_val _ _).mono ?_; rintro e w' ⟨rfl, rfl⟩)
  all_goals (go_ret; exact ⟨ret_int (by go_light; first | (unfold andL; unfold valL at *; (repeat' split) <;> simp_all <;> omega) | (simp_all [andL]; done)), rfl⟩)

theorem orL_de (x y : Int) : notL (andL (notL x) (notL y)) = orL x y := by
  unfold notL andL orL
  repeat' split
  all_goals omega

theorem spec_or (x y : Int) (w : World) : Calls Try.prog 111 #[.int .i64 x, .int .i64 y] w fun e w' => e = .returned (.int .i64 (orL x y)) ∧ w = w' := by
  have hd := Lib.hid (orL_de x y)
  go_enter Try.func111, Try.ntmps111
  go_wp2_with (first | (go_at_call 159; refine (spec_not _ _).mono ?_; rintro e w' ⟨rfl, rfl⟩) | (go_at_call 110; refine (spec_and _ _ _).mono ?_; rintro e w' ⟨rfl, rfl⟩))
  go_ret
  exact ⟨ret_int hd.out, rfl⟩

theorem xorL_hi {x y : Int} (h : ¬ (0 ≤ x ∧ x ≤ 1) ∨ ¬ (0 ≤ y ∧ y ≤ 1)) : xorL x y = 2 := by unfold xorL; rw [if_pos (by omega)]

end

section
open Go.RowKit Go.ChangeShapes Go.WideShapes

def allF (zs : List Int) (k : Nat) : Int := (zs.take k).foldl andL 1
def anyF (zs : List Int) (k : Nat) : Int := (zs.take k).foldl orL 0

theorem foldl_take_succ {α β : Type} (f : β → α → β) (b : β) (d : α) (l : List α) (k : Nat) (h : k < l.length) : (l.take (k + 1)).foldl f b = f ((l.take k).foldl f b) (l[k]?.getD d) := by
  rw [List.take_succ_eq_append_getElem h, List.foldl_append, List.getElem?_eq_getElem h]
  rfl

theorem allF_succ {zs : List Int} {k : Nat} (h : k < zs.length) : allF zs (k + 1) = andL (allF zs k) (zs[k]?.getD 0) := foldl_take_succ andL 1 0 zs k h

theorem anyF_succ {zs : List Int} {k : Nat} (h : k < zs.length) : anyF zs (k + 1) = orL (anyF zs k) (zs[k]?.getD 0) := foldl_take_succ orL 0 0 zs k h

theorem int_eq {k : IntKind} {a b : Int} (h : a = b) : Value.int k a = Value.int k b := by rw [h]

def ints (zs : List Int) : List Value := zs.map (Value.int .i64)

theorem ints_getD {zs : List Int} {k : Nat} (h : k < zs.length) : (ints zs).getD k undef = .int .i64 (zs[k]?.getD 0) := by
  simp [ints, List.getD_eq_getElem?_getD, h]

theorem info_int : (Try.prog.info? 3).map (fun i => (i.zero, i.size, i.bytes)) = some (some (.int .i64 0), 1, 8) := by kernel_rfl

theorem Sl.of_row {w : World} {b : Nat} {t : TypeId} {n : Nat} {f : Nat → Value} {xs : List Value} (h : w.rowIs b t n f) (hl : xs.length = n) (hx : ∀ j, j < n → xs[j]? = some (f j)) : Sl w 1 (some ⟨b, 0, none⟩) n xs :=
  ⟨by omega, fun _ => ⟨b, 0, rfl, h.lt, fun j u hu => by
    have hj : j < n := by rw [← hl]; exact (List.getElem?_eq_some_iff.1 hu).1
    have h1 := h.cell hj
    rw [Nat.zero_add, h1]
    exact (hx j hj).symm.trans hu⟩⟩

theorem row_set {w : World} {b k : Nat} {t : TypeId} {n : Nat} {F : Nat → Value} {z : Value} (h : w.rowIs b t n (fun j => if j < k then F j else z)) :
    (w.setCell ⟨b, k, none⟩ (F k)).rowIs b t n (fun j => if j < k + 1 then F j else z) := by
  refine (h.set k _).congr (fun i _ => ?_)
  by_cases h1 : i = k
  · subst h1; simp
  · by_cases h2 : i < k
    · simp [h1, h2, show i < k + 1 by omega]
    · simp [h1, h2, show ¬ i < k + 1 by omega]

theorem addr_of_cell {w : World} {x : Addr} {v : Value} (h : w.cell? (x.add 0) = some v) : x = ⟨x.block, x.off, none⟩ ∧ x.block < w.heap.size := by
  have hs : (x.add 0).spot = none := World.cell?_spot h
  have hb := World.block_lt_of_cell? w _ h
  obtain ⟨b, off, spot⟩ := x
  simp [Addr.add] at hs hb
  subst hs
  exact ⟨rfl, hb⟩

theorem addr_add (b off i : Nat) : (⟨b, off, none⟩ : Addr).add i = ⟨b, off + i, none⟩ := by
  unfold Addr.add
  by_cases h0 : i = 0 <;> simp [h0]

def ArgInts (w : World) (v : Value) : Prop := ∃ A n c zs, v = .slice A n c ∧ n ≤ 9223372036854775807 ∧ Sl w 1 A n (ints zs)

theorem arg_ints {H : Type} {enc : TypeId × Value → H} {W : World} {base : Nat} {held : Bool} {r : Reach} {b0 : Nat} {v : Value} {d : DataW H} {p : List MemPlace}
    (hv : Value.okWide Try.prog W r b0 75 v) (h : DataW.Trod enc Try.prog W base (fun _ => true) held 75 v d p) : ArgInts W v := by
  obtain ⟨A, n, c, rfl⟩ := okWide_slice Try.underlying75 hv
  obtain ⟨fuel, hf⟩ := h
  rcases open_ints Try.underlying75 Try.underlying3 (by kernel_rfl) hf with ⟨hcs, _⟩ | ⟨x, l, c', zs, hcs, _, hl, hm, hz, _, hcell, _⟩
  · simp [Value.cells] at hcs
    obtain ⟨rfl, rfl, rfl⟩ := hcs
    exact ⟨none, 0, 0, [], rfl, by omega, ⟨rfl, fun h => absurd h (by omega)⟩⟩
  · simp [Value.cells] at hcs
    obtain ⟨rfl, rfl, rfl⟩ := hcs
    unfold maxLen at hm
    have hz' : zs.length = c := by simpa using hz
    refine ⟨some x, n, c, zs.take n, rfl, by omega, ?_, ?_⟩
    · simp [ints]; omega
    · intro h0
      obtain ⟨e, hb⟩ := addr_of_cell (hcell 0 (by omega))
      refine ⟨x.block, x.off, by rw [← e], hb, fun j u hu => ?_⟩
      have hj : j < zs.length ∧ j < n := by
        have := (List.getElem?_eq_some_iff.1 hu).1
        simp [ints] at this
        omega
      have h1 := hcell j hj.1
      rw [e, addr_add] at h1
      rw [h1, ← hu]
      simp [ints, List.getD_eq_getElem?_getD, hj.1, hj.2]

end

end Go.Proofs.Ytmofcbpabdbjlaa
