/-
  What is proved: how the statements mark a slice of strings that a call has handed back.
  Condition: marks below 2^31.
-/
import Derived.Test.YtncmekbfmgcbnaaStrs
import Derived.Test.YtncmekbfmgcbnaaJ
import Derived.Test.YtncmekbfmgcbnaaFmtI
import Derived.Test.YtncmekbfmgcbnaaInst
import Derived.Test.YtncmekbfmgcbnaaDr
import Derived.Test.YtncmekbfmgcbnaaOwnC
import Derived.Deep.DrawnRows
namespace Go.Proofs.Ytncmekbfmgcbnaa
open Go.RowKit Go.ChangeShapes Go.WideShapes
set_option linter.unusedVariables false
set_option linter.unusedSimpArgs false

def mtx (k : Nat) : ByteArray := bstr (109 :: (if k = 0 then [48] else dig k))
def mkS (k n : Nat) : List ByteArray := (List.range n).map fun i => mtx (k + i)
theorem mkS_len (k n : Nat) : (mkS k n).length = n := by simp [mkS]
theorem mkS_succ (k n : Nat) : mkS k (n + 1) = mkS k n ++ [mtx (k + n)] := by simp [mkS, List.range_succ]
theorem mkS_at {k n i : Nat} (h : i < (mkS k n).length) : (mkS k n)[i] = mtx (k + i) := by simp [mkS]

theorem Sl.tx {w u : World} {A : Option Addr} {l : List ByteArray} (h : Sl w 1 A l.length (stc l)) (hb : Below w.heap.size w u) {i : Nat} (hi : i < l.length) {x : ByteArray} (hx : l[i]'hi = x) :
    ∃ b off, A = some ⟨b, off, none⟩ ∧ b < w.heap.size ∧ u.cell? ⟨b, off + i, none⟩ = some (.string x) := by
  subst hx
  obtain ⟨b, off, e, hlt, hc⟩ := h.cell1 hi
  rw [stc_at hi] at hc
  exact ⟨b, off, e, hlt, (hb.cell (p := ⟨b, _, none⟩) hlt).trans hc⟩

theorem row_sl {e sz n c : Nat} {A : Option Addr} {xs : List Value} {w : World} (h : (row e sz (.slice A n c) n xs).holds w) : Sl w sz A n xs := Sl.of_own (show w.ownsRow 0 e sz (.slice A n c) n xs from h)

section
variable {w0 w w' : World} {L R : List Res}
theorem Own.set_row (h : Own w0 L w) (k : Nat) {e sz n c b : Nat} {xs : List Value} (hk : L[k]? = some (row e sz (.slice (some ⟨b, 0, none⟩) n c) n xs)) (i : Nat) (hi : i < xs.length) (v : Value) :
    Own w0 (L.set k (row e sz (.slice (some ⟨b, 0, none⟩) n c) n (xs.set i v))) (w.setCell ⟨b, i, none⟩ v) :=
  h.at_ k hk fun L' h' => by
    have hb : w.ownsRow 0 e sz (.slice (some ⟨b, 0, none⟩) n c) n xs := h'.holds _ (List.mem_cons_self)
    obtain ⟨h1, h2⟩ := hb
    rcases h2 with ⟨h2, _⟩ | ⟨g, cap, cur, hv, _, hg, hle, hm, hcs, htk⟩
    · cases h2
    · simp only [Value.slice.injEq, Option.some.injEq, Addr.mk.injEq] at hv
      obtain ⟨⟨rfl, _⟩, _, rfl⟩ := hv
      refine h'.turn rfl rfl rfl (by simp [World.setCell]) (fun q _ hq => Below.heap_setCell _ _ _ _ (fun e => hq (by subst e; rfl))) ⟨by simpa using h1, .inr ⟨b, c, cur.set! i v, rfl, Nat.zero_le _, ?_, hle, hm, by simpa using hcs, ?_⟩⟩ (fun q hq => .inl hq)
      · simp only [World.setCell, Array.getElem?_modify, if_true, hg]
        simp
      · rw [← htk]
        have hi' : i < n * sz := by rw [← h1]; exact hi
        rw [Array.set!_eq_setIfInBounds, Array.toList_setIfInBounds, List.take_set]
end

theorem mt_conv (w : World) (d : Nat) (x : Int) (hx : ((dch d).toNat : Int) = x) :
    (convert 32 9 (.slice (some ⟨w.heap.size, 0, none⟩) 1 1)).run Try.prog (w.alloc (.cells #[.int .u8 x] 5)) = .ok (.string (bstr [dch d])) (w.alloc (.cells #[.int .u8 x] 5)) := by
  subst hx
  exact conv_own (base := w.heap.size) (l := [dch d]) (World.ownsRow_lit (base := w.heap.size) (e := 5) (size := 1) w #[.int .u8 (((dch d).toNat : Nat) : Int)] 1 (Nat.le_refl _) (by unfold maxLen; omega) rfl)

theorem laws_markText (n : Nat) (w : World) (h : n ≤ 2147483647) :
    Calls Try.prog 94 #[.int .i64 n] w fun e w' => e = .returned (.string (mtx n)) ∧ Below w.heap.size w w' := by
  by_cases h0 : 0 < n
  · have HM : Hid (mtx n = bstr (109 :: dig n)) := Lib.hid (by unfold mtx; rw [if_neg (by omega)])
    go_enter Try.func94, Try.ntmps94
    have hO := Own.nil w
    go_wp2_with fail
    go_loopw [0, 3] (fun x s u => ∃ (a : Nat) (t : ByteArray), s = .string t ∧ x = .int .i64 a ∧ a ≤ n ∧ Hid (dig a ++ t.data.toList = dig n) ∧ Own w [] u) (fun x _ _ => (intOf x).toNat)
    case atStart => exact ⟨n, ⟨#[]⟩, rfl, rfl, Nat.le_refl _, by simp [Hid], hO⟩
    case round =>
      clear hO
      obtain ⟨a, t, rfl, rfl, han, hd, hO⟩ := hrel
      by_cases ha : 0 < a
      · have hs := text_size ha hd.out
        have hs2 : t.size ≤ 922337203685477580 := by omega
        have hst := Lib.hid (step_text ha hd.out)
        have hsz : (bstr [dch (a % 10)]).size = 1 := rfl
        have hx : ((dch (a % 10)).toNat : Int) = 48 + (a : Int) % 10 := by rw [dch_nat (by omega)]; omega
        have hcv := fun w => mt_conv w (a % 10) _ hx
        clear hs hx
        go_wp2_with fail
        go_roundw
        case rel => exact ⟨a / 10, bstr [dch (a % 10)] ++ t, rfl, by go_num, by omega, hst, hO.step ((Below.refl _ _).alloc (Nat.le_refl _) _)⟩
        case measure => simp [intOf]; omega
      · have hz : a = 0 := by omega
        have fin : Hid (t.data.toList = dig n) := by have := hd.out; rw [hz, dig_zero] at this; exact this
        have hts : t.size ≤ 2147483647 := by
          have h1 := congrArg List.length fin.out
          have := dig_len n
          simp at h1
          omega
        clear hz
        go_wp2_with fail
        go_ret
        exact ⟨ret_str (by rw [HM.out, ← fin.out]; exact eq_bstr (by simp)), hO.below⟩
  · have hz : n = 0 := by omega
    subst hz
    go_enter Try.func94, Try.ntmps94
    have hO := Own.nil w
    go_wp2_with fail
    go_ret
    exact ⟨rfl, hO.below⟩

section
variable {P : Program} {o : Oper} {a : Act} {w w' w0 : World} {K : Act → World → Prop} {Q : Exit → Act → World → Prop} {L : List Res} {ops : Array Oper} {rest : List Oper}
/-- a cell of a row is there -/
theorem Own.rowCell (hO : Own w0 L w) (k : Nat) {e sz n c b : Nat} {xs : List Value} (hk : L[k]? = some (row e sz (.slice (some ⟨b, 0, none⟩) n c) n xs)) {j : Nat} {u : Value} (hu : xs[j]? = some u) : w.cell? ⟨b, j, none⟩ = some u := by
  have h := Own.get hO k hk
  have hs := Go.Proofs.Ytncmekbfmgcbnaa.row_sl h
  have hj := (List.getElem?_eq_some_iff.1 hu).1
  have hn : 0 < n := by
    have := hs.len
    rcases Nat.eq_zero_or_pos n with h0 | h0
    · subst h0; simp at this; subst this; simp at hj
    · exact h0
  obtain ⟨b', off, e1, _, hc⟩ := hs.at_ hn
  simp only [Option.some.injEq, Addr.mk.injEq, and_true] at e1
  obtain ⟨rfl, rfl⟩ := e1
  have := hc j u hu
  rwa [Nat.zero_add] at this
theorem Own.rowFree (hO : Own w0 L w) (k : Nat) {e sz n c b : Nat} {xs : List Value} (hk : L[k]? = some (row e sz (.slice (some ⟨b, 0, none⟩) n c) n xs)) (j : Nat) : w.frozen? ⟨b, j, none⟩ = false := by
  have h : w.ownsRow 0 e sz (.slice (some ⟨b, 0, none⟩) n c) n xs := hO.get k hk
  rcases h.2 with ⟨h2, _⟩ | ⟨g, cap, cur, hv, _, hg, _⟩
  · cases h2
  · simp only [Value.slice.injEq, Option.some.injEq, Addr.mk.injEq, and_true] at hv
    obtain ⟨rfl, _⟩ := hv
    simp [World.frozen?, hg]
theorem wp_store_row (hO : Own w0 L w) {ty : TypeId} {x y : Operand} (ho : o.op = .store ty x y) {b i : Nat} (hx : a.eval x = .pointer (some ⟨b, i, none⟩))
    (k : Nat) {e sz n c : Nat} {xs : List Value} (hk : L[k]? = some (row e sz (.slice (some ⟨b, 0, none⟩) n c) n xs)) (hi : i < xs.length) {v : Value} (hy : a.eval y = v) (h1 : v.oneCell' = true) [hT : OneT P ty]
    {L' : List Res} (hL : L.set k (row e sz (.slice (some ⟨b, 0, none⟩) n c) n (xs.set i v)) = L') (hd : o.dst = none) (h : ∀ w, Own w0 L' w → K a w) : o.wp P a w K Q := by
  obtain ⟨d, e1, e2, e3⟩ := hT.of
  subst hL
  have hc : w.cell? ⟨b, i, none⟩ = some (xs[i]'hi) := hO.rowCell k hk (List.getElem?_eq_getElem hi)
  have hf := hO.rowFree k hk i
  have hcells : v.cells = #[v] := by cases v <;> simp_all [Value.cells, Value.oneCell']
  have hsz : (sizeOf ty).run P w = .ok 1 w := by
    unfold sizeOf typeInfo
    cases hq : P.info? ty with
    | none => rw [hq] at e3; simp at e3
    | some inf =>
      rw [hq] at e3
      simp at e3
      simp [Sem.run_bind, hq, e3]
  have hrun : (Instr.storeAt ty (.pointer (some ⟨b, i, none⟩)) v).run P w = .ok () (w.setCell ⟨b, i, none⟩ v) := by
    simp only [Instr.storeAt, Instr.sureAddr, storeVar, Sem.run_bind, Sem.run_pure, Result.andThen_ok, hsz, hcells]
    cases v <;> simp_all [storeCells, store, Sem.run, Sem.run_bind, Result.andThen, Addr.add, Value.oneCell', hc, hf]
  unfold Oper.wp execOp
  simp only [ho, hx, hy, Sem.run_bind, Sem.run_pure, Result.andThen_ok, hrun]
  show K (a.put o.dst undef) _
  rw [hd]
  exact h _ (hO.set_row k hk i hi v)
theorem wpList_store_row (hO : Own w0 L w) {ty : TypeId} {x y : Operand} (ho : o.op = .store ty x y) (hw : Region.wanted o (yielded ops a.tmps) = true) {b i : Nat} (hx : a.eval x = .pointer (some ⟨b, i, none⟩))
    (k : Nat) {e sz n c : Nat} {xs : List Value} (hk : L[k]? = some (row e sz (.slice (some ⟨b, 0, none⟩) n c) n xs)) (hi : i < xs.length) {v : Value} (hy : a.eval y = v) (h1 : v.oneCell' = true) [hT : OneT P ty]
    {L' : List Res} (hL : L.set k (row e sz (.slice (some ⟨b, 0, none⟩) n c) n (xs.set i v)) = L') (hd : o.dst = none) (h : ∀ w, Own w0 L' w → wpList P ops Q rest a w) : wpList P ops Q (o :: rest) a w :=
  wpList_of (hw := hw) (wp_store_row hO ho hx k hk hi hy h1 hL hd h)
/-- a row of some elements lies at the head of a block -/
theorem Own.form (hO : Own w0 L w) (k : Nat) {e sz n c : Nat} {A : Option Addr} {xs : List Value} (hk : L[k]? = some (row e sz (.slice A n c) n xs)) (hn : 0 < n) : ∃ g, A = some ⟨g, 0, none⟩ := by
  obtain ⟨g, c', hv, _, _⟩ := own_form (show w.ownsRow 0 e sz (.slice A n c) n xs from hO.get k hk) hn
  injection hv with h1
  exact ⟨g, h1⟩
end

theorem mid_set {α : Type} (a l : List α) (k : Nat) (ha : a.length = k) (hk : k < l.length) (y : α) : (a ++ l.drop k).set k y = (a ++ [y]) ++ l.drop (k + 1) := by
  subst ha
  rw [List.set_append_right _ _ (Nat.le_refl _), Nat.sub_self, List.drop_eq_getElem_cons hk, List.set_cons_zero]
  simp
theorem mid_len {α : Type} (a l : List α) (k : Nat) (ha : a.length = k) (hk : k ≤ l.length) : (a ++ l.drop k).length = l.length := by simp [ha]; omega


theorem laws_markTextI (x : Int) (n : Nat) (w : World) (hx : x = n) (h : n ≤ 2147483647) :
    Calls Try.prog 94 #[.int .i64 x] w fun e w' => e = .returned (.string (mtx n)) ∧ Below w.heap.size w w' := by
  subst hx
  exact laws_markText n w h

theorem laws_markStrs (l : List ByteArray) (x : Int) (q : Nat) (hx : x = q) (hq : q + l.length ≤ 2147483647) (A : Option Addr) (c : Nat) (L : List Res) (w0 w : World) (hO : Own w0 (row 9 1 (.slice A l.length c) l.length (stc l) :: L) w) :
    Calls Try.prog 43 #[.slice A l.length c, .int .i64 x] w fun e w' => e = .returned (.int .i64 (q + l.length : Nat)) ∧ Own w0 (row 9 1 (.slice A l.length c) l.length (stc (mkS q l.length)) :: L) w' := by
  subst hx
  go_enter Try.func43, Try.ntmps43
  go_wp2_with fail
  go_loopw [1, 5] (fun s i u => ∃ k : Nat, k ≤ l.length ∧ i = .int .i64 k ∧ s = .int .i64 ((q + k : Nat) : Int) ∧ Own w0 (row 9 1 (.slice A l.length c) l.length (stc (mkS q k ++ l.drop k)) :: L) u) (fun _ i _ => l.length - (intOf i).toNat)
  case atStart => exact ⟨0, Nat.zero_le _, rfl, rfl, by simpa [mkS] using hO⟩
  case round =>
    clear hO
    obtain ⟨k, hk, rfl, rfl, hO⟩ := hrel
    by_cases hlt : k < l.length
    · obtain ⟨g, rfl⟩ := hO.form 0 rfl (by omega)
      have HS := Lib.hid (show (stc (mkS q k ++ l.drop k)).set k (.string (mtx (q + k))) = stc (mkS q (k + 1) ++ l.drop (k + 1)) by
        rw [mkS_succ, ← mid_set _ _ _ (mkS_len q k) hlt]
        simp [stc, List.map_set])
      have HL := Lib.hid (show k < (stc (mkS q k ++ l.drop k)).length by rw [stc_len, mid_len _ _ _ (mkS_len q k) (by omega)]; exact hlt)
      go_wp2_with fail
      refine (laws_markTextI _ (q + k) _ (by omega) (by omega)).mono ?_
      rintro e u ⟨rfl, hb⟩
      first | (replace hO := hO.step hb; clear hb) | subst hb
      go_wp2_with (refine wpList_store_row (v := .string (mtx (q + k))) hO rfl (by rfl) rfl 0 rfl HL.out rfl rfl rfl rfl ?_; clear hO; intro u hO)
      simp only [List.set_cons_zero] at hO
      rw [HS.out] at hO
      go_wp2_with fail
      go_roundw
      case rel => exact ⟨k + 1, by omega, by go_num, by go_num, hO⟩
      case measure => simp [intOf]; omega
    · have hkn : k = l.length := by omega
      subst hkn
      rw [List.drop_eq_nil_of_le (Nat.le_refl _), List.append_nil] at hO
      go_wp2_with fail
      go_ret
      exact ⟨rfl, hO⟩
-- %fn


theorem laws_heldStrs (n : Nat) (x : Int) (q : Nat) (hx : x = q) (hq : q + n ≤ 2147483647) (A : Option Addr) (c : Nat) (w : World) (h : Sl w 1 A n (stc (mkS q n))) :
    Calls Try.prog 44 #[.slice A n c, .int .i64 x] w fun e w' => e = .returned (.int .i64 (q + n : Nat)) ∧ Below w.heap.size w w' := by
  subst hx
  have h' : Sl w 1 A (mkS q n).length (stc (mkS q n)) := by rw [mkS_len]; exact h
  go_enter Try.func44, Try.ntmps44
  have hO := Own.nil w
  go_wp2_with fail
  go_loopw [1, 5] (fun s i u => ∃ k : Nat, k ≤ n ∧ i = .int .i64 k ∧ s = .int .i64 ((q + k : Nat) : Int) ∧ Own w [] u) (fun _ i _ => n - (intOf i).toNat)
  case atStart => exact ⟨0, Nat.zero_le _, rfl, rfl, hO⟩
  case round =>
    clear hO
    obtain ⟨k, hk, rfl, rfl, hO⟩ := hrel
    by_cases hlt : k < n
    · obtain ⟨b, off, rfl, hb, c0⟩ := h'.tx (Below.refl _ _) (by rw [mkS_len]; exact hlt) (mkS_at _)
      have t : (!(mtx (q + k)).toList == (mtx (q + k)).toList) = false := by simp
      have i1 : (0 : Int) ≤ (k : Int) := by omega
      have i2 : (k : Int) < (n : Int) := by omega
      go_wp2_with fail
      refine J.wp_region_c (n := 22) [0, 1, 2, 3, 4, 5, 6] [] (deps := fun i => [[], [], [0, 1], [0, 1, 2], [], [4], [0, 1, 2, 3, 4, 5]].getD i []) (fun _ _ _ => True) (r := 0) (lst := #[true, true, true, true, true, true, true]) (by kernel_rfl) (by kernel_rfl) (by kernel_rfl) rfl (by decide) (by kernel_rfl) hO ?_
      refine J.Chain.cons (by rfl) (by rfl) (fun M u hO K hK => by (simp only [wp_at_zero, wp_at_succ]; go_step; exact hK _ hO)) (by simp only [J.putL, List.getElem_toArray, List.getElem_cons_succ, List.getElem_cons_zero, J.dstOf, List.getElem?_toArray, List.getElem?_cons_succ, List.getElem?_cons_zero, Option.bind_some, List.getD_cons_succ, List.getD_cons_zero, Act.put, List.setIfInBounds_toArray, List.set_cons_succ, List.set_cons_zero]; rfl) ?_
      refine J.Chain.cons (by rfl) (by rfl) (fun M u hO K hK => by (simp only [wp_at_zero, wp_at_succ]; go_step; exact hK _ hO)) (by simp only [J.putL, List.getElem_toArray, List.getElem_cons_succ, List.getElem_cons_zero, J.dstOf, List.getElem?_toArray, List.getElem?_cons_succ, List.getElem?_cons_zero, Option.bind_some, List.getD_cons_succ, List.getD_cons_zero, Act.put, List.setIfInBounds_toArray, List.set_cons_succ, List.set_cons_zero]; rfl) ?_
      refine J.Chain.cons (by rfl) (by rfl) (fun M u hO K hK => by (simp only [wp_at_zero, wp_at_succ]; go_step; exact hK _ hO)) (by simp only [J.putL, List.getElem_toArray, List.getElem_cons_succ, List.getElem_cons_zero, J.dstOf, List.getElem?_toArray, List.getElem?_cons_succ, List.getElem?_cons_zero, Option.bind_some, List.getD_cons_succ, List.getD_cons_zero, Act.put, List.setIfInBounds_toArray, List.set_cons_succ, List.set_cons_zero]; rfl) ?_
      refine J.Chain.cons (by rfl) (by rfl) (fun M u hO K hK => by (first | exact wp_load_box hO rfl rfl _ (by first | exact at0) (by rfl) (by rfl) (hK _ hO) | exact wp_load_field hO rfl rfl _ (by first | exact at0) (by rfl) (by rfl) (hK _ hO) | (have e0 := (hO.old hb).trans c0; simp only [wp_at_zero, wp_at_succ]; go_step; exact hK _ hO))) (by simp only [J.putL, List.getElem_toArray, List.getElem_cons_succ, List.getElem_cons_zero, J.dstOf, List.getElem?_toArray, List.getElem?_cons_succ, List.getElem?_cons_zero, Option.bind_some, List.getD_cons_succ, List.getD_cons_zero, Act.put, List.setIfInBounds_toArray, List.set_cons_succ, List.set_cons_zero]; rfl) ?_
      refine J.Chain.cons (by rfl) (by rfl) (fun M u hO K hK => by (simp only [wp_at_zero, wp_at_succ]; go_step; exact hK _ hO)) (by simp only [J.putL, List.getElem_toArray, List.getElem_cons_succ, List.getElem_cons_zero, J.dstOf, List.getElem?_toArray, List.getElem?_cons_succ, List.getElem?_cons_zero, Option.bind_some, List.getD_cons_succ, List.getD_cons_zero, Act.put, List.setIfInBounds_toArray, List.set_cons_succ, List.set_cons_zero]; rfl) ?_
      refine J.Chain.cons (by rfl) (by rfl) (fun M u hO K hK => by (simp only [wp_at_zero, wp_at_succ]; go_step; refine (laws_markTextI _ (q + k) _ (by omega) (by omega)).mono ?_; rintro e u ⟨rfl, hb⟩; first | exact hK _ (hO.step hb) | (subst hb; exact hK _ hO))) (by simp only [J.putL, List.getElem_toArray, List.getElem_cons_succ, List.getElem_cons_zero, J.dstOf, List.getElem?_toArray, List.getElem?_cons_succ, List.getElem?_cons_zero, Option.bind_some, List.getD_cons_succ, List.getD_cons_zero, Act.put, List.setIfInBounds_toArray, List.set_cons_succ, List.set_cons_zero]; rfl) ?_
      refine J.Chain.cons (by rfl) (by rfl) (fun M u hO K hK => by (simp only [wp_at_zero, wp_at_succ]; go_step; exact hK _ hO)) (by simp only [J.putL, List.getElem_toArray, List.getElem_cons_succ, List.getElem_cons_zero, J.dstOf, List.getElem?_toArray, List.getElem?_cons_succ, List.getElem?_cons_zero, Option.bind_some, List.getD_cons_succ, List.getD_cons_zero, Act.put, List.setIfInBounds_toArray, List.set_cons_succ, List.set_cons_zero]; rfl) ?_
      refine J.Chain.nil ⟨?_, ?_⟩
      · exact J.Each.nil
      intro vs u hO hF
      clear hF
      simp only [List.flatMap_cons, List.flatMap_nil, List.append_nil, List.nil_append, List.cons_append] at hO
      simp only [J.putL]
      clear vs
      refine wpAny_done (by kernel_rfl) ?_ _
      go_wp2_with (first
        | ((with_reducible refine wpl_alloc ?_); refine wpList_alloc_own rfl (by rfl) hO rfl (fun b => by simp only [Act.put, List.setIfInBounds_toArray, List.set_cons_succ, List.set_cons_zero]; rfl) ?_; (first | (refine nm 0 rfl ?_; clear hO; intro b0 u hO)); simp only [List.nil_append, List.cons_append] at hO)
        | ((with_reducible refine wpl_box ?_); refine wpList_box_own rfl (by rfl) hO rfl rfl (fun b => by simp only [Act.put, List.setIfInBounds_toArray, List.set_cons_succ, List.set_cons_zero]; rfl) ?_; (first | (refine nm 0 rfl ?_; clear hO; intro b0 u hO)); simp only [List.nil_append, List.cons_append] at hO)
        | fail)
      go_roundw
      case rel => exact ⟨k + 1, by omega, by go_num, by go_num, hO⟩
      case measure => simp [intOf]; omega
    · have hkn : k = n := by omega
      subst hkn
      go_wp2_with fail
      go_ret
      exact ⟨rfl, hO.below⟩

end Go.Proofs.Ytncmekbfmgcbnaa
