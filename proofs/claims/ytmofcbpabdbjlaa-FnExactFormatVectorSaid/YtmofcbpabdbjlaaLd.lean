/-
  What is proved: how the statements mark what a call has handed back. what the statements find where they have marked.
  Condition: marks below 2^31.
-/
import Derived.Test.YtmofcbpabdbjlaaLa
import Derived.Test.YtmofcbpabdbjlaaVr
import Derived.Test.YtmofcbpabdbjlaaJ
import Derived.Test.YtmofcbpabdbjlaaFmt
import Derived.Deep.DrawnRows
namespace Go.Proofs.Ytmofcbpabdbjlaa
set_option maxRecDepth 8000

section
open Go.RowKit Go.ChangeShapes Go.WideShapes
set_option linter.unusedVariables false
set_option linter.unusedSimpArgs false

theorem mt_conv (w : World) (d : Nat) (x : Int) (hx : ((dch d).toNat : Int) = x) :
    (convert 58 9 (.slice (some ⟨w.heap.size, 0, none⟩) 1 1)).run Try.prog (w.alloc (.cells #[.int .u8 x] 5)) = .ok (.string (bstr [dch d])) (w.alloc (.cells #[.int .u8 x] 5)) := by
  subst hx
  exact conv_own (base := w.heap.size) (l := [dch d]) (World.ownsRow_lit (base := w.heap.size) (e := 5) (size := 1) w #[.int .u8 (((dch d).toNat : Nat) : Int)] 1 (Nat.le_refl _) (by unfold maxLen; omega) rfl)

theorem laws_markText (n : Nat) (w : World) (h : n ≤ 2147483647) :
    Calls Try.prog 70 #[.int .i64 n] w fun e w' => e = .returned (.string (mtx n)) ∧ Below w.heap.size w w' := by
  by_cases h0 : 0 < n
  · have HM : Hid (mtx n = bstr (109 :: dig n)) := Lib.hid (by unfold mtx; rw [if_neg (by omega)])
    go_enter Try.func70, Try.ntmps70
    have hO := Own.nil w
    go_wp2_with fail
    go_loopw [0, 3] (fun x s u => ∃ (a : Nat) (t : ByteArray), s = .string t ∧ x = .int .i64 a ∧ a ≤ n ∧ Hid (dig a ++ t.data.toList = dig n) ∧ Own w [] u) (fun x _ _ => (intOf x).toNat)
    case atStart => exact ⟨n, ⟨#[]⟩, rfl, rfl, Nat.le_refl _, by simp [Hid], hO⟩
    case round =>
      clear hO
      obtain ⟨a, t, rfl, rfl, han, hd, hO⟩ := hrel
      by_cases ha : 0 < a
      · have hs := text_size ha hd.out
        have hs2 : t.size ≤ 922337203685477580 := by omega
        have hst := Lib.hid (step_text ha hd.out)
        have hsz : (bstr [dch (a % 10)]).size = 1 := rfl
        have hx : ((dch (a % 10)).toNat : Int) = 48 + (a : Int) % 10 := by rw [dch_nat (by omega)]; omega
        have hcv := fun w => mt_conv w (a % 10) _ hx
        clear hs hx
        go_wp2_with fail
        go_roundw
        case rel => exact ⟨a / 10, bstr [dch (a % 10)] ++ t, rfl, by go_num, by omega, hst, hO.step ((Below.refl _ _).alloc (Nat.le_refl _) _)⟩
        case measure => simp [intOf]; omega
      · have hz : a = 0 := by omega
        have fin : Hid (t.data.toList = dig n) := by have := hd.out; rw [hz, dig_zero] at this; exact this
        have hts : t.size ≤ 2147483647 := by
          have h1 := congrArg List.length fin.out
          have := dig_len n
          simp at h1
          omega
        clear hz
        go_wp2_with fail
        go_ret
        exact ⟨ret_str (by rw [HM.out, ← fin.out]; exact eq_bstr (by simp)), hO.below⟩
  · have hz : n = 0 := by omega
    subst hz
    go_enter Try.func70, Try.ntmps70
    have hO := Own.nil w
    go_wp2_with fail
    go_ret
    exact ⟨rfl, hO.below⟩

section
variable {P : Program} {o : Oper} {a : Act} {w w' w0 : World} {K : Act → World → Prop} {Q : Exit → Act → World → Prop} {L : List Res} {ops : Array Oper} {rest : List Oper}
/-- a cell of a row is there -/
theorem Own.rowCell (hO : Own w0 L w) (k : Nat) {e sz n c b : Nat} {xs : List Value} (hk : L[k]? = some (row e sz (.slice (some ⟨b, 0, none⟩) n c) n xs)) {j : Nat} {u : Value} (hu : xs[j]? = some u) : w.cell? ⟨b, j, none⟩ = some u := by
  have h := Own.get hO k hk
  have hs := Go.Proofs.Ytmofcbpabdbjlaa.row_sl h
  have hj := (List.getElem?_eq_some_iff.1 hu).1
  have hn : 0 < n := by
    have := hs.len
    rcases Nat.eq_zero_or_pos n with h0 | h0
    · subst h0; simp at this; subst this; simp at hj
    · exact h0
  obtain ⟨b', off, e1, _, hc⟩ := hs.at_ hn
  simp only [Option.some.injEq, Addr.mk.injEq, and_true] at e1
  obtain ⟨rfl, rfl⟩ := e1
  have := hc j u hu
  rwa [Nat.zero_add] at this
theorem Own.rowFree (hO : Own w0 L w) (k : Nat) {e sz n c b : Nat} {xs : List Value} (hk : L[k]? = some (row e sz (.slice (some ⟨b, 0, none⟩) n c) n xs)) (j : Nat) : w.frozen? ⟨b, j, none⟩ = false := by
  have h : w.ownsRow 0 e sz (.slice (some ⟨b, 0, none⟩) n c) n xs := hO.get k hk
  rcases h.2 with ⟨h2, _⟩ | ⟨g, cap, cur, hv, _, hg, _⟩
  · cases h2
  · simp only [Value.slice.injEq, Option.some.injEq, Addr.mk.injEq, and_true] at hv
    obtain ⟨rfl, _⟩ := hv
    simp [World.frozen?, hg]
theorem wp_store_row (hO : Own w0 L w) {ty : TypeId} {x y : Operand} (ho : o.op = .store ty x y) {b i : Nat} (hx : a.eval x = .pointer (some ⟨b, i, none⟩))
    (k : Nat) {e sz n c : Nat} {xs : List Value} (hk : L[k]? = some (row e sz (.slice (some ⟨b, 0, none⟩) n c) n xs)) (hi : i < xs.length) {v : Value} (hy : a.eval y = v) (h1 : v.oneCell' = true) [hT : OneT P ty]
    {L' : List Res} (hL : L.set k (row e sz (.slice (some ⟨b, 0, none⟩) n c) n (xs.set i v)) = L') (hd : o.dst = none) (h : ∀ w, Own w0 L' w → K a w) : o.wp P a w K Q := by
  obtain ⟨d, e1, e2, e3⟩ := hT.of
  subst hL
  have hc : w.cell? ⟨b, i, none⟩ = some (xs[i]'hi) := hO.rowCell k hk (List.getElem?_eq_getElem hi)
  have hf := hO.rowFree k hk i
  have hcells : v.cells = #[v] := by cases v <;> simp_all [Value.cells, Value.oneCell']
  have hsz : (sizeOf ty).run P w = .ok 1 w := by
    unfold sizeOf typeInfo
    cases hq : P.info? ty with
    | none => rw [hq] at e3; simp at e3
    | some inf =>
      rw [hq] at e3
      simp at e3
      simp [Sem.run_bind, hq, e3]
  have hrun : (Instr.storeAt ty (.pointer (some ⟨b, i, none⟩)) v).run P w = .ok () (w.setCell ⟨b, i, none⟩ v) := by
    simp only [Instr.storeAt, Instr.sureAddr, storeVar, Sem.run_bind, Sem.run_pure, Result.andThen_ok, hsz, hcells]
    cases v <;> simp_all [storeCells, store, Sem.run, Sem.run_bind, Result.andThen, Addr.add, Value.oneCell', hc, hf]
  unfold Oper.wp execOp
  simp only [ho, hx, hy, Sem.run_bind, Sem.run_pure, Result.andThen_ok, hrun]
  show K (a.put o.dst undef) _
  rw [hd]
  exact h _ (hO.set_row k hk i hi v)
theorem wpList_store_row (hO : Own w0 L w) {ty : TypeId} {x y : Operand} (ho : o.op = .store ty x y) (hw : Region.wanted o (yielded ops a.tmps) = true) {b i : Nat} (hx : a.eval x = .pointer (some ⟨b, i, none⟩))
    (k : Nat) {e sz n c : Nat} {xs : List Value} (hk : L[k]? = some (row e sz (.slice (some ⟨b, 0, none⟩) n c) n xs)) (hi : i < xs.length) {v : Value} (hy : a.eval y = v) (h1 : v.oneCell' = true) [hT : OneT P ty]
    {L' : List Res} (hL : L.set k (row e sz (.slice (some ⟨b, 0, none⟩) n c) n (xs.set i v)) = L') (hd : o.dst = none) (h : ∀ w, Own w0 L' w → wpList P ops Q rest a w) : wpList P ops Q (o :: rest) a w :=
  wpList_of (hw := hw) (wp_store_row hO ho hx k hk hi hy h1 hL hd h)
/-- a row of some elements lies at the head of a block -/
theorem Own.form (hO : Own w0 L w) (k : Nat) {e sz n c : Nat} {A : Option Addr} {xs : List Value} (hk : L[k]? = some (row e sz (.slice A n c) n xs)) (hn : 0 < n) : ∃ g, A = some ⟨g, 0, none⟩ := by
  obtain ⟨g, c', hv, _, _⟩ := own_form (show w.ownsRow 0 e sz (.slice A n c) n xs from hO.get k hk) hn
  injection hv with h1
  exact ⟨g, h1⟩
end

theorem mid_set {α : Type} (a l : List α) (k : Nat) (ha : a.length = k) (hk : k < l.length) (y : α) : (a ++ l.drop k).set k y = (a ++ [y]) ++ l.drop (k + 1) := by
  subst ha
  rw [List.set_append_right _ _ (Nat.le_refl _), Nat.sub_self, List.drop_eq_getElem_cons hk, List.set_cons_zero]
  simp
theorem mid_len {α : Type} (a l : List α) (k : Nat) (ha : a.length = k) (hk : k ≤ l.length) : (a ++ l.drop k).length = l.length := by simp [ha]; omega

theorem laws_markStrs (l : List ByteArray) (x : Int) (q : Nat) (hx : x = q) (hq : q + l.length ≤ 2147483647) (A : Option Addr) (c : Nat) (L : List Res) (w0 w : World) (hO : Own w0 (row 9 1 (.slice A l.length c) l.length (stc l) :: L) w) :
    Calls Try.prog 26 #[.slice A l.length c, .int .i64 x] w fun e w' => e = .returned (.int .i64 (q + l.length : Nat)) ∧ Own w0 (row 9 1 (.slice A l.length c) l.length (stc (mkS q l.length)) :: L) w' := by
  subst hx
  go_enter Try.func26, Try.ntmps26
  go_wp2_with fail
  go_loopw [1, 5] (fun s i u => ∃ k : Nat, k ≤ l.length ∧ i = .int .i64 k ∧ s = .int .i64 ((q + k : Nat) : Int) ∧ Own w0 (row 9 1 (.slice A l.length c) l.length (stc (mkS q k ++ l.drop k)) :: L) u) (fun _ i _ => l.length - (intOf i).toNat)
  case atStart => exact ⟨0, Nat.zero_le _, rfl, rfl, by simpa [mkS] using hO⟩
  case round =>
    clear hO
    obtain ⟨k, hk, rfl, rfl, hO⟩ := hrel
    by_cases hlt : k < l.length
    · obtain ⟨g, rfl⟩ := hO.form 0 rfl (by omega)
      have HS := Lib.hid (show (stc (mkS q k ++ l.drop k)).set k (.string (mtx (q + k))) = stc (mkS q (k + 1) ++ l.drop (k + 1)) by
        rw [mkS_succ, ← mid_set _ _ _ (mkS_len q k) hlt]
        simp [stc, List.map_set])
      have HL := Lib.hid (show k < (stc (mkS q k ++ l.drop k)).length by rw [stc_len, mid_len _ _ _ (mkS_len q k) (by omega)]; exact hlt)
      go_wp2_with fail
      refine (laws_markText (q + k) _ (by omega)).mono ?_
      rintro e u ⟨rfl, hb⟩
      (replace hO := hO.step hb; clear hb)
      go_wp2_with (refine wpList_store_row (v := .string (mtx (q + k))) hO rfl (by rfl) rfl 0 rfl HL.out rfl rfl rfl rfl ?_; clear hO; intro u hO)
      simp only [List.set_cons_zero] at hO
      rw [HS.out] at hO
      go_wp2_with fail
      go_roundw
      case rel => exact ⟨k + 1, by omega, by go_num, by go_num, hO⟩
      case measure => simp [intOf]; omega
    · have hkn : k = l.length := by omega
      subst hkn
      rw [List.drop_eq_nil_of_le (Nat.le_refl _), List.append_nil] at hO
      go_wp2_with fail
      go_ret
      exact ⟨rfl, hO⟩
-- %fn

theorem itc_set3 (X : List It) (k : Nat) (hk : k < X.length) (a b : Int) (t : ByteArray) : (((itc X).set (k * 3) (.int .i64 a)).set (k * 3 + 1) (.int .i64 b)).set (k * 3 + 2) (.string t) = itc (X.set k ⟨a, b, t⟩) := by
  unfold itc
  have e0 := flat_set (f := itc1) (sz := 3) X (fun _ _ => rfl) k hk 0 (by omega) (.int .i64 a) ⟨a, X[k].den, X[k].text⟩ rfl
  rw [Nat.add_zero] at e0
  rw [e0, flat_set (f := itc1) (sz := 3) (X.set k _) (fun _ _ => rfl) k (by simpa using hk) 1 (by omega) (.int .i64 b) ⟨a, b, X[k].text⟩ (by rw [List.getElem_set_self]; rfl), List.set_set,
    flat_set (f := itc1) (sz := 3) (X.set k _) (fun _ _ => rfl) k (by simpa using hk) 2 (by omega) (.string t) ⟨a, b, t⟩ (by rw [List.getElem_set_self]; rfl), List.set_set]

theorem laws_markTextI (x : Int) (n : Nat) (w : World) (hx : x = n) (h : n ≤ 2147483647) :
    Calls Try.prog 70 #[.int .i64 x] w fun e w' => e = .returned (.string (mtx n)) ∧ Below w.heap.size w w' := by
  subst hx
  exact laws_markText n w h

theorem laws_markItems (l : List It) (x : Int) (q : Nat) (hx : x = q) (hq : q + 3 * l.length ≤ 2147483647) (A : Option Addr) (c : Nat) (L : List Res) (w0 w : World) (hO : Own w0 (row 83 3 (.slice A l.length c) l.length (itc l) :: L) w) :
    Calls Try.prog 69 #[.slice A l.length c, .int .i64 x] w fun e w' => e = .returned (.int .i64 (q + 3 * l.length : Nat)) ∧ Own w0 (row 83 3 (.slice A l.length c) l.length (itc (mkI q l.length)) :: L) w' := by
  subst hx
  go_enter Try.func69, Try.ntmps69
  go_wp2_with fail
  go_loopw [1, 5] (fun s i u => ∃ k : Nat, k ≤ l.length ∧ i = .int .i64 k ∧ s = .int .i64 ((q + 3 * k : Nat) : Int) ∧ Own w0 (row 83 3 (.slice A l.length c) l.length (itc (mkI q k ++ l.drop k)) :: L) u) (fun _ i _ => l.length - (intOf i).toNat)
  case atStart => exact ⟨0, Nat.zero_le _, rfl, rfl, by simpa [mkI] using hO⟩
  case round =>
    clear hO
    obtain ⟨k, hk, rfl, rfl, hO⟩ := hrel
    by_cases hlt : k < l.length
    · obtain ⟨g, rfl⟩ := hO.form 0 rfl (by omega)
      have hlen := mid_len (mkI q k) l k (mkI_len q k) (by omega)
      have HS := Lib.hid (show (((itc (mkI q k ++ l.drop k)).set (k * 3) (.int .i64 (q + 3 * k))).set (k * 3 + 1) (.int .i64 (q + 3 * k + 1))).set (k * 3 + 2) (.string (mtx (q + 3 * k + 2))) = itc (mkI q (k + 1) ++ l.drop (k + 1)) by
        rw [itc_set3 _ _ (by rw [hlen]; exact hlt), mid_set _ _ _ (mkI_len q k) hlt, mkI_succ]
        rfl)
      have HL0 := Lib.hid (show k * 3 < (itc (mkI q k ++ l.drop k)).length by rw [itc_len, hlen]; omega)
      have HL1 := Lib.hid (show k * 3 + 1 < ((itc (mkI q k ++ l.drop k)).set (k * 3) (.int .i64 (q + 3 * k))).length by rw [List.length_set, itc_len, hlen]; omega)
      have HL2 := Lib.hid (show k * 3 + 2 < (((itc (mkI q k ++ l.drop k)).set (k * 3) (.int .i64 (q + 3 * k))).set (k * 3 + 1) (.int .i64 (q + 3 * k + 1))).length by rw [List.length_set, List.length_set, itc_len, hlen]; omega)
      clear hlen
      go_wp2_with (first
        | (refine wpList_store_row (v := .int .i64 ((q : Int) + 3 * (k : Int))) hO rfl (by rfl) rfl 0 rfl HL0.out rfl rfl rfl rfl ?_; clear hO; intro u hO; simp only [List.set_cons_zero] at hO)
        | (refine wpList_store_row (v := .int .i64 ((q : Int) + 3 * (k : Int) + 1)) hO rfl (by rfl) rfl 0 rfl HL1.out rfl rfl rfl rfl ?_; clear hO; intro u hO; simp only [List.set_cons_zero] at hO))
      refine (laws_markTextI _ (q + 3 * k + 2) _ (by omega) (by omega)).mono ?_
      rintro e u ⟨rfl, hb⟩
      (replace hO := hO.step hb; clear hb)
      go_wp2_with (refine wpList_store_row (v := .string (mtx (q + 3 * k + 2))) hO rfl (by rfl) rfl 0 rfl HL2.out rfl rfl rfl rfl ?_; clear hO; intro u hO; simp only [List.set_cons_zero] at hO)
      rw [HS.out] at hO
      go_roundw
      case rel => exact ⟨k + 1, by omega, by go_num, congrArg (Value.int .i64) (by omega), hO⟩
      case measure => simp [intOf]; omega
    · have hkn : k = l.length := by omega
      subst hkn
      rw [List.drop_eq_nil_of_le (Nat.le_refl _), List.append_nil] at hO
      go_wp2_with fail
      go_ret
      exact ⟨rfl, hO⟩
-- %fn

def PMk (ps : List VT) : Prop := ∀ (A : Option Addr) (c : Nat) (pvs : List (List Value)) (Ls : List (List Res)) (x : Int) (q : Nat) (L : List Res) (w0 w : World), x = q → VL ps pvs Ls → q + cntL ps ≤ 2147483647 →
    Own w0 (row 29 8 (.slice A ps.length c) ps.length pvs.flatten :: pack Ls.flatten :: L) w →
    Calls Try.prog 25 #[.slice A ps.length c, .int .i64 x] w fun e w' => e = .returned (.int .i64 (q + cntL ps : Nat)) ∧ ∃ pvs' Ls', VL (mrkL q ps) pvs' Ls' ∧ Own w0 (row 29 8 (.slice A ps.length c) ps.length pvs'.flatten :: pack Ls'.flatten :: L) w'

/-- (what is left of the cells when the first, the seventh and the eighth of part k are written) -/
theorem set3 (X : List (List Value)) (h8 : ∀ x ∈ X, (id x : List Value).length = 8) (k : Nat) (hk : k < X.length) {v0 v1 v2 v3 v4 v5 v6 v7 : Value} (hx : X[k]'hk = [v0, v1, v2, v3, v4, v5, v6, v7]) (a b d : Value) :
    ((X.flatten.set (k * 8) a).set (k * 8 + 6) b).set (k * 8 + 7) d = (X.set k [a, v1, v2, v3, v4, v5, b, d]).flatten := by
  have hs : ∀ (Y : List (List Value)) (h8 : ∀ x ∈ Y, (id x : List Value).length = 8) (hY : k < Y.length) (j : Nat), j < 8 → ∀ v y, (Y[k]).set j v = y → Y.flatten.set (k * 8 + j) v = (Y.set k y).flatten := by
    intro Y h8 hY j hj v y hy
    have := flat_set (f := id) (sz := 8) Y h8 k hY j hj v y hy
    simpa [List.flatMap_id] using this
  have h8' : ∀ y : List Value, y.length = 8 → ∀ x ∈ X.set k y, (id x : List Value).length = 8 := by
    intro y hy x hx
    rcases List.mem_or_eq_of_mem_set hx with h | h
    · exact h8 x h
    · rw [h]; exact hy
  have e0 := hs X h8 hk 0 (by omega) a [a, v1, v2, v3, v4, v5, v6, v7] (by rw [hx]; rfl)
  rw [Nat.add_zero] at e0
  rw [e0, hs (X.set k _) (h8' _ rfl) (by simpa using hk) 6 (by omega) b [a, v1, v2, v3, v4, v5, b, v7] (by rw [List.getElem_set_self]; rfl), List.set_set,
    hs (X.set k _) (h8' _ rfl) (by simpa using hk) 7 (by omega) d [a, v1, v2, v3, v4, v5, b, d] (by rw [List.getElem_set_self]; rfl), List.set_set]

set_option maxHeartbeats 1000000 in
theorem laws_markVecs_of (ps : List VT) (ih : ∀ p ∈ ps, PMk p.parts) : PMk ps := by
  intro A c pvs Ls x q L w0 w hx hv hq hO
  subst hx
  have hps : ps.length ≤ 2147483647 := by have := cntL_ge ps; omega
  go_enter Try.func25, Try.ntmps25
  go_wp2_with fail
  go_loopw [1, 5] (fun s i u => ∃ (k : Nat) (qvs : List (List Value)) (Ks : List (List Res)), k ≤ ps.length ∧ i = .int .i64 k ∧ s = .int .i64 ((q + cntL (ps.take k) : Nat) : Int) ∧ VL (mrkL q (ps.take k) ++ ps.drop k) qvs Ks ∧ Own w0 (row 29 8 (.slice A ps.length c) ps.length qvs.flatten :: pack Ks.flatten :: L) u) (fun _ i _ => ps.length - (intOf i).toNat)
  case atStart => exact ⟨0, pvs, Ls, Nat.zero_le _, rfl, by simp [cntL], by simpa [mrkL] using hv, hO⟩
  case round =>
    clear hO hv
    obtain ⟨k, qvs, Ks, hk, rfl, rfl, hv, hO⟩ := hrel
    by_cases hlt : k < ps.length
    · obtain ⟨g, rfl⟩ := hO.form 0 rfl (by omega)
      have hih := ih _ (List.getElem_mem hlt)
      have hcm := cntL_mem hlt
      have HC := Lib.hid (cntL_succ hlt)
      have hml : (mrkL q (ps.take k)).length = k := by rw [mrkL_len, List.length_take]; omega
      have hlen := mid_len (mrkL q (ps.take k)) ps k hml (by omega)
      have hkq : k < qvs.length := by rw [hv.len, hlen]; exact hlt
      have hkK : k < Ks.length := by rw [hv.len', hlen]; exact hlt
      have hvo := hv.at_ k (by rw [hlen]; exact hlt) hkq hkK
      have hek : (mrkL q (ps.take k) ++ ps.drop k)[k]'(by rw [hlen]; exact hlt) = ps[k] := by
        rw [List.getElem_append_right (by omega), List.getElem_drop]
        congr 1
        omega
      rw [hek] at hvo
      have HM := Lib.hid (fun y => mid_set (mrkL q (ps.take k)) ps k hml hlt y)
      have HN := Lib.hid (mrkL_succ q hlt)
      have hfl : qvs.flatten.length = ps.length * 8 := by rw [hv.flat, hlen]
      have h8 := hv.eight
      obtain ⟨x, hx⟩ : ∃ x, ps[k]'hlt = x := ⟨_, rfl⟩
      rw [hx] at hvo hih hcm HC HN
      clear hx hek
      obtain ⟨xk, xi, xp, xn, xc, xl, xo, xe⟩ := x
      obtain ⟨Ai, Ap, An, Ac, Al, ci, cp, cn, cc, cl, pvs2, Ls2, hqk, hKk, hvl⟩ := hvo.open
      have HP := Lib.hid (flat_erase Ks k hkK).symm
      have HP' := Lib.hid (fun y => flat_put Ks k hkK y)
      have HS3 := Lib.hid (set3 qvs h8 k hkq hqk)
      rw [hKk] at HP
      obtain ⟨m, hm⟩ : ∃ m, q + cntL (ps.take k) = m := ⟨_, rfl⟩
      have hX : ∀ j u, 0 < j → j < 8 → [Value.int .i64 xk, .slice Ai xi.length ci, .slice Ap xp.length cp, .slice An xn.length cn, .slice Ac xc.length cc, .slice Al xl.length cl, .int .i64 xo, .int .i64 xe][j]? = some u → (qvs.flatten.set (k * 8) (.int .i64 (m : Int)))[k * 8 + j]? = some u := fun j u h0 hj hu => by
        have := flat_at (f := id) (sz := 8) qvs h8 k hkq j hj
        rw [List.flatMap_id] at this
        rw [List.getElem?_set_ne (by omega), this]
        show qvs[k][j]? = _
        rw [hqk]
        exact hu
      have HX := Lib.hid hX
      have HL0 := Lib.hid (show k * 8 < qvs.flatten.length by rw [hfl]; omega)
      have HL6 := Lib.hid (show k * 8 + 6 < (qvs.flatten.set (k * 8) (.int .i64 (m : Int))).length by rw [List.length_set, hfl]; omega)
      have HL7 := Lib.hid (fun v => show k * 8 + 7 < ((qvs.flatten.set (k * 8) (.int .i64 (m : Int))).set (k * 8 + 6) v).length by rw [List.length_set, List.length_set, hfl]; omega)
      clear hX hfl h8 hml hlen hqk hKk hvo
      replace hO := hO.front 1 rfl
      simp only [List.eraseIdx_cons_zero, List.eraseIdx_cons_succ] at hO
      replace hO := Own.crack [_, _, _, _, _] (hO.repack HP.out)
      simp only [List.cons_append, List.nil_append] at hO
      rw [hm]
      have HMq := Lib.hid hm
      simp only [cntV] at hcm
      have hmb : m + (3 * xi.length + cntL xp + xn.length + xc.length + xl.length + 3) ≤ 2147483647 := by omega
      clear hm hcm
      replace hih : PMk xp := hih
      go_wp2_with (refine wpList_store_row (v := .int .i64 (m : Int)) hO rfl (by rfl) rfl 7 rfl HL0.out rfl rfl rfl rfl ?_; clear hO; intro u hO; simp only [List.set_cons_zero, List.set_cons_succ] at hO; have d1 := hO.rowCell 7 rfl (HX.out 1 _ (by omega) (by omega) rfl))
      refine (laws_markItems xi _ (m + 1) (by omega) (by omega) _ _ _ _ _ hO).mono ?_
      clear hO d1
      rintro e u ⟨rfl, hO⟩
      have d2 := hO.rowCell 7 rfl (HX.out 2 _ (by omega) (by omega) rfl)
      go_wp2_with fail
      replace hO := hO.front 5 rfl
      simp only [List.eraseIdx_cons_zero, List.eraseIdx_cons_succ] at hO
      replace hO := hO.front 2 rfl
      simp only [List.eraseIdx_cons_zero, List.eraseIdx_cons_succ] at hO
      refine (hih _ _ _ _ _ (m + 1 + 3 * xi.length) _ _ _ (by omega) hvl (by omega) hO).mono ?_
      clear hO d2
      rintro e u ⟨rfl, pvs3, Ls3, hvl3, hO⟩
      have d3 := hO.rowCell 7 rfl (HX.out 3 _ (by omega) (by omega) rfl)
      go_wp2_with fail
      replace hO := hO.front 3 rfl
      simp only [List.eraseIdx_cons_zero, List.eraseIdx_cons_succ] at hO
      refine (laws_markStrs xn _ (m + 1 + 3 * xi.length + cntL xp) (by omega) (by omega) _ _ _ _ _ hO).mono ?_
      clear hO d3
      rintro e u ⟨rfl, hO⟩
      have d4 := hO.rowCell 7 rfl (HX.out 4 _ (by omega) (by omega) rfl)
      go_wp2_with fail
      replace hO := hO.front 4 rfl
      simp only [List.eraseIdx_cons_zero, List.eraseIdx_cons_succ] at hO
      refine (laws_markStrs xc _ (m + 1 + 3 * xi.length + cntL xp + xn.length) (by omega) (by omega) _ _ _ _ _ hO).mono ?_
      clear hO d4
      rintro e u ⟨rfl, hO⟩
      have d5 := hO.rowCell 7 rfl (HX.out 5 _ (by omega) (by omega) rfl)
      go_wp2_with fail
      replace hO := hO.front 5 rfl
      simp only [List.eraseIdx_cons_zero, List.eraseIdx_cons_succ] at hO
      refine (laws_markStrs xl _ (m + 1 + 3 * xi.length + cntL xp + xn.length + xc.length) (by omega) (by omega) _ _ _ _ _ hO).mono ?_
      clear hO d5
      rintro e u ⟨rfl, hO⟩
      obtain ⟨z, hz⟩ : ∃ z, m + 1 + 3 * xi.length + cntL xp + xn.length + xc.length + xl.length = z := ⟨_, rfl⟩
      rw [hz]
      have HZ := Lib.hid hz
      have hzb : z ≤ 2147483645 := by omega
      clear hz hmb
      go_wp2_with (first
        | (refine wpList_store_row (v := .int .i64 (z : Int)) hO rfl (by rfl) rfl 7 rfl HL6.out rfl rfl rfl rfl ?_; clear hO; intro u hO; simp only [List.set_cons_zero, List.set_cons_succ] at hO)
        | (refine wpList_store_row (v := .int .i64 ((z : Int) + 1)) hO rfl (by rfl) rfl 7 rfl (HL7.out _) rfl rfl rfl rfl ?_; clear hO; intro u hO; simp only [List.set_cons_zero, List.set_cons_succ] at hO))
      rw [HS3.out] at hO
      replace hO := hO.front 4 rfl
      simp only [List.eraseIdx_cons_zero, List.eraseIdx_cons_succ] at hO
      replace hO := hO.front 1 rfl
      simp only [List.eraseIdx_cons_zero, List.eraseIdx_cons_succ] at hO
      replace hO := hO.front 2 rfl
      simp only [List.eraseIdx_cons_zero, List.eraseIdx_cons_succ] at hO
      replace hO := hO.front 3 rfl
      simp only [List.eraseIdx_cons_zero, List.eraseIdx_cons_succ] at hO
      replace hO := hO.front 4 rfl
      simp only [List.eraseIdx_cons_zero, List.eraseIdx_cons_succ] at hO
      replace hO := hO.front 5 rfl
      simp only [List.eraseIdx_cons_zero, List.eraseIdx_cons_succ] at hO
      replace hO := (Own.mend [_, _, _, _, _] hO).repack (HP'.out _)
      replace hO := hO.front 1 rfl
      simp only [List.eraseIdx_cons_zero, List.eraseIdx_cons_succ] at hO
      have hvo := VO.close (k := (m : Int)) (is := mkI (m + 1) xi.length) (ns := mkS (m + 1 + 3 * xi.length + cntL xp) xn.length) (cs := mkS (m + 1 + 3 * xi.length + cntL xp + xn.length) xc.length) (ls := mkS (m + 1 + 3 * xi.length + cntL xp + xn.length + xc.length) xl.length) (c := (z : Int)) (e := (z : Int) + 1) (Ai := Ai) (Ap := Ap) (An := An) (Ac := Ac) (Al := Al) (ci := ci) (cp := cp) (cn := cn) (cc := cc) (cl := cl) hvl3
      simp only [mkI_len, mkS_len, mrkL_len] at hvo
      have hz := HZ.out
      have hm := HMq.out
      have et : (VT.mk (m : Int) (mkI (m + 1) xi.length) (mrkL (m + 1 + 3 * xi.length) xp) (mkS (m + 1 + 3 * xi.length + cntL xp) xn.length) (mkS (m + 1 + 3 * xi.length + cntL xp + xn.length) xc.length) (mkS (m + 1 + 3 * xi.length + cntL xp + xn.length + xc.length) xl.length) (z : Int) ((z : Int) + 1)) = mrkP (q + cntL (ps.take k)) (VT.mk xk xi xp xn xc xl xo xe) := by
        rw [hm]
        simp only [mrkP, mrkV, setT, cntV]
        congr 1 <;> omega
      rw [et] at hvo
      have hvl4 := hv.set k hvo
      rw [HM.out, ← HN.out] at hvl4
      have hc := HC.out
      simp only [cntV] at hc
      clear et hvo
      go_roundw
      case rel => exact ⟨k + 1, _, _, by omega, by go_num, congrArg (Value.int .i64) (by rw [hc]; omega), hvl4, hO⟩
      case measure => simp [intOf]; omega
    · have hkn : k = ps.length := by omega
      subst hkn
      rw [List.drop_eq_nil_of_le (Nat.le_refl _), List.append_nil, List.take_length] at hv
      rw [List.take_length]
      go_wp2_with fail
      go_ret
      exact ⟨rfl, _, _, hv, hO⟩
-- %fn

theorem laws_markVecs (ps : List VT) : PMk ps := by
  have h : ∀ t : VT, PMk t.parts := by
    intro t
    induction t using VT.ind with
    | _ k is ps ns cs ls c e ih => exact laws_markVecs_of ps ih
  exact h (.mk 0 [] ps [] [] [] 0 0)

theorem laws_markVec (t : VT) (vs : List Value) (F : List Res) (q : Nat) (x : Int) (hx : x = q) (hq : q + cntV t ≤ 2147483647) (L : List Res) (w0 w : World) (hv : VO t vs F) (hO : Own w0 (pack F :: L) w) :
    Calls Try.prog 27 #[.agg vs.toArray, .int .i64 x] w fun e w' => e = .returned (.int .i64 (q + cntV t : Nat)) ∧ ∃ F', VO (mrkV q t) vs F' ∧ Own w0 (pack F' :: L) w' := by
  subst hx
  obtain ⟨xk, xi, xp, xn, xc, xl, xo, xe⟩ := t
  obtain ⟨Ai, Ap, An, Ac, Al, ci, cp, cn, cc, cl, pvs2, Ls2, rfl, rfl, hvl⟩ := hv.open
  simp only [cntV] at hq
  replace hO := Own.crack (E := []) [_, _, _, _, _] (hO.repack (F' := [_, _, _, _, _] ++ Ls2.flatten ++ []) (by rw [List.append_nil]; exact List.Perm.refl _))
  simp only [List.cons_append, List.nil_append] at hO
  replace hO := Own.pack (hO.perm (List.perm_append_comm (l₁ := [_, _, _, _, _, _, _]) (l₂ := L)))
  go_enter Try.func27, Try.ntmps27
  go_wp2_with (first
    | ((with_reducible refine wpl_box ?_); refine wpList_box_own rfl (by rfl) hO rfl rfl (fun b => by simp only [Act.put, zA, zB, zC]; rfl) ?_; (refine nm 8 rfl ?_; clear hO; intro b8 u hO); simp only [zL, zK] at hO)
    | ((with_reducible refine wpl_load ?_); refine wpList_load_field rfl (by rfl) hO rfl _ (by exact at8) (by rfl) (by simp only [Act.put, zA, zB, zC]; rfl) ?_)
    | fail)
  replace hO := hO.front 1 rfl
  simp only [List.eraseIdx_cons_zero, List.eraseIdx_cons_succ] at hO
  refine (laws_markItems xi _ q rfl (by omega) _ _ _ _ _ hO).mono ?_
  clear hO
  rintro e u ⟨rfl, hO⟩
  go_wp2_with (first
    | ((with_reducible refine wpl_load ?_); refine wpList_load_field rfl (by rfl) hO rfl _ (by exact at8) (by rfl) (by simp only [Act.put, zA, zB, zC]; rfl) ?_)
    | fail)
  replace hO := hO.front 6 rfl
  simp only [List.eraseIdx_cons_zero, List.eraseIdx_cons_succ] at hO
  replace hO := hO.front 3 rfl
  simp only [List.eraseIdx_cons_zero, List.eraseIdx_cons_succ] at hO
  refine (laws_markVecs _ _ _ _ _ _ (q + 3 * xi.length) _ _ _ (by omega) hvl (by omega) hO).mono ?_
  clear hO
  rintro e u ⟨rfl, pvs3, Ls3, hvl3, hO⟩
  go_wp2_with (first
    | ((with_reducible refine wpl_load ?_); refine wpList_load_field rfl (by rfl) hO rfl _ (by exact at8) (by rfl) (by simp only [Act.put, zA, zB, zC]; rfl) ?_)
    | fail)
  replace hO := hO.front 4 rfl
  simp only [List.eraseIdx_cons_zero, List.eraseIdx_cons_succ] at hO
  refine (laws_markStrs xn _ (q + 3 * xi.length + cntL xp) (by omega) (by omega) _ _ _ _ _ hO).mono ?_
  clear hO
  rintro e u ⟨rfl, hO⟩
  go_wp2_with (first
    | ((with_reducible refine wpl_load ?_); refine wpList_load_field rfl (by rfl) hO rfl _ (by exact at8) (by rfl) (by simp only [Act.put, zA, zB, zC]; rfl) ?_)
    | fail)
  replace hO := hO.front 5 rfl
  simp only [List.eraseIdx_cons_zero, List.eraseIdx_cons_succ] at hO
  refine (laws_markStrs xc _ (q + 3 * xi.length + cntL xp + xn.length) (by omega) (by omega) _ _ _ _ _ hO).mono ?_
  clear hO
  rintro e u ⟨rfl, hO⟩
  go_wp2_with (first
    | ((with_reducible refine wpl_load ?_); refine wpList_load_field rfl (by rfl) hO rfl _ (by exact at8) (by rfl) (by simp only [Act.put, zA, zB, zC]; rfl) ?_)
    | fail)
  replace hO := hO.front 6 rfl
  simp only [List.eraseIdx_cons_zero, List.eraseIdx_cons_succ] at hO
  refine (laws_markStrs xl _ (q + 3 * xi.length + cntL xp + xn.length + xc.length) (by omega) (by omega) _ _ _ _ _ hO).mono ?_
  clear hO
  rintro e u ⟨rfl, hO⟩
  go_wp2_with (first
    | ((with_reducible refine wpl_alloc ?_); refine wpList_alloc_own rfl (by rfl) hO rfl (fun b => by simp only [Act.put, zA, zB, zC]; rfl) ?_; (first | (refine nm 0 rfl ?_; clear hO; intro b0 u hO) | (refine nm 1 rfl ?_; clear hO; intro b1 u hO) | (refine nm 2 rfl ?_; clear hO; intro b2 u hO) | (refine nm 3 rfl ?_; clear hO; intro b3 u hO) | (refine nm 4 rfl ?_; clear hO; intro b4 u hO) | (refine nm 5 rfl ?_; clear hO; intro b5 u hO) | (refine nm 6 rfl ?_; clear hO; intro b6 u hO) | (refine nm 7 rfl ?_; clear hO; intro b7 u hO) | (refine nm 8 rfl ?_; clear hO; intro b8 u hO) | (refine nm 9 rfl ?_; clear hO; intro b9 u hO)); simp only [zL, zK] at hO)
    | ((with_reducible refine wpl_box ?_); refine wpList_box_own rfl (by rfl) hO rfl rfl (fun b => by simp only [Act.put, zA, zB, zC]; rfl) ?_; (first | (refine nm 0 rfl ?_; clear hO; intro b0 u hO) | (refine nm 1 rfl ?_; clear hO; intro b1 u hO) | (refine nm 2 rfl ?_; clear hO; intro b2 u hO) | (refine nm 3 rfl ?_; clear hO; intro b3 u hO) | (refine nm 4 rfl ?_; clear hO; intro b4 u hO) | (refine nm 5 rfl ?_; clear hO; intro b5 u hO) | (refine nm 6 rfl ?_; clear hO; intro b6 u hO) | (refine nm 7 rfl ?_; clear hO; intro b7 u hO) | (refine nm 8 rfl ?_; clear hO; intro b8 u hO) | (refine nm 9 rfl ?_; clear hO; intro b9 u hO)); simp only [zL, zK] at hO)
    | ((with_reducible refine wpl_load ?_); refine wpList_load_box rfl (by (first | rfl | (simp only [Region.wanted, yielded, *]; go_simp; done) | (simp [Region.wanted, yielded, *]; done) | fail)) hO rfl _ (by (first | exact at0 | exact at1 | exact at2 | exact at3 | exact at4 | exact at5 | exact at6 | exact at7 | exact at8 | exact at9)) (by rfl) (by simp only [Act.put, zA, zB, zC]; rfl) ?_)
    | ((with_reducible refine wpl_load ?_); refine wpList_load_field rfl (by (first | rfl | (simp only [Region.wanted, yielded, *]; go_simp; done) | (simp [Region.wanted, yielded, *]; done) | fail)) hO rfl _ (by (first | exact at0 | exact at1 | exact at2 | exact at3 | exact at4 | exact at5 | exact at6 | exact at7 | exact at8 | exact at9)) (by rfl) (by simp only [Act.put, zA, zB, zC]; rfl) ?_)
    | ((with_reducible refine wpl_store ?_); refine wpList_store_box rfl (by rfl) hO rfl _ (by (first | exact at0 | exact at1 | exact at2 | exact at3 | exact at4 | exact at5 | exact at6 | exact at7 | exact at8 | exact at9)) rfl (by rfl) (by rfl) (by rfl) (by rfl) (by rfl) ?_; clear hO; intro u hO; simp only [zC, zB] at hO)
    | ((with_reducible refine wpl_store ?_); refine wpList_store_field rfl (by rfl) hO rfl _ (by (first | exact at0 | exact at1 | exact at2 | exact at3 | exact at4 | exact at5 | exact at6 | exact at7 | exact at8 | exact at9)) (zM rfl) (by simp only [Act.eval, zJ, zF, zD, zE, zP]; rfl) (by rfl) (by rfl) (by rfl) ?_; clear hO; intro u hO; simp only [zC, zB] at hO)
    | fail)
  have hvo := VO.close (k := xk) (is := mkI q xi.length) (ns := mkS (q + 3 * xi.length + cntL xp) xn.length) (cs := mkS (q + 3 * xi.length + cntL xp + xn.length) xc.length) (ls := mkS (q + 3 * xi.length + cntL xp + xn.length + xc.length) xl.length) (c := xo) (e := xe) (Ai := Ai) (Ap := Ap) (An := An) (Ac := Ac) (Al := Al) (ci := ci) (cp := cp) (cn := cn) (cc := cc) (cl := cl) hvl3
  simp only [mkI_len, mkS_len, mrkL_len] at hvo
  have h1 := Own.unpack (hO.pick [6, 5, 3, 2, 1, 0, 4] (by decide))
  have h2 := Own.packs' [_, _, _, _, _] (h1.perm List.perm_append_comm)
  go_ret
  exact ⟨ret_int (by simp only [cntV]; omega), _, hvo, h2⟩
-- %fn

end

section
open Go.RowKit Go.ChangeShapes Go.WideShapes
set_option linter.unusedVariables false
set_option linter.unusedSimpArgs false

theorem laws_heldStrs (n : Nat) (x : Int) (q : Nat) (hx : x = q) (hq : q + n ≤ 2147483647) (A : Option Addr) (c : Nat) (w : World) (h : Sl w 1 A n (stc (mkS q n))) :
    Calls Try.prog 73 #[.slice A n c, .int .i64 x] w fun e w' => e = .returned (.int .i64 (q + n : Nat)) ∧ Below w.heap.size w w' := by
  subst hx
  have h' : Sl w 1 A (mkS q n).length (stc (mkS q n)) := by rw [mkS_len]; exact h
  go_enter Try.func73, Try.ntmps73
  have hO := Own.nil w
  go_wp2_with fail
  go_loopw [1, 5] (fun s i u => ∃ k : Nat, k ≤ n ∧ i = .int .i64 k ∧ s = .int .i64 ((q + k : Nat) : Int) ∧ Own w [] u) (fun _ i _ => n - (intOf i).toNat)
  case atStart => exact ⟨0, Nat.zero_le _, rfl, rfl, hO⟩
  case round =>
    clear hO
    obtain ⟨k, hk, rfl, rfl, hO⟩ := hrel
    by_cases hlt : k < n
    · obtain ⟨b, off, rfl, hb, c0⟩ := h'.tx (Below.refl _ _) (by rw [mkS_len]; exact hlt) (mkS_at _)
      have t : (!(mtx (q + k)).toList == (mtx (q + k)).toList) = false := by simp
      have i1 : (0 : Int) ≤ (k : Int) := by omega
      have i2 : (k : Int) < (n : Int) := by omega
      go_wp2_with fail
      refine J.wp_region_c (n := 22) [0, 1, 2, 3, 4, 5, 6] [] (deps := fun i => [[], [], [0, 1], [0, 1, 2], [], [4], [0, 1, 2, 3, 4, 5]].getD i []) (fun _ _ _ => True) (r := 0) (lst := #[true, true, true, true, true, true, true]) (by kernel_rfl) (by kernel_rfl) (by kernel_rfl) rfl (by decide) (by kernel_rfl) hO ?_
      refine J.Chain.cons (by rfl) (by rfl) (fun M u hO K hK => by (simp only [wp_at_zero, wp_at_succ]; go_step; exact hK _ hO)) (by simp only [J.putL, zI, zG, zH, J.dstOf, zF, zD, zE, zS, zQ, zR, Act.put, zA, zB, zC]; rfl) ?_
      refine J.Chain.cons (by rfl) (by rfl) (fun M u hO K hK => by (simp only [wp_at_zero, wp_at_succ]; go_step; exact hK _ hO)) (by simp only [J.putL, zI, zG, zH, J.dstOf, zF, zD, zE, zS, zQ, zR, Act.put, zA, zB, zC]; rfl) ?_
      refine J.Chain.cons (by rfl) (by rfl) (fun M u hO K hK => by (simp only [wp_at_zero, wp_at_succ]; go_step; exact hK _ hO)) (by simp only [J.putL, zI, zG, zH, J.dstOf, zF, zD, zE, zS, zQ, zR, Act.put, zA, zB, zC]; rfl) ?_
      refine J.Chain.cons (by rfl) (by rfl) (fun M u hO K hK => by ((have e0 := (hO.old hb).trans c0; simp only [wp_at_zero, wp_at_succ]; go_step; exact hK _ hO))) (by simp only [J.putL, zI, zG, zH, J.dstOf, zF, zD, zE, zS, zQ, zR, Act.put, zA, zB, zC]; rfl) ?_
      refine J.Chain.cons (by rfl) (by rfl) (fun M u hO K hK => by (simp only [wp_at_zero, wp_at_succ]; go_step; exact hK _ hO)) (by simp only [J.putL, zI, zG, zH, J.dstOf, zF, zD, zE, zS, zQ, zR, Act.put, zA, zB, zC]; rfl) ?_
      refine J.Chain.cons (by rfl) (by rfl) (fun M u hO K hK => by (simp only [wp_at_zero, wp_at_succ]; go_step; refine (laws_markTextI _ (q + k) _ (by omega) (by omega)).mono ?_; rintro e u ⟨rfl, hb⟩; exact hK _ (hO.step hb))) (by simp only [J.putL, zI, zG, zH, J.dstOf, zF, zD, zE, zS, zQ, zR, Act.put, zA, zB, zC]; rfl) ?_
      refine J.Chain.cons (by rfl) (by rfl) (fun M u hO K hK => by (simp only [wp_at_zero, wp_at_succ]; go_step; exact hK _ hO)) (by simp only [J.putL, zI, zG, zH, J.dstOf, zF, zD, zE, zS, zQ, zR, Act.put, zA, zB, zC]; rfl) ?_
      refine J.Chain.nil ⟨?_, ?_⟩
      · exact J.Each.nil
      intro vs u hO hF
      clear hF
      simp only [List.flatMap_cons, List.flatMap_nil, List.append_nil, zL, zK] at hO
      simp only [J.putL]
      clear vs
      refine wpAny_done (by kernel_rfl) ?_ _
      go_wp2_with (first
        | ((with_reducible refine wpl_alloc ?_); refine wpList_alloc_own rfl (by rfl) hO rfl (fun b => by simp only [Act.put, zA, zB, zC]; rfl) ?_; (first | (refine nm 0 rfl ?_; clear hO; intro b0 u hO)); simp only [zL, zK] at hO)
        | ((with_reducible refine wpl_box ?_); refine wpList_box_own rfl (by rfl) hO rfl rfl (fun b => by simp only [Act.put, zA, zB, zC]; rfl) ?_; (first | (refine nm 0 rfl ?_; clear hO; intro b0 u hO)); simp only [zL, zK] at hO)
        | fail)
      go_roundw
      case rel => exact ⟨k + 1, by omega, by go_num, by go_num, hO⟩
      case measure => simp [intOf]; omega
    · have hkn : k = n := by omega
      subst hkn
      go_wp2_with fail
      go_ret
      exact ⟨rfl, hO.below⟩

theorem laws_heldItems (n : Nat) (x : Int) (q : Nat) (hx : x = q) (hq : q + 3 * n ≤ 2147483647) (A : Option Addr) (c : Nat) (w : World) (h : Sl w 3 A n (itc (mkI q n))) :
    Calls Try.prog 71 #[.slice A n c, .int .i64 x] w fun e w' => e = .returned (.int .i64 (q + 3 * n : Nat)) ∧ Below w.heap.size w w' := by
  subst hx
  have h' : Sl w 3 A (mkI q n).length (itc (mkI q n)) := by rw [mkI_len]; exact h
  go_enter Try.func71, Try.ntmps71
  have hO := Own.nil w
  go_wp2_with fail
  go_loopw [1, 5] (fun s i u => ∃ k : Nat, k ≤ n ∧ i = .int .i64 k ∧ s = .int .i64 ((q + 3 * k : Nat) : Int) ∧ Own w [] u) (fun _ i _ => n - (intOf i).toNat)
  case atStart => exact ⟨0, Nat.zero_le _, rfl, rfl, hO⟩
  case round =>
    clear hO
    obtain ⟨k, hk, rfl, rfl, hO⟩ := hrel
    by_cases hlt : k < n
    · obtain ⟨b, off, rfl, hb, c0, c1, c2⟩ := h'.it (Below.refl _ _) (by rw [mkI_len]; exact hlt) (mkI_at _)
      simp only [mkI1] at c0 c1 c2
      have e0 := (hO.old hb).trans c0
      have e1 := (hO.old hb).trans c1
      have t : (!(mtx (q + 3 * k + 2)).toList == (mtx (q + 3 * k + 2)).toList) = false := by simp
      have i1 : (0 : Int) ≤ (k : Int) := by omega
      have i2 : (k : Int) < (n : Int) := by omega
      go_wp2_with fail
      clear e0 e1
      refine J.wp_region_c (n := 41) [0, 1, 2, 3, 4, 5, 6, 7] [] (deps := fun i => [[], [], [0, 1], [0, 1, 2], [0, 1, 2, 3], [], [5], [0, 1, 2, 3, 4, 5, 6]].getD i []) (fun _ _ _ => True) (r := 0) (lst := #[true, true, true, true, true, true, true, true]) (by kernel_rfl) (by kernel_rfl) (by kernel_rfl) rfl (by decide) (by kernel_rfl) hO ?_
      refine J.Chain.cons (by rfl) (by rfl) (fun M u hO K hK => by (simp only [wp_at_zero, wp_at_succ]; go_step; exact hK _ hO)) (by simp only [J.putL, zI, zG, zH, J.dstOf, zF, zD, zE, zS, zQ, zR, Act.put, zA, zB, zC]; rfl) ?_
      refine J.Chain.cons (by rfl) (by rfl) (fun M u hO K hK => by (simp only [wp_at_zero, wp_at_succ]; go_step; exact hK _ hO)) (by simp only [J.putL, zI, zG, zH, J.dstOf, zF, zD, zE, zS, zQ, zR, Act.put, zA, zB, zC]; rfl) ?_
      refine J.Chain.cons (by rfl) (by rfl) (fun M u hO K hK => by (simp only [wp_at_zero, wp_at_succ]; go_step; exact hK _ hO)) (by simp only [J.putL, zI, zG, zH, J.dstOf, zF, zD, zE, zS, zQ, zR, Act.put, zA, zB, zC]; rfl) ?_
      refine J.Chain.cons (by rfl) (by rfl) (fun M u hO K hK => by (simp only [wp_at_zero, wp_at_succ]; go_step; exact hK _ hO)) (by simp only [J.putL, zI, zG, zH, J.dstOf, zF, zD, zE, zS, zQ, zR, Act.put, zA, zB, zC]; rfl) ?_
      refine J.Chain.cons (by rfl) (by rfl) (fun M u hO K hK => by ((have e2 := (hO.old hb).trans c2; simp only [wp_at_zero, wp_at_succ]; go_step; exact hK _ hO))) (by simp only [J.putL, zI, zG, zH, J.dstOf, zF, zD, zE, zS, zQ, zR, Act.put, zA, zB, zC]; rfl) ?_
      refine J.Chain.cons (by rfl) (by rfl) (fun M u hO K hK => by (simp only [wp_at_zero, wp_at_succ]; go_step; exact hK _ hO)) (by simp only [J.putL, zI, zG, zH, J.dstOf, zF, zD, zE, zS, zQ, zR, Act.put, zA, zB, zC]; rfl) ?_
      refine J.Chain.cons (by rfl) (by rfl) (fun M u hO K hK => by (simp only [wp_at_zero, wp_at_succ]; go_step; refine (laws_markTextI _ (q + 3 * k + 2) _ (by omega) (by omega)).mono ?_; rintro e u ⟨rfl, hb⟩; exact hK _ (hO.step hb))) (by simp only [J.putL, zI, zG, zH, J.dstOf, zF, zD, zE, zS, zQ, zR, Act.put, zA, zB, zC]; rfl) ?_
      refine J.Chain.cons (by rfl) (by rfl) (fun M u hO K hK => by (simp only [wp_at_zero, wp_at_succ]; go_step; exact hK _ hO)) (by simp only [J.putL, zI, zG, zH, J.dstOf, zF, zD, zE, zS, zQ, zR, Act.put, zA, zB, zC]; rfl) ?_
      refine J.Chain.nil ⟨?_, ?_⟩
      · exact J.Each.nil
      intro vs u hO hF
      clear hF
      simp only [List.flatMap_cons, List.flatMap_nil, List.append_nil, zL, zK] at hO
      simp only [J.putL]
      clear vs
      refine wpAny_done (by kernel_rfl) ?_ _
      go_wp2_with (first
        | ((with_reducible refine wpl_alloc ?_); refine wpList_alloc_own rfl (by rfl) hO rfl (fun b => by simp only [Act.put, zA, zB, zC]; rfl) ?_; (first | (refine nm 0 rfl ?_; clear hO; intro b0 u hO)); simp only [zL, zK] at hO)
        | ((with_reducible refine wpl_box ?_); refine wpList_box_own rfl (by rfl) hO rfl rfl (fun b => by simp only [Act.put, zA, zB, zC]; rfl) ?_; (first | (refine nm 0 rfl ?_; clear hO; intro b0 u hO)); simp only [zL, zK] at hO)
        | fail)
      go_roundw
      case rel => exact ⟨k + 1, by omega, by go_num, congrArg (Value.int .i64) (by omega), hO⟩
      case measure => simp [intOf]; omega
    · have hkn : k = n := by omega
      subst hkn
      go_wp2_with fail
      go_ret
      exact ⟨rfl, hO.below⟩

def PHl (ps : List VT) : Prop := ∀ (A : Option Addr) (c : Nat) (pvs : List (List Value)) (x : Int) (q : Nat) (w : World), x = q → q + cntL ps ≤ 2147483647 → RdL w A (mrkL q ps) pvs →
    Calls Try.prog 72 #[.slice A ps.length c, .int .i64 x] w fun e w' => e = .returned (.int .i64 (q + cntL ps : Nat)) ∧ Below w.heap.size w w'

set_option maxRecDepth 100000 in
set_option maxHeartbeats 1000000 in
theorem laws_heldVecs_of (ps : List VT) (ih : ∀ p ∈ ps, PHl p.parts) : PHl ps := by
  intro A c pvs x q w hx hq h
  subst hx
  have hps : ps.length ≤ 2147483647 := by have := cntL_ge ps; omega
  go_enter Try.func72, Try.ntmps72
  have hO := Own.nil w
  go_wp2_with fail
  go_loopw [1, 5] (fun s i u => ∃ k : Nat, k ≤ ps.length ∧ i = .int .i64 k ∧ s = .int .i64 ((q + cntL (ps.take k) : Nat) : Int) ∧ Own w [] u) (fun _ i _ => ps.length - (intOf i).toNat)
  case atStart => exact ⟨0, Nat.zero_le _, rfl, rfl, hO⟩
  case round =>
    clear hO
    obtain ⟨k, hk, rfl, rfl, hO⟩ := hrel
    by_cases hlt : k < ps.length
    · have hih := ih _ (List.getElem_mem hlt)
      have hcm := cntL_mem hlt
      have HC := Lib.hid (cntL_succ hlt)
      obtain ⟨b, off, rfl, hb, v0, v1, v2, v3, v4, v5, v6, v7, hv, c0, c1, c2, c3, c4, c5, c6, c7⟩ := h.pt (Below.refl _ _) (by rw [mrkL_len]; exact hlt) (mrkL_at q ps k hlt _)
      obtain ⟨x, hx⟩ : ∃ x, ps[k]'hlt = x := ⟨_, rfl⟩
      rw [hx] at hih hcm HC hv
      clear hx
      obtain ⟨xk, xi, xp, xn, xc, xl, xo, xe⟩ := x
      obtain ⟨m, hm⟩ : ∃ m, q + cntL (ps.take k) = m := ⟨_, rfl⟩
      rw [hm] at hv ⊢
      simp only [cntV] at hcm HC
      have hmb : m + (3 * xi.length + cntL xp + xn.length + xc.length + xl.length + 3) ≤ 2147483647 := by omega
      have HMq := Lib.hid hm
      clear hm hcm
      replace hih : PHl xp := hih
      simp only [mrkP, mrkV, setT, cntV] at hv
      obtain ⟨Ai, Ap, An, Ac, Al, ci, cp, cn, cc, cl, pvs2, hvs, r1, r2, r3, r4, r5⟩ := hv.open
      simp only [List.cons.injEq, and_true] at hvs
      obtain ⟨rfl, rfl, rfl, rfl, rfl, rfl, rfl, rfl⟩ := hvs
      rw [mkI_len] at r1 c1
      rw [mkS_len] at r3 r4 r5 c3 c4 c5
      rw [mrkL_len] at c2
      clear hv
      have e0 := (hO.old hb).trans c0
      have e1 := (hO.old hb).trans c1
      go_wp2_with fail
      refine (laws_heldItems _ _ (m + 1) (by omega) (by omega) _ _ _ (r1.below hO.below)).mono ?_
      rintro e u ⟨rfl, hb⟩
      (replace hO := hO.step hb; clear hb)
      clear e0 e1
      have e2 := (hO.old hb).trans c2
      go_wp2_with fail
      refine (hih _ _ _ _ (m + 1 + 3 * xi.length) _ (by omega) (by omega) (r2.below hO.below)).mono ?_
      rintro e u ⟨rfl, hb⟩
      (replace hO := hO.step hb; clear hb)
      clear e2
      have e3 := (hO.old hb).trans c3
      go_wp2_with fail
      refine (laws_heldStrs _ _ (m + 1 + 3 * xi.length + cntL xp) (by omega) (by omega) _ _ _ (r3.below hO.below)).mono ?_
      rintro e u ⟨rfl, hb⟩
      (replace hO := hO.step hb; clear hb)
      clear e3
      have e4 := (hO.old hb).trans c4
      go_wp2_with fail
      refine (laws_heldStrs _ _ (m + 1 + 3 * xi.length + cntL xp + xn.length) (by omega) (by omega) _ _ _ (r4.below hO.below)).mono ?_
      rintro e u ⟨rfl, hb⟩
      (replace hO := hO.step hb; clear hb)
      clear e4
      have e5 := (hO.old hb).trans c5
      go_wp2_with fail
      refine (laws_heldStrs _ _ (m + 1 + 3 * xi.length + cntL xp + xn.length + xc.length) (by omega) (by omega) _ _ _ (r5.below hO.below)).mono ?_
      rintro e u ⟨rfl, hb⟩
      (replace hO := hO.step hb; clear hb)
      clear e5
      obtain ⟨z, hz⟩ : ∃ z, m + 1 + 3 * xi.length + cntL xp + xn.length + xc.length + xl.length = z := ⟨_, rfl⟩
      rw [hz]
      rw [show m + 1 + (3 * xi.length + cntL xp + xn.length + xc.length + xl.length) = z by omega] at c6
      rw [show m + 2 + (3 * xi.length + cntL xp + xn.length + xc.length + xl.length) = z + 1 by omega] at c7
      have HZ := Lib.hid hz
      have hzb : z ≤ 2147483645 := by omega
      clear hz hmb
      have e6 := (hO.old hb).trans c6
      have e7 := (hO.old hb).trans c7
      go_wp2_with fail
      go_roundw
      case rel => exact ⟨k + 1, by omega, by go_num, congrArg (Value.int .i64) (by have := HZ.out; have := HMq.out; have := HC.out; omega), hO⟩
      case measure => simp [intOf]; omega
    · have hkn : k = ps.length := by omega
      subst hkn
      rw [List.take_length]
      go_wp2_with fail
      go_ret
      exact ⟨rfl, hO.below⟩

theorem laws_heldVecs (ps : List VT) : PHl ps := by
  have h : ∀ t : VT, PHl t.parts := by
    intro t
    induction t using VT.ind with
    | _ k is ps ns cs ls c e ih => exact laws_heldVecs_of ps ih
  exact h (.mk 0 [] ps [] [] [] 0 0)

theorem laws_heldVec (t : VT) (vs : List Value) (q : Nat) (x : Int) (hx : x = q) (hq : q + cntV t ≤ 2147483647) (w : World) (hv : RdV w (mrkV q t) vs) :
    Calls Try.prog 28 #[.agg vs.toArray, .int .i64 x] w fun e w' => e = .returned (.int .i64 (q + cntV t : Nat)) ∧ Below w.heap.size w w' := by
  subst hx
  obtain ⟨xk, xi, xp, xn, xc, xl, xo, xe⟩ := t
  simp only [mrkV] at hv
  obtain ⟨Ai, Ap, An, Ac, Al, ci, cp, cn, cc, cl, pvs2, rfl, r1, r2, r3, r4, r5⟩ := hv.open
  rw [mkI_len] at r1 ⊢
  rw [mkS_len] at r3 r4 r5 ⊢
  rw [mkS_len, mkS_len, mrkL_len]
  simp only [cntV] at hq
  clear hv
  go_enter Try.func28, Try.ntmps28
  have hO := Own.nil w
  go_wp2_with (first
    | ((with_reducible refine wpl_box ?_); refine wpList_box_own rfl (by rfl) hO rfl rfl (fun b => by simp only [Act.put, zA, zB, zC]; rfl) ?_; (refine nm 0 rfl ?_; clear hO; intro b0 u hO); simp only [zL, zK] at hO)
    | ((with_reducible refine wpl_load ?_); refine wpList_load_field rfl (by rfl) hO rfl _ (by exact at0) (by rfl) (by simp only [Act.put, zA, zB, zC]; rfl) ?_)
    | fail)
  refine (laws_heldItems _ _ q (by omega) (by omega) _ _ _ (r1.below hO.below)).mono ?_
  rintro e u ⟨rfl, hb⟩
  (replace hO := hO.step hb; clear hb)
  go_wp2_with (first
    | ((with_reducible refine wpl_load ?_); refine wpList_load_field rfl (by rfl) hO rfl _ (by exact at0) (by rfl) (by simp only [Act.put, zA, zB, zC]; rfl) ?_)
    | fail)
  refine (laws_heldVecs _ _ _ _ _ (q + 3 * xi.length) _ (by omega) (by omega) (r2.below hO.below)).mono ?_
  rintro e u ⟨rfl, hb⟩
  (replace hO := hO.step hb; clear hb)
  go_wp2_with (first
    | ((with_reducible refine wpl_load ?_); refine wpList_load_field rfl (by rfl) hO rfl _ (by exact at0) (by rfl) (by simp only [Act.put, zA, zB, zC]; rfl) ?_)
    | fail)
  refine (laws_heldStrs _ _ (q + 3 * xi.length + cntL xp) (by omega) (by omega) _ _ _ (r3.below hO.below)).mono ?_
  rintro e u ⟨rfl, hb⟩
  (replace hO := hO.step hb; clear hb)
  go_wp2_with (first
    | ((with_reducible refine wpl_load ?_); refine wpList_load_field rfl (by rfl) hO rfl _ (by exact at0) (by rfl) (by simp only [Act.put, zA, zB, zC]; rfl) ?_)
    | fail)
  refine (laws_heldStrs _ _ (q + 3 * xi.length + cntL xp + xn.length) (by omega) (by omega) _ _ _ (r4.below hO.below)).mono ?_
  rintro e u ⟨rfl, hb⟩
  (replace hO := hO.step hb; clear hb)
  go_wp2_with (first
    | ((with_reducible refine wpl_load ?_); refine wpList_load_field rfl (by rfl) hO rfl _ (by exact at0) (by rfl) (by simp only [Act.put, zA, zB, zC]; rfl) ?_)
    | fail)
  refine (laws_heldStrs _ _ (q + 3 * xi.length + cntL xp + xn.length + xc.length) (by omega) (by omega) _ _ _ (r5.below hO.below)).mono ?_
  rintro e u ⟨rfl, hb⟩
  (replace hO := hO.step hb; clear hb)
  go_wp2_with (first
    | ((with_reducible refine wpl_alloc ?_); refine wpList_alloc_own rfl (by rfl) hO rfl (fun b => by simp only [Act.put, zA, zB, zC]; rfl) ?_; (first | (refine nm 0 rfl ?_; clear hO; intro b0 u hO)); simp only [zL, zK] at hO)
    | ((with_reducible refine wpl_box ?_); refine wpList_box_own rfl (by rfl) hO rfl rfl (fun b => by simp only [Act.put, zA, zB, zC]; rfl) ?_; (first | (refine nm 0 rfl ?_; clear hO; intro b0 u hO)); simp only [zL, zK] at hO)
    | ((with_reducible refine wpl_load ?_); refine wpList_load_box rfl (by (first | rfl | (simp only [Region.wanted, yielded, *]; go_simp; done) | (simp [Region.wanted, yielded, *]; done) | fail)) hO rfl _ (by (first | exact at0)) (by rfl) (by simp only [Act.put, zA, zB, zC]; rfl) ?_)
    | ((with_reducible refine wpl_load ?_); refine wpList_load_field rfl (by (first | rfl | (simp only [Region.wanted, yielded, *]; go_simp; done) | (simp [Region.wanted, yielded, *]; done) | fail)) hO rfl _ (by (first | exact at0)) (by rfl) (by simp only [Act.put, zA, zB, zC]; rfl) ?_)
    | ((with_reducible refine wpl_store ?_); refine wpList_store_box rfl (by rfl) hO rfl _ (by (first | exact at0)) rfl (by rfl) (by rfl) (by rfl) (by rfl) (by rfl) ?_; clear hO; intro u hO; simp only [zC, zB] at hO)
    | ((with_reducible refine wpl_store ?_); refine wpList_store_field rfl (by rfl) hO rfl _ (by (first | exact at0)) (zM rfl) (by simp only [Act.eval, zJ, zF, zD, zE, zP]; rfl) (by rfl) (by rfl) (by rfl) ?_; clear hO; intro u hO; simp only [zC, zB] at hO)
    | fail)
  go_ret
  exact ⟨ret_int (by simp only [cntV]; omega), hO.below⟩

end

end Go.Proofs.Ytmofcbpabdbjlaa
