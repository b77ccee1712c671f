/-
  What is proved: a vector without names and class, its levels written out (plain of the program, l5Plain of the reference).
  Condition: valid vectors of an atomic kind.
-/
import Derived.Test.YtmofcbpabdbjlaaGreatMz4
import Derived.Test.YtmofcbpabdbjlaaGreatMz31
namespace Go.Proofs.YtmofcbpabdbjlaaGreat

set_option maxRecDepth 8000

open Go.RowKit Go.ChangeShapes Go.WideShapes Go.Deep

set_option linter.unusedVariables false

set_option linter.unusedSimpArgs false

section

variable {P : Program} {o : Oper} {a : Act} {w w0 : World} {K : Act → World → Prop} {Q : Exit → Act → World → Prop} {L : List Res}

theorem Own.thereRow (h : Own w0 L w) (k : Nat) {b e sz n c : Nat} {xs : List Value} (hk : L[k]? = some (row e sz (.slice (some ⟨b, 0, none⟩) n c) n xs)) {i m : Nat} (hi : i + m ≤ xs.length) : w.there b i m := fun j hj => by
  rw [h.rowCell k hk (j := i + j) (List.getElem?_eq_getElem (by omega)), h.rowFree k hk]
  exact ⟨rfl, rfl⟩

theorem Own.setRowCells (h : Own w0 L w) (k : Nat) {b e sz n c : Nat} : ∀ (vs : List Value) {xs : List Value} (i : Nat), L[k]? = some (row e sz (.slice (some ⟨b, 0, none⟩) n c) n xs) → i + vs.length ≤ xs.length →
    Own w0 (L.set k (row e sz (.slice (some ⟨b, 0, none⟩) n c) n (xs.take i ++ vs ++ xs.drop (i + vs.length)))) (w.setCells b i vs) := by
  intro vs
  induction vs generalizing w L with
  | nil =>
    intro xs i hk hl
    have e : L.set k (row e sz (.slice (some ⟨b, 0, none⟩) n c) n (xs.take i ++ [] ++ xs.drop (i + ([] : List Value).length))) = L := by
      have : xs.take i ++ [] ++ xs.drop (i + ([] : List Value).length) = xs := by simp
      rw [this]
      refine List.ext_getElem? fun j => ?_
      rw [List.getElem?_set]
      split
      · rename_i e; subst e
        have := (List.getElem?_eq_some_iff.1 hk).1
        simp only [this, if_true, hk]
      · rfl
    rw [e]
    exact h
  | cons v vs ih =>
    intro cs i hk hl
    have hil : i < cs.length := by simp at hl; omega
    have h1 := h.set_row k hk i hil v
    have hk1 : (L.set k (row e sz (.slice (some ⟨b, 0, none⟩) n c) n (cs.set i v)))[k]? = some (row e sz (.slice (some ⟨b, 0, none⟩) n c) n (cs.set i v)) := by
      have := (List.getElem?_eq_some_iff.1 hk).1
      simp [this]
    have h2 := ih h1 (xs := cs.set i v) (i + 1) hk1 (by simp at hl ⊢; omega)
    rw [List.set_set] at h2
    have e : (cs.set i v).take (i + 1) ++ vs ++ (cs.set i v).drop (i + 1 + vs.length) = cs.take i ++ (v :: vs) ++ cs.drop (i + (v :: vs).length) := by
      rw [List.take_succ_eq_append_getElem (by simpa using hil), List.getElem_set_self, List.take_set_of_le (Nat.le_refl _), List.drop_set_of_lt (by omega)]
      simp [Nat.add_assoc, Nat.add_comm 1]
    rw [e] at h2
    exact h2

/-- a struct is written into a row -/
theorem wp_store_rowS (hO : Own w0 L w) {ty : TypeId} {x y : Operand} (ho : o.op = .store ty x y) {b i : Nat} (hx : a.eval x = .pointer (some ⟨b, i, none⟩))
    (k : Nat) {e sz n c : Nat} {xs : List Value} (hk : L[k]? = some (row e sz (.slice (some ⟨b, 0, none⟩) n c) n xs)) {vs : List Value} (hy : a.eval y = .agg vs.toArray) (hi : i + vs.length ≤ xs.length) {N : Nat} [hT : AggT P ty N] (hn2 : vs.length = N) (h1 : vs.all (·.oneCell') = true)
    {L' : List Res} (hL : L.set k (row e sz (.slice (some ⟨b, 0, none⟩) n c) n (xs.take i ++ vs ++ xs.drop (i + vs.length))) = L') (hd : o.dst = none) (h : ∀ w, Own w0 L' w → K a w) : o.wp P a w K Q := by
  obtain ⟨d, _, _, h3⟩ := hT.of
  subst hL hn2
  refine wp_store_mid ty x y ho b i vs.toArray hx hy (hO.thereRow k hk (by simpa using hi)) (by simpa using h3) (by simpa using h1) ?_
  rw [hd]
  exact h _ (hO.setRowCells k vs i hk hi)

end

theorem itc_put {l : List It} {j : Nat} (hj : j < l.length) (y : It) : (itc l).take (j * 3) ++ itc1 y ++ (itc l).drop (j * 3 + (itc1 y).length) = itc (l.set j y) := by
  have e : itc l = itc (l.take j) ++ (itc1 l[j] ++ itc (l.drop (j + 1))) := by
    rw [show itc1 l[j] ++ itc (l.drop (j + 1)) = itc (l[j] :: l.drop (j + 1)) from rfl, ← itc_app]
    congr 1
    simp
  have h1 : (itc (l.take j)).length = j * 3 := by rw [itc_len, List.length_take, Nat.min_eq_left (by omega)]
  have h3 : (itc1 y).length = 3 := rfl
  rw [List.set_eq_take_append_cons_drop, if_pos hj, e, itc_app, show itc (y :: l.drop (j + 1)) = itc1 y ++ itc (l.drop (j + 1)) from rfl, h3]
  rw [List.take_left' h1, ← List.append_assoc (itc (l.take j)), List.drop_left' (by rw [List.length_append, h1]; rfl), List.append_assoc]

/-- an item of a vector with levels, as its text -/
def lvI (ls : List ByteArray) (x : It) : It := if misB x then x else txI (ls.getD (x.num - 1).toNat ⟨#[]⟩)

def plK (t : VT) : Int := if 0 < t.levels.length then 3 else t.kind

def plL (t : VT) : List It := if 0 < t.levels.length then t.items.map (lvI t.levels) else t.items

def plT (t : VT) : VT := vecI (plK t) (plL t)

theorem lv_step (ls : List ByteArray) {is : List It} {m : Nat} (h : m < is.length) (hm : misB is[m] = true) : itc ((is.take m).map (lvI ls) ++ is.drop m) = itc ((is.take (m + 1)).map (lvI ls) ++ is.drop (m + 1)) := by
  have e : lvI ls is[m] = is[m] := if_pos hm
  rw [mapSnoc (lvI ls) h, e, List.drop_eq_getElem_cons h]
  simp

theorem lv_put (ls : List ByteArray) {is : List It} {m : Nat} (h : m < is.length) : (itc ((is.take m).map (lvI ls) ++ is.drop m)).take (m * 3) ++ itc1 (lvI ls is[m]) ++ (itc ((is.take m).map (lvI ls) ++ is.drop m)).drop (m * 3 + (itc1 (lvI ls is[m])).length) = itc ((is.take (m + 1)).map (lvI ls) ++ is.drop (m + 1)) := by
  have hl : ((is.take m).map (lvI ls)).length = m := by rw [List.length_map, List.length_take, Nat.min_eq_left (by omega)]
  rw [itc_put (by rw [mid_len _ _ _ hl (by omega)]; exact h), mid_set _ _ _ hl h, mapSnoc (lvI ls) h]

theorem lv_len (ls : List ByteArray) {is : List It} {m : Nat} (h : m < is.length) : m * 3 + 3 ≤ (itc ((is.take m).map (lvI ls) ++ is.drop m)).length := by
  have hl : ((is.take m).map (lvI ls)).length = m := by rw [List.length_map, List.length_take, Nat.min_eq_left (by omega)]
  rw [itc_len, mid_len _ _ _ hl (by omega)]
  omega

theorem lv_num {k : Int} {ls : List ByteArray} {x : It} (h : itB k ls x = true) (hm : misB x = false) (hl : ls.length ≠ 0) : ∃ j : Nat, x.num = (j : Int) + 1 ∧ j < ls.length := by
  unfold itB at h
  simp only [Bool.and_eq_true] at h
  have h2 := h.2
  unfold levB at h2
  rw [hm, decide_eq_false hl] at h2
  simp only [Bool.false_or, Bool.and_eq_true, decide_eq_true_eq] at h2
  exact ⟨(x.num - 1).toNat, by omega, by omega⟩

theorem lv_get (ls : List ByteArray) {is : List It} {m : Nat} (h : m < is.length) : (itc ((is.take m).map (lvI ls) ++ is.drop m))[m * 3 + 1]? = some (.int .i64 is[m].den) := by
  have hl : ((is.take m).map (lvI ls)).length = m := by rw [List.length_map, List.length_take, Nat.min_eq_left (by omega)]
  have h2 : m < ((is.take m).map (lvI ls) ++ is.drop m).length := by rw [mid_len _ _ _ hl (by omega)]; exact h
  rw [show itc ((is.take m).map (lvI ls) ++ is.drop m) = ((is.take m).map (lvI ls) ++ is.drop m).flatMap itc1 from rfl, flat_at (f := itc1) (sz := 3) _ (fun _ _ => rfl) m h2 1 (by decide)]
  have e' : ((is.take m).map (lvI ls) ++ is.drop m)[m]? = some is[m] := by
    rw [List.getElem?_append_right (by omega), hl, Nat.sub_self, List.getElem?_drop, Nat.add_zero, List.getElem?_eq_getElem h]
  have e : ((is.take m).map (lvI ls) ++ is.drop m)[m] = is[m] := (List.getElem?_eq_some_iff.1 e').2
  rw [e]
  rfl

theorem pl_len (t : VT) : (plL t).length = t.items.length := by
  unfold plL
  split
  · rw [List.length_map]
  · rfl

theorem pl_item {t : VT} (h : isV t = true) : ∀ x ∈ (plT t).items, itemB (plT t).kind x = true := by
  obtain ⟨k, is, ps, ns, cs, ls, c, e⟩ := t
  have hf := node_facts (isV_node h)
  show ∀ x ∈ (if 0 < ls.length then is.map (lvI ls) else is), itemB (if 0 < ls.length then 3 else k) x = true
  intro x hx
  by_cases hl : 0 < ls.length
  · rw [if_pos hl] at hx ⊢
    obtain ⟨y, hy, rfl⟩ := List.mem_map.1 hx
    unfold lvI
    cases hm : misB y with
    | true =>
      rw [if_pos rfl]
      unfold itemB
      rw [hm]
      rfl
    | false =>
      rw [if_neg (by decide)]
      have hs := (lab_short hf.2.2.2.2.1).2
      unfold itemB
      have : (txI (ls.getD (y.num - 1).toNat ⟨#[]⟩)).text.size ≤ 60 := by
        show (ls.getD (y.num - 1).toNat ⟨#[]⟩).size ≤ 60
        rw [List.getD_eq_getElem?_getD]
        cases hg : ls[(y.num - 1).toNat]? with
        | none => exact Nat.le_of_ble_eq_true rfl
        | some s =>
          have := List.all_eq_true.1 hs s (List.mem_of_getElem? hg)
          simpa using this
      simp only [Bool.or_eq_true]
      right
      rw [if_neg (by decide), if_neg (by decide), if_pos trivial]
      simp only [Bool.and_eq_true, decide_eq_true_eq]
      exact ⟨⟨rfl, rfl⟩, this⟩
  · rw [if_neg hl] at hx ⊢
    have h3 := hf.2.2.2.2.2.2.1 x hx
    unfold itB at h3
    simp only [Bool.and_eq_true] at h3
    exact h3.1.2

theorem pl_sz {t : VT} (h : isV t = true) : szV (plT t) ≤ 1048576 := by
  have hi := pl_item h
  have hz := itz_sh (z := 60) (l := (plT t).items) (fun x hx => item_text (hi x hx))
  have hl : (plT t).items.length ≤ 40 := by
    show (plL t).length ≤ 40
    rw [pl_len]
    obtain ⟨k, is, ps, ns, cs, ls, c, e⟩ := t
    have hf := node_facts (isV_node h)
    have h1 := hf.2.1
    have h2 := hf.2.2.2.2.2.2.2.2.1
    unfold lenN at h1
    show is.length ≤ 40
    by_cases h5 : k = 5
    · have := (h2 h5).1
      omega
    · rw [if_neg h5] at h1
      omega
  show szI (plT t).items + szL [] + szS [] + szS [] + szS [] ≤ 1048576
  unfold szI
  simp only [szL, szS, stz, List.length_nil]
  omega

set_option maxRecDepth 20000 in
set_option maxHeartbeats 4000000 in
theorem impl_plain (t : VT) (vs : List Value) (w : World) (hv : RdV w t vs) (hV : isV t = true) (h4 : t.kind ≤ 3) : Calls Tryz.prog 24 #[.agg vs.toArray] w (RetV (plT t) w) := by
  have CP := fun u (hb : Below w.heap.size w u) => impl_copyV t _ u (hv.grow hb) (by have := isV_small hV; omega)
  have HT : Hid (plT t = vecI (if 0 < t.levels.length then 3 else t.kind) (if 0 < t.levels.length then t.items.map (lvI t.levels) else t.items)) := Lib.hid rfl
  have hN := isV_node hV
  clear hV
  obtain ⟨k, is, ps, ns, cs, ls, c, e⟩ := t
  replace CP := fun u (hb : Below w.heap.size w u) => (CP u hb).mono fun e' w' h => RetV.exC h
  replace HT : Hid (plT (.mk k is ps ns cs ls c e) = vecI (if 0 < ls.length then 3 else k) (if 0 < ls.length then is.map (lvI ls) else is)) := HT
  obtain ⟨a1, a2, a3, a4, a5, a6, a7, a8, a9, a10, a11, a12⟩ := node_facts hN
  have k3 : k ≤ 3 := h4
  have hps := Lib.hid (List.length_eq_zero_iff.1 (show ps.length = 0 by omega))
  have hce := Lib.hid (show c = 0 ∧ e = 0 by omega)
  have HL := Lib.hid (lab_short a5).1
  have z40 : is.length ≤ 40 := by
    unfold lenN at a2
    rw [if_neg (by omega)] at a2
    omega
  obtain ⟨X, hX⟩ : ∃ X, plT (.mk k is ps ns cs ls c e) = X := ⟨_, rfl⟩
  rw [hX] at HT ⊢
  obtain ⟨Ai, Ap, An, Ac, Al, ci, cp, cn, cc, cl, pvs, rfl, h1, h2, h3, h4', h5⟩ := hv.open
  clear hX hv hN a1 a2 a3 a4 a5 a6 a8 a9 a10 a11 a12 h2 h3 h4' h4 k3
  by_cases hl : 0 < ls.length
  · have HF : Hid (X = vecI 3 (is.map (lvI ls))) := Lib.hid (by rw [HT.out, if_pos hl, if_pos hl])
    have l1 : (0 : Int) < (ls.length : Int) := by omega
    clear HT
    go_enter Tryz.func24, Tryz.ntmps24
    have hO := Own.nil w
    go_wp2_with (first | ((with_reducible refine zac ?_); refine zal rfl hO rfl ?_; (refine nm 1 rfl ?_; clear hO; intro b1 u hO); simp only [zL, zK] at hO) | ((with_reducible refine zad ?_); refine zbx rfl hO rfl rfl ?_; (refine nm 0 rfl ?_; clear hO; intro b0 u hO); simp only [zL, zK] at hO) | ((with_reducible refine zaa ?_); refine zlb rfl hO rfl _ (by exact at0) ?_) | fail)
    refine (CP _ hO.below).mono ?_
    rintro e u ⟨Ci, Cp, Cn, Cc, Cl, ri, rp, rn, rc, rl, F, rfl, hvo, hb⟩
    replace hO := hO.call hb
    clear hb
    simp only [zK, zL] at hO
    go_wp2_with (first | ((with_reducible refine zac ?_); refine zal rfl hO rfl ?_; (refine nm 3 rfl ?_; clear hO; intro b3 u hO); simp only [zL, zK] at hO) | ((with_reducible refine zaa ?_); refine zlf rfl hO rfl _ (by exact at1) ?_) | ((with_reducible refine zab ?_); refine zsb rfl hO rfl _ (by exact at3) rfl ?_; clear hO; intro u hO; simp only [zC, zB] at hO) | ((with_reducible refine zab ?_); refine zsf rfl hO rfl _ (by exact at3) (zM rfl) ?_; clear hO; intro u hO; simp only [zC, zB] at hO) | fail)
    obtain ⟨pvs', Ls, hvl, hO⟩ := Own.openV hO hvo
    clear hvo CP
    replace hO := hO.pick [0, 1, 5, 6, 7, 8] (by decide)
    simp only [zN, zO, zE, zD] at hO
    go_loopw [19] (fun i u => ∃ m : Nat, m ≤ is.length ∧ i = .int .i64 m ∧ Own w [row 35 3 (.slice Ci is.length ri) is.length (itc ((is.take m).map (lvI ls) ++ is.drop m)), row 28 8 (.slice Cp ps.length rp) ps.length pvs'.flatten, pack Ls.flatten, box b0 28 [.int .i64 k, .slice Ai is.length ci, .slice Ap ps.length cp, .slice An ns.length cn, .slice Ac cs.length cc, .slice Al ls.length cl, .int .i64 c, .int .i64 e], box b1 28 [.int .i64 0, .slice none 0 0, .slice none 0 0, .slice none 0 0, .slice none 0 0, .slice none 0 0, .int .i64 0, .int .i64 0], box b3 28 [.int .i64 3, .slice Ci is.length ri, .slice Cp ps.length rp, .slice none 0 0, .slice none 0 0, .slice none 0 0, .int .i64 c, .int .i64 e]] u) (fun i _ => is.length - (intOf i).toNat)
    case atStart => exact ⟨0, Nat.zero_le _, rfl, hO⟩
    case round =>
      clear hO
      obtain ⟨m, hm, rfl, hO⟩ := hrel
      by_cases hlt : m < is.length
      · have hit := a7 _ (List.getElem_mem hlt)
        have HN := Lib.hid (lv_step ls hlt)
        have HP := Lib.hid (lv_put ls hlt)
        have HQ := Lib.hid (lv_len ls hlt)
        obtain ⟨x, hx⟩ : ∃ x, is[m] = x := ⟨_, rfl⟩
        obtain ⟨g, rfl⟩ := hO.form 0 rfl (by omega)
        obtain ⟨b, off, rfl, hb, d0, d1, d2⟩ := h1.it hO.below hlt hx
        rw [hx] at HN HP hit
        clear hx
        have CM := fun u => zba x.num x.den x.text u
        obtain ⟨xn, xd, xt⟩ := x
        simp only at d0 d1 d2 CM
        cases hm' : misB ⟨xn, xd, xt⟩ with
        | true =>
          rw [hm'] at CM
          have HE := Lib.hid (HN.out hm')
          clear hm' HN HP hit HQ
          go_wp2_with (first | ((with_reducible refine (CM _).mono ?_); rintro e u ⟨rfl, hb⟩; (replace hO := hO.step hb; clear hb)) | ((with_reducible refine zac ?_); refine zal rfl hO rfl ?_; (refine nm 6 rfl ?_; clear hO; intro b6 u hO); simp only [zL, zK] at hO) | ((with_reducible refine zaa ?_); refine zlb rfl hO rfl _ (by (first | exact at3 | exact at6 | fail)) ?_) | ((with_reducible refine zab ?_); refine zsb rfl hO rfl _ (by exact at6) rfl ?_; clear hO; intro u hO; simp only [zC, zB] at hO) | fail)
          clear d0 d1 d2
          replace hO := hO.pick [0, 1, 2, 3, 4, 5] (by decide)
          simp only [zN, zO, zE, zD] at hO
          rw [HE.out] at hO
          go_roundw
          case rel => exact ⟨m + 1, by omega, by go_num, hO⟩
          case measure => simp [intOf]; omega
        | false =>
          rw [hm'] at CM
          obtain ⟨j, hj, hjn⟩ := lv_num hit hm' (by omega)
          simp only at hj
          obtain ⟨bl, ol, rfl, hbl, dl⟩ := h5.tx (Below.refl _ _) hjn rfl
          have HL2 : Hid (lvI ls ⟨xn, xd, xt⟩ = txI ls[j]) := Lib.hid (by unfold lvI; rw [hm', hj]; simp [hjn])
          obtain ⟨s, hs⟩ : ∃ s, ls[j] = s := ⟨_, rfl⟩
          rw [hs] at dl HL2
          rw [HL2.out] at HP
          have j20 := HL.out
          clear hs hm' HN hit HL2
          subst hj
          go_wp2_with (first | ((with_reducible refine (CM _).mono ?_); rintro e u ⟨rfl, hb⟩; (replace hO := hO.step hb; clear hb)) | ((with_reducible refine zac ?_); refine zal rfl hO rfl ?_; (refine nm 6 rfl ?_; clear hO; intro b6 u hO); simp only [zL, zK] at hO) | ((with_reducible refine zaa ?_); refine zlb rfl hO rfl _ (by (first | exact at3 | exact at6 | fail)) ?_) | ((with_reducible refine zab ?_); refine zsb rfl hO rfl _ (by exact at6) rfl ?_; clear hO; intro u hO; simp only [zC, zB] at hO) | fail)
          clear d0 d1 d2
          refine J.wp_region_c (n := 41) [0, 1, 2, 3, 4, 5, 6, 7, 8, 9, 10, 11] [] (deps := fun i => [[], [0], [], [], [3], [], [5], [5, 6], [3, 4, 5, 6, 7], [3, 4, 5, 6, 7, 8], [3, 4, 5, 6, 7, 8, 9], [0, 1, 2], []].getD i []) (fun _ _ _ => True) (r := 1) (lst := #[true, true, true, true, true, true, true, true, true, true, true, true, false]) (by kernel_rfl) (by kernel_rfl) (by kernel_rfl) rfl (by decide) (by kernel_rfl) hO ?_
          refine zcp (h := ?_)
          refine zcc (f := fun M u hO K hK => by (exact zae hO rfl rfl _ (by exact at5) (by rfl) (by rfl) (hK _ hO))) (h := ?_)
          refine zcp (h := ?_)
          refine zcp (h := ?_)
          refine zcc (f := fun M u hO K hK => by (exact zae hO rfl rfl _ (by exact at3) (by rfl) (by rfl) (hK _ hO))) (h := ?_)
          refine zcp (h := ?_)
          refine zcc (f := fun M u hO K hK => by (exact zae hO rfl rfl _ (by exact at6) (by rfl) (by rfl) (hK _ hO))) (h := ?_)
          refine zcp (h := ?_)
          refine zcp (h := ?_)
          refine zcc (f := fun M u hO K hK => by ((have e0 := (hO.old hbl).trans dl; simp only [wp_at_zero, wp_at_succ]; go_step; exact hK _ hO))) (h := ?_)
          refine zcc (f := fun M u hO K hK => by (simp only [wp_at_zero, wp_at_succ]; go_step; refine (impl_textItem _ _).mono ?_; rintro e u ⟨rfl, hb⟩; exact hK _ (hO.step hb))) (h := ?_)
          refine zcp (h := ?_)
          refine J.Chain.nil ⟨?_, ?_⟩
          · exact J.Each.nil
          intro vs u hO hF
          clear hF
          simp only [List.flatMap_cons, List.flatMap_nil, List.append_nil, zL, zK] at hO
          simp only [J.putL]
          clear vs
          refine J.wpAny_one (i := 12) (by kernel_rfl) (by rfl) rfl fun K hK => ?_
          (refine wp_store_rowS hO rfl rfl 0 rfl rfl HQ.out rfl rfl rfl rfl ?_; clear hO; intro u hO; simp only [zC, zB] at hO; refine hK _ _ ?_; clear hK K)
          refine wpAny_done (by kernel_rfl) ?_ _
          go_wp2_with fail
          replace hO := hO.pick [0, 1, 2, 3, 4, 5] (by decide)
          simp only [zN, zO, zE, zD] at hO
          have HP' := HP.out
          simp only [itc1, txI] at HP'
          rw [HP'] at hO
          go_roundw
          case rel => exact ⟨m + 1, by omega, by go_num, hO⟩
          case measure => simp [intOf]; omega
      · have hmn : m = is.length := by omega
        subst hmn
        rw [List.take_length, List.drop_length, List.append_nil] at hO
        go_wp2_with (first | ((with_reducible refine zaa ?_); refine zlb rfl hO rfl _ (by exact at5) ?_) | ((with_reducible refine zab ?_); refine zsb rfl hO rfl _ (by exact at4) rfl ?_; clear hO; intro u hO; simp only [zC, zB] at hO) | fail)
        have hR := ((((hO.pick [0, 1, 2] (by decide)).addNil 9 1).addNil 9 1).addNil 9 1).pick [0, 1, 3, 4, 5, 2] (by decide)
        refine zan rfl hO rfl 4 at4 rfl rfl ?_
        clear hO
        obtain ⟨rfl, rfl⟩ := hce.out
        have hq := hps.out
        subst hq
        have hq : is.length = (is.map (lvI ls)).length := by rw [List.length_map]
        rw [hq] at hR ⊢
        exact ⟨_, _, rfl, by rw [HF.out]; exact VO.close (ns := []) (cs := []) (ls := []) hvl, Own.packs [_, _, _, _, _] hR⟩
  · have HF : Hid (X = vecI k is) := Lib.hid (by rw [HT.out, if_neg hl, if_neg hl])
    have l1 : ¬ (0 : Int) < (ls.length : Int) := by omega
    clear HT hl
    go_enter Tryz.func24, Tryz.ntmps24
    have hO := Own.nil w
    go_wp2_with (first | ((with_reducible refine zac ?_); refine zal rfl hO rfl ?_; (refine nm 1 rfl ?_; clear hO; intro b1 u hO); simp only [zL, zK] at hO) | ((with_reducible refine zad ?_); refine zbx rfl hO rfl rfl ?_; (refine nm 0 rfl ?_; clear hO; intro b0 u hO); simp only [zL, zK] at hO) | ((with_reducible refine zaa ?_); refine zlb rfl hO rfl _ (by exact at0) ?_) | fail)
    refine (CP _ hO.below).mono ?_
    rintro e u ⟨Ci, Cp, Cn, Cc, Cl, ri, rp, rn, rc, rl, F, rfl, hvo, hb⟩
    replace hO := hO.call hb
    clear hb
    simp only [zK, zL] at hO
    go_wp2_with (first | ((with_reducible refine zac ?_); refine zal rfl hO rfl ?_; (refine nm 3 rfl ?_; clear hO; intro b3 u hO); simp only [zL, zK] at hO) | ((with_reducible refine zaa ?_); refine zlb rfl hO rfl _ (by exact at3) ?_) | ((with_reducible refine zaa ?_); refine zlf rfl hO rfl _ (by exact at1) ?_) | ((with_reducible refine zab ?_); refine zsb rfl hO rfl _ (by (first | exact at2 | exact at3 | fail)) rfl ?_; clear hO; intro u hO; simp only [zC, zB] at hO) | ((with_reducible refine zab ?_); refine zsf rfl hO rfl _ (by exact at3) (zM rfl) ?_; clear hO; intro u hO; simp only [zC, zB] at hO) | fail)
    obtain ⟨pvs', Ls, hvl, hO⟩ := Own.openV hO hvo
    have hR := ((((hO.pick [0, 1, 5] (by decide)).addNil 9 1).addNil 9 1).addNil 9 1).pick [0, 1, 3, 4, 5, 2] (by decide)
    refine zan rfl hO rfl 7 at7 rfl rfl ?_
    clear hO hvo
    obtain ⟨rfl, rfl⟩ := hce.out
    have hq := hps.out
    subst hq
    exact ⟨_, _, rfl, by rw [HF.out]; exact VO.close (ns := []) (cs := []) (ls := []) hvl, Own.packs [_, _, _, _, _] hR⟩

set_option maxRecDepth 20000 in
set_option maxHeartbeats 4000000 in
theorem spec_plain (t : VT) (vs : List Value) (w : World) (hv : RdV w t vs) (hV : isV t = true) (h4 : t.kind ≤ 3) : Calls Tryz.prog 39 #[.agg vs.toArray] w (RetV (plT t) w) := by
  have HT : Hid (plT t = vecI (if 0 < t.levels.length then 3 else t.kind) (if 0 < t.levels.length then t.items.map (lvI t.levels) else t.items)) := Lib.hid rfl
  have hN := isV_node hV
  obtain ⟨k, is, ps, ns, cs, ls, c, e⟩ := t
  replace HT : Hid (plT (.mk k is ps ns cs ls c e) = vecI (if 0 < ls.length then 3 else k) (if 0 < ls.length then is.map (lvI ls) else is)) := HT
  obtain ⟨a1, a2, a3, a4, a5, a6, a7, a8, a9, a10, a11, a12⟩ := node_facts hN
  have hD := Lib.hid (isV_item hV)
  have k3 : k ≤ 3 := h4
  have z40 : is.length ≤ 40 := by
    unfold lenN at a2
    rw [if_neg (by omega)] at a2
    omega
  have HL := Lib.hid (lab_short a5).1
  obtain ⟨X, hX⟩ : ∃ X, plT (.mk k is ps ns cs ls c e) = X := ⟨_, rfl⟩
  rw [hX] at HT ⊢
  obtain ⟨Ai, Ap, An, Ac, Al, ci, cp, cn, cc, cl, pvs, rfl, h1, h2, h3, h4', h5⟩ := hv.open
  clear hX hv hN hV a1 a2 a3 a4 a5 a6 a8 a9 a10 a11 a12 h2 h3 h4' h4 k3
  go_enter Tryz.func39, Tryz.ntmps39
  have hO := Own.nil w
  go_wp2_with (first | ((with_reducible refine zac ?_); refine zal rfl hO rfl ?_; (refine nm 1 rfl ?_; clear hO; intro b1 u hO); simp only [zL, zK] at hO) | ((with_reducible refine zad ?_); refine zbx rfl hO rfl rfl ?_; (refine nm 0 rfl ?_; clear hO; intro b0 u hO); simp only [zL, zK] at hO) | fail)
  refine J.wp_region_c (n := 55) [0, 1, 3, 4] [2, 5, 6, 7] (deps := fun i => [[], [0], [], [], [3], [2, 3, 4], [0, 1, 2, 3, 4, 5], [], []].getD i []) (fun i d => [fun _ => True, fun _ => True, (J.fresh0 35 3), fun _ => True, fun _ => True, (J.freshA 35 3 is.length (itc is) (d 2)), (fun x => x = (Value.agg #[.int .i64 k, (d 5).1, .slice none 0 0, .slice none 0 0, .slice none 0 0, .slice none 0 0, .int .i64 0, .int .i64 0], [])), J.fresh 28 [.int .i64 0, .slice none 0 0, .slice none 0 0, .slice none 0 0, .slice none 0 0, .slice none 0 0, .int .i64 0, .int .i64 0], fun _ => True].getD i (fun _ => True)) (r := 1) (lst := #[true, true, true, true, true, true, true, true, false]) (by kernel_rfl) (by kernel_rfl) (by kernel_rfl) rfl (by decide) (by kernel_rfl) hO ?_
  refine zcp (h := ?_)
  refine zcc (f := fun M u hO K hK => by (exact zae hO rfl rfl _ (by exact at0) (by rfl) (by rfl) (hK _ hO))) (h := ?_)
  refine zcp (h := ?_)
  refine zcc (f := fun M u hO K hK => by (exact zae hO rfl rfl _ (by exact at0) (by rfl) (by rfl) (hK _ hO))) (h := ?_)
  refine J.Chain.nil ⟨?_, ?_⟩
  · refine J.Each.cons (by rfl) ?_ ?_; exact ⟨rfl, fun vs M u hO _ K hK => by (refine za7 hO rfl rfl fun b u hO => ?_; exact hK _ _ _ (show J.fresh0 35 3 _ from ⟨b, rfl⟩) hO)⟩; refine J.Each.cons (by rfl) ?_ ?_; exact ⟨rfl, fun vs M u hO hF K hK => by (obtain ⟨z2, e2⟩ := (hF 2 (by decide) (by decide)).1; refine za8 hO rfl (b := z2) (by simp only [Act.eval, zJ, zP, J.putL, zI, zG, zH, J.dstOf, zF, zD, zE, zS, zQ, zR, Act.put, zA, zB, zC, e2] <;> rfl) (by simp only [Act.eval, zJ, zP, J.putL, zI, zG, zH, J.dstOf, zF, zD, zE, zS, zQ, zR, Act.put, zA, zB, zC] <;> rfl) (h1.below hO.below) (by omega) (by omega) ?_; intro A' c' u hz hO; exact hK _ _ _ (show J.freshA 35 3 is.length (itc is) (vs 2) _ from ⟨A', c', rfl, fun h => (congrArg Prod.fst e2).trans (hz h)⟩) hO)⟩; refine J.Each.cons (by rfl) ?_ ?_; exact ⟨rfl, fun vs M u hO hF K hK => by ((try simp only [J.putL, zI, zG, zH, J.dstOf, zF, zD, zE, zS, zQ, zR, Act.put, zA, zB, zC]); obtain ⟨z2, e2⟩ := (hF 2 (by decide) (by decide)).1; obtain ⟨A5, c5, e5, g5⟩ := (hF 5 (by decide) (by decide)).1; have hK' := hK (Value.agg #[.int .i64 k, .slice A5 is.length c5, .slice none 0 0, .slice none 0 0, .slice none 0 0, .slice none 0 0, .int .i64 0, .int .i64 0]) [] u (show (Value.agg #[.int .i64 k, .slice A5 is.length c5, .slice none 0 0, .slice none 0 0, .slice none 0 0, .slice none 0 0, .int .i64 0, .int .i64 0], ([] : List Res)) = (Value.agg #[.int .i64 k, (vs 5).1, .slice none 0 0, .slice none 0 0, .slice none 0 0, .slice none 0 0, .int .i64 0, .int .i64 0], []) from by simp only [e2, e5]) (by rw [List.append_nil]; exact hO); clear hK hF; simp only [J.putL, zI, zG, zH, J.dstOf, zF, zD, zE, zS, zQ, zR, Act.put, zA, zB, zC, e2, e5] at hK' ⊢; (try simp only [wp_at_zero, wp_at_succ]); go_step; exact hK')⟩; refine J.Each.cons (by rfl) ?_ ?_; exact ⟨rfl, fun vs M u hO _ K hK => by (refine zbc hO rfl rfl fun b u hO => ?_; exact hK _ _ _ (show J.fresh 28 [.int .i64 0, .slice none 0 0, .slice none 0 0, .slice none 0 0, .slice none 0 0, .slice none 0 0, .int .i64 0, .int .i64 0] _ from ⟨b, rfl⟩) hO)⟩; exact J.Each.nil
  intro vs u hO hF
  obtain ⟨z2, h2⟩ : J.fresh0 35 3 (vs 2) := hF 2 (by decide)
  obtain ⟨A5, c5, h5, g5⟩ : J.freshA 35 3 is.length (itc is) (vs 2) (vs 5) := hF 5 (by decide)
  simp only [h2] at g5
  have h6 : vs 6 = (Value.agg #[.int .i64 k, (vs 5).1, .slice none 0 0, .slice none 0 0, .slice none 0 0, .slice none 0 0, .int .i64 0, .int .i64 0], []) := hF 6 (by decide)
  simp only [h2, h5] at h6
  obtain ⟨b2, h7⟩ : J.fresh _ _ (vs 7) := hF 7 (by decide)
  clear hF
  simp only [List.flatMap_cons, List.flatMap_nil, h2, h5, h6, h7, List.append_nil, zL, zK] at hO
  simp only [h2, h5, h6, h7, J.putL, zI, zG, zH, J.dstOf, zF, zD, zE, zS, zQ, zR, Act.put, zA, zB, zC]
  clear h2 h5 h6 h7 vs
  refine J.wpAny_one (i := 8) (by kernel_rfl) (by rfl) rfl fun K hK => ?_
  (refine zaf hO rfl rfl _ (by exact at4) rfl (by rfl) (by rfl) (by rfl) (by rfl) (by rfl) ?_; clear hO; intro u hO; simp only [zC, zB] at hO; refine hK _ _ ?_; clear hK K)
  refine wpAny_done (by kernel_rfl) ?_ _
  go_wp2_with fail
  replace hO := hO.pick [2, 3, 0, 1, 4] (by decide)
  simp only [zN, zO, zE, zD] at hO
  replace hO := hO.join g5 (itc_len is)
  clear g5
  by_cases hl : 0 < ls.length
  · have HF : Hid (X = vecI 3 (is.map (lvI ls))) := Lib.hid (by rw [HT.out, if_pos hl, if_pos hl])
    have l1 : (0 : Int) < (ls.length : Int) := by omega
    clear HT
    go_loopw [4] (fun i u => ∃ (m : Nat) (kk : Int), m ≤ is.length ∧ i = .int .i64 m ∧ Own w [row 35 3 (.slice A5 is.length c5) is.length (itc ((is.take m).map (lvI ls) ++ is.drop m)), box b0 28 [.int .i64 k, .slice Ai is.length ci, .slice Ap ps.length cp, .slice An ns.length cn, .slice Ac cs.length cc, .slice Al ls.length cl, .int .i64 c, .int .i64 e], box b1 28 [.int .i64 0, .slice none 0 0, .slice none 0 0, .slice none 0 0, .slice none 0 0, .slice none 0 0, .int .i64 0, .int .i64 0], box b2 28 [.int .i64 kk, .slice A5 is.length c5, .slice none 0 0, .slice none 0 0, .slice none 0 0, .slice none 0 0, .int .i64 0, .int .i64 0]] u) (fun i _ => is.length - (intOf i).toNat)
    case atStart => exact ⟨0, k, Nat.zero_le _, rfl, hO⟩
    case round =>
      clear hO
      obtain ⟨m, kk, hm, rfl, hO⟩ := hrel
      by_cases hlt : m < is.length
      · have i1 : (m : Int) < (is.length : Int) := by omega
        have hit := a7 _ (List.getElem_mem hlt)
        have HN := Lib.hid (lv_step ls hlt)
        have HP := Lib.hid (lv_put ls hlt)
        have HQ := Lib.hid (lv_len ls hlt)
        have HC := Lib.hid (lv_get ls hlt)
        have HM := hD.out _ (List.getElem_mem hlt)
        obtain ⟨x, hx⟩ : ∃ x, is[m] = x := ⟨_, rfl⟩
        obtain ⟨g, rfl⟩ := hO.form 0 rfl (by omega)
        obtain ⟨b, off, rfl, hb, d0, d1, d2⟩ := h1.it (Below.refl _ _) hlt hx
        rw [hx] at HN HP hit HC HM
        clear hx
        obtain ⟨xn, xd, xt⟩ := x
        simp only at d0 d1 d2 HC HM
        cases hm' : misB ⟨xn, xd, xt⟩ with
        | true =>
          have HE := Lib.hid (HN.out hm')
          have hx0 : xd = 0 := by rw [hm'] at HM; simpa using HM.symm
          subst hx0
          clear hm' HN HP hit HQ HM
          go_upto_region 6 with (first | ((with_reducible refine zaa ?_); refine zlf rfl hO rfl _ (by exact at1) ?_) | ((with_reducible refine zab ?_); refine zsf rfl hO rfl _ (by exact at3) (zM rfl) ?_; clear hO; intro u hO; simp only [zC, zB] at hO) | fail)
          have e1 := hO.rowCell 0 rfl HC.out
          go_wp2_with (first | ((with_reducible refine zaa ?_); refine zlf rfl hO rfl _ (by exact at3) ?_) | fail)
          clear e1
          rw [HE.out] at hO
          go_roundw
          case rel => exact ⟨m + 1, 3, by omega, by go_num, hO⟩
          case measure => simp [intOf]; omega
        | false =>
          have hx0 : (xd != 0) = true := by
            rw [hm'] at HM
            have := of_decide_eq_false HM.symm
            simpa using this
          obtain ⟨j, hj, hjn⟩ := lv_num hit hm' (by omega)
          simp only at hj
          obtain ⟨bl, ol, rfl, hbl, dl⟩ := h5.tx (Below.refl _ _) hjn rfl
          have HL2 : Hid (lvI ls ⟨xn, xd, xt⟩ = txI ls[j]) := Lib.hid (by unfold lvI; rw [hm', hj]; simp [hjn])
          obtain ⟨s, hs⟩ : ∃ s, ls[j] = s := ⟨_, rfl⟩
          rw [hs] at dl HL2
          rw [HL2.out] at HP
          have j20 := HL.out
          clear hs hm' HN hit HL2 HM
          subst hj
          go_upto_region 6 with (first | ((with_reducible refine zaa ?_); refine zlf rfl hO rfl _ (by exact at1) ?_) | ((with_reducible refine zab ?_); refine zsf rfl hO rfl _ (by exact at3) (zM rfl) ?_; clear hO; intro u hO; simp only [zC, zB] at hO) | fail)
          have e1 := hO.rowCell 0 rfl HC.out
          go_wp2_with (first | ((with_reducible refine zaa ?_); refine zlf rfl hO rfl _ (by exact at3) ?_) | fail)
          clear e1
          refine J.wp_region_c (n := 55) [0, 1, 2, 3, 4, 5, 6, 7, 8, 9, 10, 11, 12, 13, 14, 15] [] (deps := fun i => [[], [0], [], [], [3], [], [5], [], [5, 6, 7], [5, 6, 7, 8], [5, 6, 7, 8, 9], [5, 6, 7, 8, 9, 10], [3, 4, 5, 6, 7, 8, 9, 10, 11], [3, 4, 5, 6, 7, 8, 9, 10, 11, 12], [3, 4, 5, 6, 7, 8, 9, 10, 11, 12, 13], [0, 1, 2], []].getD i []) (fun _ _ _ => True) (r := 1) (lst := #[true, true, true, true, true, true, true, true, true, true, true, true, true, true, true, true, false]) (by kernel_rfl) (by kernel_rfl) (by kernel_rfl) rfl (by decide) (by kernel_rfl) hO ?_
          refine zcp (h := ?_)
          refine zcc (f := fun M u hO K hK => by (exact zae hO rfl rfl _ (by exact at3) (by rfl) (by rfl) (hK _ hO))) (h := ?_)
          refine zcp (h := ?_)
          refine zcp (h := ?_)
          refine zcc (f := fun M u hO K hK => by (exact zae hO rfl rfl _ (by exact at1) (by rfl) (by rfl) (hK _ hO))) (h := ?_)
          refine zcp (h := ?_)
          refine zcc (f := fun M u hO K hK => by (exact zae hO rfl rfl _ (by exact at1) (by rfl) (by rfl) (hK _ hO))) (h := ?_)
          refine zcp (h := ?_)
          refine zcp (h := ?_)
          refine zcp (h := ?_)
          refine zcc (f := fun M u hO K hK => by ((have e0 := (hO.old hbl).trans dl; have e2 := (hO.old hb).trans d0; simp only [wp_at_zero, wp_at_succ]; go_step; exact hK _ hO))) (h := ?_)
          refine zcp (h := ?_)
          refine zcp (h := ?_)
          refine zcc (f := fun M u hO K hK => by ((have e0 := (hO.old hbl).trans dl; have e2 := (hO.old hb).trans d0; simp only [wp_at_zero, wp_at_succ]; go_step; exact hK _ hO))) (h := ?_)
          refine zcc (f := fun M u hO K hK => by (simp only [wp_at_zero, wp_at_succ]; go_step; refine (zbh _ _).mono ?_; rintro e u ⟨rfl, hb⟩; exact hK _ (hO.step hb))) (h := ?_)
          refine zcp (h := ?_)
          refine J.Chain.nil ⟨?_, ?_⟩
          · exact J.Each.nil
          intro vs u hO hF
          clear hF
          simp only [List.flatMap_cons, List.flatMap_nil, List.append_nil, zL, zK] at hO
          simp only [J.putL]
          clear vs
          refine J.wpAny_one (i := 16) (by kernel_rfl) (by rfl) rfl fun K hK => ?_
          (refine wp_store_rowS hO rfl rfl 0 rfl rfl HQ.out rfl rfl rfl rfl ?_; clear hO; intro u hO; simp only [zC, zB] at hO; refine hK _ _ ?_; clear hK K)
          refine wpAny_done (by kernel_rfl) ?_ _
          go_wp2_with fail
          have HP' := HP.out
          simp only [itc1, txI] at HP'
          rw [HP'] at hO
          go_roundw
          case rel => exact ⟨m + 1, 3, by omega, by go_num, hO⟩
          case measure => simp [intOf]; omega
      · have hmn : m = is.length := by omega
        subst hmn
        rw [List.take_length, List.drop_length, List.append_nil] at hO
        go_wp2_with (first | ((with_reducible refine zaa ?_); refine zlb rfl hO rfl _ (by exact at3) ?_) | ((with_reducible refine zaa ?_); refine zlf rfl hO rfl _ (by exact at1) ?_) | ((with_reducible refine zab ?_); refine zsb rfl hO rfl _ (by exact at2) rfl ?_; clear hO; intro u hO; simp only [zC, zB] at hO) | ((with_reducible refine zab ?_); refine zsf rfl hO rfl _ (by exact at3) (zM rfl) ?_; clear hO; intro u hO; simp only [zC, zB] at hO) | fail)
        have hR := hO.pick [0] (by decide)
        simp only [List.filterMap_cons, List.filterMap_nil, List.getElem?_cons_zero] at hR
        refine zan rfl hO rfl 2 at2 rfl rfl ?_
        clear hO
        have hq : is.length = (is.map (lvI ls)).length := by rw [List.length_map]
        rw [hq] at hR ⊢
        obtain ⟨F, hvo, hF⟩ := Own.vecI hR 3
        exact ⟨_, _, rfl, by rw [HF.out]; exact hvo, hF⟩
  · have HF : Hid (X = vecI k is) := Lib.hid (by rw [HT.out, if_neg hl, if_neg hl])
    have l1 : ¬ (0 : Int) < (ls.length : Int) := by omega
    clear HT
    go_loopw [4] (fun i u => i = .int .i64 0 ∧ Own w [row 35 3 (.slice A5 is.length c5) is.length (itc is), box b0 28 [.int .i64 k, .slice Ai is.length ci, .slice Ap ps.length cp, .slice An ns.length cn, .slice Ac cs.length cc, .slice Al ls.length cl, .int .i64 c, .int .i64 e], box b1 28 [.int .i64 0, .slice none 0 0, .slice none 0 0, .slice none 0 0, .slice none 0 0, .slice none 0 0, .int .i64 0, .int .i64 0], box b2 28 [.int .i64 k, .slice A5 is.length c5, .slice none 0 0, .slice none 0 0, .slice none 0 0, .slice none 0 0, .int .i64 0, .int .i64 0]] u) (fun i _ => 0)
    case atStart => exact ⟨rfl, hO⟩
    case round =>
      clear hO
      obtain ⟨rfl, hO⟩ := hrel
      by_cases hn : (0 : Int) < (is.length : Int)
      · go_wp2_with (first | ((with_reducible refine zaa ?_); refine zlb rfl hO rfl _ (by exact at3) ?_) | ((with_reducible refine zaa ?_); refine zlf rfl hO rfl _ (by exact at1) ?_) | ((with_reducible refine zab ?_); refine zsb rfl hO rfl _ (by exact at2) rfl ?_; clear hO; intro u hO; simp only [zC, zB] at hO) | fail)
        have hR := hO.pick [0] (by decide)
        simp only [List.filterMap_cons, List.filterMap_nil, List.getElem?_cons_zero] at hR
        obtain ⟨F, hvo, hF⟩ := Own.vecI hR k
        exact zan rfl hO rfl 2 at2 rfl rfl ⟨_, _, rfl, by rw [HF.out]; exact hvo, hF⟩
      · go_wp2_with (first | ((with_reducible refine zaa ?_); refine zlb rfl hO rfl _ (by exact at3) ?_) | ((with_reducible refine zaa ?_); refine zlf rfl hO rfl _ (by exact at1) ?_) | ((with_reducible refine zab ?_); refine zsb rfl hO rfl _ (by exact at2) rfl ?_; clear hO; intro u hO; simp only [zC, zB] at hO) | fail)
        have hR := hO.pick [0] (by decide)
        simp only [List.filterMap_cons, List.filterMap_nil, List.getElem?_cons_zero] at hR
        obtain ⟨F, hvo, hF⟩ := Own.vecI hR k
        exact zan rfl hO rfl 2 at2 rfl rfl ⟨_, _, rfl, by rw [HF.out]; exact hvo, hF⟩

end Go.Proofs.YtmofcbpabdbjlaaGreat
