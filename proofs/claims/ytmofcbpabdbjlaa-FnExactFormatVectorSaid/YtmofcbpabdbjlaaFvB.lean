/-
  What is proved: what FormatVector (of the program) returns.
  Condition: vectors of size at most 1048576.
-/
import Derived.Test.YtmofcbpabdbjlaaFvA
import Derived.Test.YtmofcbpabdbjlaaJt
import Derived.Test.YtmofcbpabdbjlaaSt
import Derived.Test.YtmofcbpabdbjlaaAt
import Derived.Deep.CutRange
namespace Go.Proofs.Ytmofcbpabdbjlaa
set_option maxRecDepth 8000
open Go.RowKit Go.ChangeShapes Go.WideShapes Go.Deep
set_option linter.unusedVariables false
set_option linter.unusedSimpArgs false

def itZ : It := ⟨0, 0, ⟨#[]⟩⟩
def emS (k : Int) : ByteArray := if k = 1 then ⟨#[108, 111, 103, 105, 99, 97, 108, 40, 48, 41]⟩ else if k = 2 then ⟨#[110, 117, 109, 101, 114, 105, 99, 40, 48, 41]⟩ else ⟨#[99, 104, 97, 114, 97, 99, 116, 101, 114, 40, 48, 41]⟩
def itemsP (k : Int) (is : List It) (ns : List ByteArray) : List ByteArray := (List.range is.length).map fun i => (labF (ns.getD i ⟨#[]⟩) ++ shwI k (is.getD i itZ) : ByteArray)
def partsP (ns fs : List ByteArray) : List ByteArray := (List.range fs.length).map fun i => (labF (ns.getD i ⟨#[]⟩) ++ fs.getD i ⟨#[]⟩ : ByteArray)
def plnF (k : Int) (is : List It) (ns l : List ByteArray) : ByteArray :=
  if k = 0 then ⟨#[78, 85, 76, 76]⟩ else if k = 5 then ⟨#[60, 102, 117, 110, 99, 116, 105, 111, 110, 62]⟩ else if k ≤ 3 ∧ is.length = 0 then emS k
  else if k ≤ 3 ∧ is.length = 1 ∧ ns.length = 0 then shwI k (is.getD 0 itZ) else if k = 4 then (⟨#[108, 105, 115, 116, 40]⟩ ++ jnB l l.length ++ ⟨#[41]⟩ : ByteArray) else (⟨#[99, 40]⟩ ++ jnB l l.length ++ ⟨#[41]⟩ : ByteArray)
def txF (ss : List ByteArray) : ByteArray := plnF 3 (ss.map txI) [] (itemsP 3 (ss.map txI) [])
def lvS : ByteArray := ⟨#[44, 32, 108, 101, 118, 101, 108, 115, 32, 61, 32]⟩
def clS : ByteArray := ⟨#[44, 32, 99, 108, 97, 115, 115, 32, 61, 32]⟩
def wrpF (cs ls : List ByteArray) (s : ByteArray) : ByteArray :=
  if ls.length = 0 ∧ cs.length = 0 then s else (⟨#[115, 116, 114, 117, 99, 116, 117, 114, 101, 40]⟩ ++ (if 0 < cs.length then ((if 0 < ls.length then (s ++ lvS ++ txF ls : ByteArray) else s) ++ clS ++ txF cs : ByteArray) else (s ++ lvS ++ txF ls : ByteArray)) ++ ⟨#[41]⟩ : ByteArray)
mutual
def fmF : VT → ByteArray
  | .mk k is ps ns cs ls _ _ => wrpF cs ls (plnF k is ns (itemsP k is ns ++ partsP ns (fmL ps)))
def fmL : List VT → List ByteArray
  | [] => []
  | p :: ps => fmF p :: fmL ps
end
def fmP : VT → ByteArray
  | .mk k is ps ns _ _ _ _ => plnF k is ns (itemsP k is ns ++ partsP ns (fmL ps))
theorem fmL_map : ∀ ps : List VT, fmL ps = ps.map fmF
  | [] => rfl
  | p :: ps => by rw [fmL, fmL_map ps, List.map_cons]
theorem fmF_eq (k : Int) (is : List It) (ps : List VT) (ns cs ls : List ByteArray) (c e : Int) : fmF (.mk k is ps ns cs ls c e) = wrpF cs ls (fmP (.mk k is ps ns cs ls c e)) := by simp only [fmF, fmP]
theorem fmP_tx (ss : List ByteArray) : fmP (vecI 3 (ss.map txI)) = txF ss := by
  show plnF 3 (ss.map txI) [] (itemsP 3 (ss.map txI) [] ++ partsP [] (fmL [])) = _
  have : partsP [] (fmL []) = [] := rfl
  rw [this, List.append_nil]
  rfl
theorem itemsP_len (k : Int) (is : List It) (ns : List ByteArray) : (itemsP k is ns).length = is.length := by simp [itemsP]
theorem partsP_len (ns fs : List ByteArray) : (partsP ns fs).length = fs.length := by simp [partsP]
theorem itemsP_get {k : Int} {is : List It} {ns : List ByteArray} {m : Nat} (h : m < is.length) : (itemsP k is ns)[m]'(by rw [itemsP_len]; exact h) = (labF (ns.getD m ⟨#[]⟩) ++ shwI k is[m] : ByteArray) := by
  simp [itemsP, List.getD_eq_getElem?_getD, h]
theorem partsP_get {ns fs : List ByteArray} {m : Nat} (h : m < fs.length) : (partsP ns fs)[m]'(by rw [partsP_len]; exact h) = (labF (ns.getD m ⟨#[]⟩) ++ fs[m] : ByteArray) := by
  simp [partsP, List.getD_eq_getElem?_getD, h]
theorem isV_pv {t : VT} (h : isV t = true) : pvB t = true := by
  rw [← isVI_eq] at h
  unfold isVI at h
  simp only [Bool.and_eq_true] at h
  exact h.1.2
theorem pv_node {t : VT} (h : pvB t = true) : nodeB t = true := by
  obtain ⟨k, is, ps, ns, cs, ls, c, e⟩ := t
  simp only [pvB, Bool.and_eq_true] at h
  exact h.1
theorem pv_parts {k : Int} {is : List It} {ps : List VT} {ns cs ls : List ByteArray} {c e : Int} (h : pvB (.mk k is ps ns cs ls c e) = true) : ∀ q ∈ ps, pvB q = true := by
  simp only [pvB, Bool.and_eq_true] at h
  have h2 := h.2
  clear h
  induction ps with
  | nil => intro q hq; cases hq
  | cons a l ih =>
    intro q hq
    simp only [pvL, Bool.and_eq_true] at h2
    rcases List.mem_cons.1 hq with rfl | hq
    · exact h2.1
    · exact ih h2.2 q hq
theorem getD_lenF {ns : List ByteArray} {k z : Nat} (h : ∀ s ∈ ns, s.size ≤ z) : (ns.getD k ⟨#[]⟩).size ≤ z := by
  rw [List.getD_eq_getElem?_getD]
  cases hq : ns[k]? with
  | none => exact Nat.zero_le _
  | some x => exact h x (List.mem_of_getElem? hq)
theorem stz_bdF {l : List ByteArray} {z : Nat} (h : ∀ s ∈ l, s.size ≤ z) : stz l ≤ z * l.length := by
  induction l with
  | nil => simp [stz]
  | cons x l ih =>
    have h1 := h x (List.mem_cons_self)
    have h2 := ih (fun s hs => h s (List.mem_cons_of_mem _ hs))
    simp only [stz, List.length_cons, Nat.mul_succ]
    omega
theorem short_mem {l : List ByteArray} (h : shortB l = true) : ∀ s ∈ l, s.size ≤ 60 := by
  intro s hs
  unfold shortB at h
  rw [List.all_eq_true] at h
  exact of_decide_eq_true (h s hs)
theorem itemsP_mem {k : Int} {is : List It} {ns : List ByteArray} (hk : ∀ x ∈ is, (1 ≤ k ∧ k ≤ 3) ∧ itemB k x = true) (hn : ∀ s ∈ ns, s.size ≤ 60) : ∀ s ∈ itemsP k is ns, s.size ≤ 490 := by
  intro s hs
  unfold itemsP at hs
  obtain ⟨i, hi, rfl⟩ := List.mem_map.1 hs
  have hi := List.mem_range.1 hi
  have h1 : is.getD i itZ = is[i] := by simp [List.getD_eq_getElem?_getD, hi]
  rw [ba_size, h1]
  have h2 := hk _ (List.getElem_mem hi)
  have h3 := shwI_size h2.1 h2.2
  have h4 := labF_size (getD_lenF (k := i) hn)
  omega
theorem itB_item {k : Int} {ls : List ByteArray} {x : It} (h : itB k ls x = true) : (1 ≤ k ∧ k ≤ 3) ∧ itemB k x = true := by
  unfold itB at h
  simp only [Bool.and_eq_true, decide_eq_true_eq] at h
  exact h.1
theorem emS_size (k : Int) : (emS k).size ≤ 12 := by
  unfold emS
  split
  · exact Nat.le_of_ble_eq_true rfl
  · split <;> exact Nat.le_of_ble_eq_true rfl
theorem plnF_size {k : Int} {is : List It} {ns l : List ByteArray} (hk : ∀ x ∈ is, (1 ≤ k ∧ k ≤ 3) ∧ itemB k x = true) : (plnF k is ns l).size ≤ 300 + 2 * l.length + stz l := by
  have hj := jnB_size l l.length (Nat.le_refl _)
  rw [List.take_length] at hj
  have e1 : (⟨#[108, 105, 115, 116, 40]⟩ : ByteArray).size = 5 := rfl
  have e2 : (⟨#[41]⟩ : ByteArray).size = 1 := rfl
  have e3 : (⟨#[99, 40]⟩ : ByteArray).size = 2 := rfl
  have e4 : (⟨#[78, 85, 76, 76]⟩ : ByteArray).size = 4 := rfl
  have e5 : (⟨#[60, 102, 117, 110, 99, 116, 105, 111, 110, 62]⟩ : ByteArray).size = 10 := rfl
  unfold plnF
  split
  · omega
  · split
    · omega
    · split
      · have := emS_size k
        omega
      · split
        · rename_i h
          have h0 : 0 < is.length := by omega
          have h1 : is.getD 0 itZ = is[0] := by simp [List.getD_eq_getElem?_getD, h0]
          have h2 := hk _ (List.getElem_mem h0)
          have h3 := shwI_size h2.1 h2.2
          rw [h1]
          omega
        · split
          · rw [ba_size, ba_size]
            omega
          · rw [ba_size, ba_size]
            omega
theorem itemB_tx {s : ByteArray} (h : s.size ≤ 60) : itemB 3 (txI s) = true := by
  unfold itemB txI
  simp [h]
theorem txF_size {ss : List ByteArray} (h : shortB ss = true) (hl : ss.length ≤ 20) : (txF ss).size ≤ 10400 := by
  have h1 : ∀ x ∈ ss.map txI, ((1 : Int) ≤ 3 ∧ (3 : Int) ≤ 3) ∧ itemB 3 x = true := by
    intro x hx
    obtain ⟨s, hs, rfl⟩ := List.mem_map.1 hx
    exact ⟨by decide, itemB_tx (short_mem h s hs)⟩
  have h2 := plnF_size (ns := []) (l := itemsP 3 (ss.map txI) []) h1
  have h3 := stz_bdF (itemsP_mem (ns := []) h1 (by simp))
  rw [itemsP_len, List.length_map] at h3
  rw [itemsP_len, List.length_map] at h2
  have h4 : 490 * ss.length ≤ 490 * 20 := Nat.mul_le_mul_left _ hl
  unfold txF
  omega
theorem wrpF_size {cs ls : List ByteArray} {s : ByteArray} (h1 : shortB ls = true) (h2 : shortB cs = true) (l1 : ls.length ≤ 20) (l2 : cs.length ≤ 20) : (wrpF cs ls s).size ≤ s.size + 21000 := by
  have t1 := txF_size h1 l1
  have t2 := txF_size h2 l2
  have e1 : lvS.size = 11 := rfl
  have e2 : clS.size = 10 := rfl
  have e3 : (⟨#[115, 116, 114, 117, 99, 116, 117, 114, 101, 40]⟩ : ByteArray).size = 10 := rfl
  have e4 : (⟨#[41]⟩ : ByteArray).size = 1 := rfl
  unfold wrpF
  split
  · omega
  · rw [ba_size, ba_size]
    split
    · rw [ba_size, ba_size]
      split
      · rw [ba_size, ba_size]
        omega
      · omega
    · rw [ba_size, ba_size]
      omega
theorem stz_parts {ns : List ByteArray} (hn : ∀ s ∈ ns, s.size ≤ 60) (fs : List ByteArray) : stz (partsP ns fs) ≤ 245 * fs.length + stz fs := by
  have key : ∀ m, m ≤ fs.length → stz ((partsP ns fs).take m) ≤ 245 * m + stz (fs.take m) := by
    intro m
    induction m with
    | zero => intro _; simp [stz]
    | succ m ih =>
      intro hm
      have h1 : m < (partsP ns fs).length := by rw [partsP_len]; exact hm
      have e1 := stz_take_succ h1
      have e2 := stz_take_succ (l := fs) (k := m) hm
      have e3 := partsP_get (ns := ns) (fs := fs) (m := m) hm
      have e4 := labF_size (getD_lenF (k := m) hn)
      have ih := ih (by omega)
      rw [e1, e2, e3, ba_size]
      omega
  have h := key fs.length (Nat.le_refl _)
  rw [List.take_of_length_le (by rw [partsP_len]; exact Nat.le_refl _), List.take_length] at h
  exact h
theorem fmP_bd {k : Int} {is : List It} {ps : List VT} {ns cs ls : List ByteArray} {c e : Int} (h : nodeB (.mk k is ps ns cs ls c e) = true) (hz : stz (fmL ps) ≤ 60000 * szL ps) : (itemsP k is ns ++ partsP ns (fmL ps)).length ≤ 80 ∧ stz (itemsP k is ns ++ partsP ns (fmL ps)) ≤ 30000 + 60000 * szL ps ∧ (fmP (.mk k is ps ns cs ls c e)).size ≤ 31000 + 60000 * szL ps := by
  obtain ⟨b1, b2, b3, b4, b5, b6, b7, b8, b9, b10, b11, b12⟩ := node_facts h
  have hk : ∀ x ∈ is, (1 ≤ k ∧ k ≤ 3) ∧ itemB k x = true := fun x hx => itB_item (b7 x hx)
  have hn := short_mem b6
  have hl : is.length ≤ 40 ∧ ps.length ≤ 40 := by
    unfold lenN at b2
    by_cases h5 : k = 5
    · have := (b9 h5).1
      rcases b8 with h' | h' <;> omega
    · rw [if_neg h5] at b2
      omega
  have h1 := stz_bdF (itemsP_mem hk hn)
  have h2 := stz_parts hn (fmL ps)
  have e1 : (fmL ps).length = ps.length := by rw [fmL_map, List.length_map]
  rw [itemsP_len] at h1
  rw [e1] at h2
  have h3 : (itemsP k is ns ++ partsP ns (fmL ps)).length = is.length + ps.length := by rw [List.length_append, itemsP_len, partsP_len, e1]
  have h4 : stz (itemsP k is ns ++ partsP ns (fmL ps)) ≤ 30000 + 60000 * szL ps := by rw [stz_app]; omega
  refine ⟨by omega, h4, ?_⟩
  have h5 := plnF_size (ns := ns) (l := itemsP k is ns ++ partsP ns (fmL ps)) hk
  show (plnF k is ns (itemsP k is ns ++ partsP ns (fmL ps))).size ≤ _
  omega
theorem fmF_size (t : VT) : pvB t = true → (fmF t).size ≤ 60000 * (1 + szV t) := by
  induction t using VT.ind with
  | _ k is ps ns cs ls c e ih =>
    intro h
    have hp := pv_parts h
    have hz : stz (fmL ps) ≤ 60000 * szL ps := by
      rw [fmL_map]
      clear h
      induction ps with
      | nil => simp [stz]
      | cons q qs ihq =>
        have h1 := ih q (List.mem_cons_self) (hp q (List.mem_cons_self))
        have h2 := ihq (fun p hp' => ih p (List.mem_cons_of_mem _ hp')) (fun p hp' => hp p (List.mem_cons_of_mem _ hp'))
        simp only [List.map_cons, stz, szL]
        omega
    have hb := fmP_bd (pv_node h) hz
    obtain ⟨b1, b2, b3, b4, b5, b6, b7, b8, b9, b10, b11, b12⟩ := node_facts (pv_node h)
    have l4 := lab_short b4
    have l5 := lab_short b5
    have hw := wrpF_size (s := fmP (.mk k is ps ns cs ls c e)) l5.2 l4.2 l5.1 (by omega)
    have HT : szV (.mk k is ps ns cs ls c e) = szI is + szL ps + szS ns + szS cs + szS ls := rfl
    rw [fmF_eq]
    omega
theorem fmL_size {ps : List VT} (h : ∀ q ∈ ps, pvB q = true) : stz (fmL ps) ≤ 60000 * szL ps := by
  rw [fmL_map]
  induction ps with
  | nil => simp [stz]
  | cons q qs ihq =>
    have h1 := fmF_size q (h q (List.mem_cons_self))
    have h2 := ihq (fun p hp' => h p (List.mem_cons_of_mem _ hp'))
    simp only [List.map_cons, stz, szL]
    omega

theorem impl_nameAtF (v0 v1 v2 v4 v5 v6 v7 : Value) (An : Option Addr) (cn : Nat) (ns : List ByteArray) (i : Nat) (w : World) (h : Sl w 1 An ns.length (stc ns)) (hn : ns.length ≤ 1048576) :
    Calls Try.prog 180 #[.agg #[v0, v1, v2, .slice An ns.length cn, v4, v5, v6, v7], .int .i64 (i : Int)] w fun e w' => e = .returned (.string (ns.getD i ⟨#[]⟩)) ∧ Below w.heap.size w w' := by
  by_cases hi : i < ns.length
  · obtain ⟨b, off, rfl, hb, hc⟩ := h.tx (Below.refl _ _) hi rfl
    have HE : Hid (ns.getD i ⟨#[]⟩ = ns[i]) := Lib.hid (by simp [List.getD_eq_getElem?_getD, hi])
    rw [HE.out]
    obtain ⟨x, hx⟩ : ∃ x, ns[i] = x := ⟨_, rfl⟩
    rw [hx] at hc ⊢
    have i1 : (i : Int) < (ns.length : Int) := by omega
    clear HE hx h hi
    go_enter Try.func180, Try.ntmps180
    have hO := Own.nil w
    go_upto_region 2 with (first
      | ((with_reducible refine wpl_box ?_); refine wpList_box_own rfl (by rfl) hO rfl rfl (fun b => by simp only [Act.put, zA, zB, zC]; rfl) ?_; (refine nm 0 rfl ?_; clear hO; intro b0 u hO); simp only [zL, zK] at hO)
      | ((with_reducible refine wpl_load ?_); refine wpList_load_field rfl (by rfl) hO rfl _ (by exact at0) (by rfl) (by simp only [Act.put, zA, zB, zC]; rfl) ?_)
      | fail)
    have e0 := (hO.old hb).trans hc
    go_wp2_with (first
      | ((with_reducible refine wpl_load ?_); refine wpList_load_field rfl (by rfl) hO rfl _ (by exact at0) (by rfl) (by simp only [Act.put, zA, zB, zC]; rfl) ?_)
      | fail)
    go_ret
    exact ⟨rfl, hO.below⟩
  · have HE : Hid (ns.getD i ⟨#[]⟩ = ⟨#[]⟩) := Lib.hid (by simp [List.getD_eq_getElem?_getD, hi])
    rw [HE.out]
    have i1 : ¬ (i : Int) < (ns.length : Int) := by omega
    clear HE h hi
    go_enter Try.func180, Try.ntmps180
    have hO := Own.nil w
    go_wp2_with (first
      | ((with_reducible refine wpl_box ?_); refine wpList_box_own rfl (by rfl) hO rfl rfl (fun b => by simp only [Act.put, zA, zB, zC]; rfl) ?_; (refine nm 0 rfl ?_; clear hO; intro b0 u hO); simp only [zL, zK] at hO)
      | ((with_reducible refine wpl_load ?_); refine wpList_load_field rfl (by rfl) hO rfl _ (by exact at0) (by rfl) (by simp only [Act.put, zA, zB, zC]; rfl) ?_)
      | fail)
    go_ret
    exact ⟨rfl, hO.below⟩

def PPln (t : VT) : Prop := pvB t = true → ∀ (vs : List Value) (w : World), RdV w t vs → szV t ≤ 1048576 → Calls Try.prog 163 #[.agg vs.toArray] w fun e w' => e = .returned (.string (fmP t)) ∧ Below w.heap.size w w'
def PFul (t : VT) : Prop := pvB t = true → ∀ (vs : List Value) (w : World), RdV w t vs → szV t ≤ 1048576 → Calls Try.prog 119 #[.agg vs.toArray] w fun e w' => e = .returned (.string (fmF t)) ∧ Below w.heap.size w w'

set_option maxRecDepth 20000 in
set_option maxHeartbeats 8000000 in
theorem impl_pln (k : Int) (is : List It) (ps : List VT) (ns cs ls : List ByteArray) (c e : Int) (ih : ∀ q ∈ ps, PFul q) : PPln (.mk k is ps ns cs ls c e) := by
  intro hB vs w hv hz
  have hnode := pv_node hB
  have hpp := pv_parts hB
  obtain ⟨b1, b2, b3, b4, b5, b6, b7, b8, b9, b10, b11, b12⟩ := node_facts hnode
  have hbd := fmP_bd hnode (fmL_size hpp)
  have hn60 := short_mem b6
  have HT0 : szV (.mk k is ps ns cs ls c e) = szI is + szL ps + szS ns + szS cs + szS ls := rfl
  have hzp := szL_eq ps
  unfold szI szS at HT0
  have z1 : is.length ≤ 1048576 := by omega
  have z2 : ps.length ≤ 1048576 := by omega
  have z3 : ns.length ≤ 1048576 := by omega
  have HPL := Lib.hid (show szL ps ≤ 1048576 by omega)
  have hst : stz (itemsP k is ns ++ partsP ns (fmL ps)) ≤ 1000000000000 := by have := hbd.2.1; have := HPL.out; omega
  have hln : (itemsP k is ns ++ partsP ns (fmL ps)).length ≤ 1048576 := by have := hbd.1; omega
  have HIT := Lib.hid (fun x hx => itB_item (b7 x hx))
  have HPP := Lib.hid hpp
  have HIH := Lib.hid ih
  have HN := Lib.hid hn60
  have HFS := Lib.hid (fun q hq => fmF_size q (hpp q hq))
  have HE : Hid (fmP (.mk k is ps ns cs ls c e) = plnF k is ns (itemsP k is ns ++ partsP ns (fmL ps))) := Lib.hid rfl
  obtain ⟨Y, hY⟩ : ∃ Y, fmP (.mk k is ps ns cs ls c e) = Y := ⟨_, rfl⟩
  rw [hY] at HE ⊢
  obtain ⟨Ai, Ap, An, Ac, Al, ci, cp, cn, cc, cl, pvs0, rfl, h1, h2, h3, h4, h5⟩ := hv.open
  have CA := fun u => impl_isAtomic k (.slice Ai is.length ci) (.slice Ap ps.length cp) (.slice An ns.length cn) (.slice Ac cs.length cc) (.slice Al ls.length cl) (.int .i64 c) (.int .i64 e) u
  have CN := fun (i : Nat) u (hb : Below w.heap.size w u) => impl_nameAtF (.int .i64 k) (.slice Ai is.length ci) (.slice Ap ps.length cp) (.slice Ac cs.length cc) (.slice Al ls.length cl) (.int .i64 c) (.int .i64 e) An cn ns i u (h3.below hb) z3
  have HP4 : Hid (k ≠ 4 → ps = []) := Lib.hid (fun h => by
    rcases b8 with h' | h'
    · exact List.length_eq_zero_iff.1 h'
    · exact absurd h' h)
  have HI4 : Hid (is ≠ [] → 1 ≤ k ∧ k ≤ 3) := Lib.hid (fun h => by
    cases hq : is with
    | nil => exact absurd hq h
    | cons x l => exact (HIT.out x (by rw [hq]; exact List.mem_cons_self)).1)
  have HK5 : Hid (k = 5 → is.length = 0) := Lib.hid (fun h => (b9 h).1)
  clear hY hB hv hz hnode hpp hbd hn60 HT0 hzp b2 b3 b4 b5 b6 b7 b8 b9 b10 b11 b12 h3 h4 h5 ih
  obtain ⟨k0, k5⟩ := b1
  by_cases e0 : k = 0
  · subst e0
    have HF : Hid (Y = ⟨#[78, 85, 76, 76]⟩) := Lib.hid (by rw [HE.out]; rfl)
    go_enter Try.func163, Try.ntmps163
    have hO := Own.nil w
    go_wp2_with (first
      | ((with_reducible refine wpl_box ?_); refine wpList_box_own rfl (by rfl) hO rfl rfl (fun b => by simp only [Act.put, zA, zB, zC]; rfl) ?_; (refine nm 0 rfl ?_; clear hO; intro b0 u hO); simp only [zL, zK] at hO)
      | ((with_reducible refine wpl_load ?_); refine wpList_load_field rfl (by rfl) hO rfl _ (by exact at0) (by rfl) (by simp only [Act.put, zA, zB, zC]; rfl) ?_)
      | fail)
    go_ret
    exact ⟨ret_str HF.out.symm, hO.below⟩
  by_cases e5 : k = 5
  · subst e5
    have HF : Hid (Y = ⟨#[60, 102, 117, 110, 99, 116, 105, 111, 110, 62]⟩) := Lib.hid (by rw [HE.out]; rfl)
    go_enter Try.func163, Try.ntmps163
    have hO := Own.nil w
    go_wp2_with (first
      | ((with_reducible refine wpl_box ?_); refine wpList_box_own rfl (by rfl) hO rfl rfl (fun b => by simp only [Act.put, zA, zB, zC]; rfl) ?_; (refine nm 0 rfl ?_; clear hO; intro b0 u hO); simp only [zL, zK] at hO)
      | ((with_reducible refine wpl_load ?_); refine wpList_load_field rfl (by rfl) hO rfl _ (by exact at0) (by rfl) (by simp only [Act.put, zA, zB, zC]; rfl) ?_)
      | fail)
    go_ret
    exact ⟨ret_str HF.out.symm, hO.below⟩
  have q0 : (k == 0) = false := by simp [e0]
  have q5 : (k == 5) = false := by simp [e5]
  have HE2 : Hid (Y = if k ≤ 3 ∧ is.length = 0 then emS k else if k ≤ 3 ∧ is.length = 1 ∧ ns.length = 0 then shwI k (is.getD 0 itZ) else if k = 4 then (⟨#[108, 105, 115, 116, 40]⟩ ++ jnB (itemsP k is ns ++ partsP ns (fmL ps)) (itemsP k is ns ++ partsP ns (fmL ps)).length ++ ⟨#[41]⟩ : ByteArray) else (⟨#[99, 40]⟩ ++ jnB (itemsP k is ns ++ partsP ns (fmL ps)) (itemsP k is ns ++ partsP ns (fmL ps)).length ++ ⟨#[41]⟩ : ByteArray)) := Lib.hid (by
    rw [HE.out]
    unfold plnF
    rw [if_neg e0, if_neg e5])
  clear HE
  by_cases ha : k ≤ 3 ∧ is.length = 0
  · have HF : Hid (Y = emS k) := Lib.hid (by rw [HE2.out, if_pos ha])
    obtain ⟨a1, a2⟩ := ha
    rw [show decide (1 ≤ k ∧ k ≤ 3) = true from decide_eq_true (by omega)] at CA
    have q1 : ((is.length : Int) == 0) = true := by simp [a2]
    clear HE2 HIT HPP HIH HN HFS HP4 HI4 HK5 a2
    obtain rfl | rfl | rfl : k = 1 ∨ k = 2 ∨ k = 3 := by omega
    all_goals
      go_enter Try.func163, Try.ntmps163
      have hO := Own.nil w
      go_wp2_with (first
        | ((with_reducible refine (CA _).mono ?_); rintro e u ⟨rfl, hb⟩; (replace hO := hO.step hb; clear hb))
        | ((with_reducible refine wpl_box ?_); refine wpList_box_own rfl (by rfl) hO rfl rfl (fun b => by simp only [Act.put, zA, zB, zC]; rfl) ?_; (refine nm 0 rfl ?_; clear hO; intro b0 u hO); simp only [zL, zK] at hO)
        | ((with_reducible refine wpl_load ?_); refine wpList_load_box rfl (by rfl) hO rfl _ (by exact at0) (by rfl) (by simp only [Act.put, zA, zB, zC]; rfl) ?_)
        | ((with_reducible refine wpl_load ?_); refine wpList_load_field rfl (by rfl) hO rfl _ (by (first | exact at0 | exact at1 | fail)) (by rfl) (by simp only [Act.put, zA, zB, zC]; rfl) ?_)
        | ((with_reducible refine wpl_build ?_); refine wpList_build_list (cs := [.string ⟨#[108, 111, 103, 105, 99, 97, 108, 40, 48, 41]⟩, .string ⟨#[110, 117, 109, 101, 114, 105, 99, 40, 48, 41]⟩, .string ⟨#[99, 104, 97, 114, 97, 99, 116, 101, 114, 40, 48, 41]⟩]) hO rfl (by rfl) [.string ⟨#[108, 111, 103, 105, 99, 97, 108, 40, 48, 41]⟩, .string ⟨#[110, 117, 109, 101, 114, 105, 99, 40, 48, 41]⟩, .string ⟨#[99, 104, 97, 114, 97, 99, 116, 101, 114, 40, 48, 41]⟩] (by rfl) (by rfl) rfl (zM rfl) (by rfl) rfl (fun b => by simp only [Act.put, zA, zB, zC]; rfl) ?_; clear hO; intro bb u hO; simp only [zL, zK] at hO)
        | fail)
      go_ret
      exact ⟨ret_str HF.out.symm, hO.below⟩
  have HE3 : Hid (Y = if k ≤ 3 ∧ is.length = 1 ∧ ns.length = 0 then shwI k (is.getD 0 itZ) else if k = 4 then (⟨#[108, 105, 115, 116, 40]⟩ ++ jnB (itemsP k is ns ++ partsP ns (fmL ps)) (itemsP k is ns ++ partsP ns (fmL ps)).length ++ ⟨#[41]⟩ : ByteArray) else (⟨#[99, 40]⟩ ++ jnB (itemsP k is ns ++ partsP ns (fmL ps)) (itemsP k is ns ++ partsP ns (fmL ps)).length ++ ⟨#[41]⟩ : ByteArray)) := Lib.hid (by rw [HE2.out, if_neg ha])
  clear HE2
  by_cases hb : k ≤ 3 ∧ is.length = 1 ∧ ns.length = 0
  · have HF : Hid (Y = shwI k (is.getD 0 itZ)) := Lib.hid (by rw [HE3.out, if_pos hb])
    obtain ⟨a1, a2, a3⟩ := hb
    have i0 : 0 < is.length := by omega
    have hx2 := HIT.out _ (List.getElem_mem i0)
    have HF2 : Hid (Y = shwI k is[0]) := Lib.hid (by rw [HF.out]; simp [List.getD_eq_getElem?_getD, i0])
    obtain ⟨x, hx⟩ : ∃ x, is[0] = x := ⟨_, rfl⟩
    obtain ⟨b, off, rfl, hb0, f0, f1, f2⟩ := h1.it (Below.refl _ _) i0 hx
    rw [hx] at hx2 HF2
    obtain ⟨xn, xd, xt⟩ := x
    simp only [Nat.zero_mul, Nat.add_zero] at f0 f1 f2
    have CS := fun u => impl_show k xn xd xt u hx2.1 hx2.2
    rw [show decide (1 ≤ k ∧ k ≤ 3) = true from decide_eq_true (by omega)] at CA
    have q1 : ((is.length : Int) == 0) = false := by simp; intro h; rw [h] at i0; exact absurd i0 (by decide)
    have q2 : ((is.length : Int) == 1) = true := by simp; omega
    have q3 : ((ns.length : Int) == 0) = true := by simp; exact List.length_eq_zero_iff.1 a3
    have i1 : (0 : Int) < (is.length : Int) := by omega
    clear HE3 HIT HPP HIH HN HFS HP4 HI4 HK5 a1 a2 a3 hx hx2 HF i0 ha
    go_enter Try.func163, Try.ntmps163
    have hO := Own.nil w
    go_wp2_with (first
      | ((with_reducible refine (CA _).mono ?_); rintro e u ⟨rfl, hb⟩; (replace hO := hO.step hb; clear hb))
      | ((with_reducible refine wpl_box ?_); refine wpList_box_own rfl (by rfl) hO rfl rfl (fun b => by simp only [Act.put, zA, zB, zC]; rfl) ?_; (refine nm 0 rfl ?_; clear hO; intro b0 u hO); simp only [zL, zK] at hO)
      | ((with_reducible refine wpl_load ?_); refine wpList_load_box rfl (by rfl) hO rfl _ (by exact at0) (by rfl) (by simp only [Act.put, zA, zB, zC]; rfl) ?_)
      | ((with_reducible refine wpl_load ?_); refine wpList_load_field rfl (by rfl) hO rfl _ (by exact at0) (by rfl) (by simp only [Act.put, zA, zB, zC]; rfl) ?_)
      | fail)
    refine J.wp_region_c (n := 100) [0, 1, 2, 3, 4, 5, 6, 7] [] (deps := fun i => [[], [0], [], [2], [2, 3], [2, 3, 4], [0, 1, 2, 3, 4, 5], [0, 1, 2, 3, 4, 5, 6]].getD i []) (fun _ _ _ => True) (r := 0) (lst := #[true, true, true, true, true, true, true, true]) (by kernel_rfl) (by kernel_rfl) (by kernel_rfl) rfl (by decide) (by kernel_rfl) hO ?_
    refine J.Chain.cons (by rfl) (by rfl) (fun M u hO K hK => by (simp only [wp_at_zero, wp_at_succ]; go_step; exact hK _ hO)) (by simp only [J.putL, zI, zG, zH, J.dstOf, zF, zD, zE, zS, zQ, zR, Act.put, zA, zB, zC]; rfl) ?_
    refine J.Chain.cons (by rfl) (by rfl) (fun M u hO K hK => by (exact wp_load_field hO rfl rfl _ (by exact at0) (by rfl) (by rfl) (hK _ hO))) (by simp only [J.putL, zI, zG, zH, J.dstOf, zF, zD, zE, zS, zQ, zR, Act.put, zA, zB, zC]; rfl) ?_
    refine J.Chain.cons (by rfl) (by rfl) (fun M u hO K hK => by (simp only [wp_at_zero, wp_at_succ]; go_step; exact hK _ hO)) (by simp only [J.putL, zI, zG, zH, J.dstOf, zF, zD, zE, zS, zQ, zR, Act.put, zA, zB, zC]; rfl) ?_
    refine J.Chain.cons (by rfl) (by rfl) (fun M u hO K hK => by (exact wp_load_field hO rfl rfl _ (by exact at0) (by rfl) (by rfl) (hK _ hO))) (by simp only [J.putL, zI, zG, zH, J.dstOf, zF, zD, zE, zS, zQ, zR, Act.put, zA, zB, zC]; rfl) ?_
    refine J.Chain.cons (by rfl) (by rfl) (fun M u hO K hK => by (simp only [wp_at_zero, wp_at_succ]; go_step; exact hK _ hO)) (by simp only [J.putL, zI, zG, zH, J.dstOf, zF, zD, zE, zS, zQ, zR, Act.put, zA, zB, zC]; rfl) ?_
    refine J.Chain.cons (by rfl) (by rfl) (fun M u hO K hK => by ((have e0 := (hO.old hb0).trans f0; have e1 := (hO.old hb0).trans f1; have e2 := (hO.old hb0).trans f2; simp only [wp_at_zero, wp_at_succ]; go_step; exact hK _ hO))) (by simp only [J.putL, zI, zG, zH, J.dstOf, zF, zD, zE, zS, zQ, zR, Act.put, zA, zB, zC]; rfl) ?_
    refine J.Chain.cons (by rfl) (by rfl) (fun M u hO K hK => by (simp only [wp_at_zero, wp_at_succ]; go_step; refine (CS _).mono ?_; rintro e u ⟨rfl, hb⟩; exact hK _ (hO.step hb))) (by simp only [J.putL, zI, zG, zH, J.dstOf, zF, zD, zE, zS, zQ, zR, Act.put, zA, zB, zC]; rfl) ?_
    refine J.Chain.cons (by rfl) (by rfl) (fun M u hO K hK => by (simp only [wp_at_zero, wp_at_succ]; go_step; exact hK _ hO)) (by simp only [J.putL, zI, zG, zH, J.dstOf, zF, zD, zE, zS, zQ, zR, Act.put, zA, zB, zC]; rfl) ?_
    refine J.Chain.nil ⟨?_, ?_⟩
    · exact J.Each.nil
    intro vs u hO hF
    clear hF
    simp only [List.flatMap_cons, List.flatMap_nil, List.append_nil, zL, zK] at hO
    simp only [J.putL]
    clear vs
    refine wpAny_done (by kernel_rfl) ?_ _
    go_wp2_with (first
      | ((with_reducible refine wpl_alloc ?_); refine wpList_alloc_own rfl (by rfl) hO rfl (fun b => by simp only [Act.put, zA, zB, zC]; rfl) ?_; (first | (refine nm 0 rfl ?_; clear hO; intro b0 u hO) | (refine nm 1 rfl ?_; clear hO; intro b1 u hO) | (refine nm 2 rfl ?_; clear hO; intro b2 u hO)); simp only [zL, zK] at hO)
      | ((with_reducible refine wpl_box ?_); refine wpList_box_own rfl (by rfl) hO rfl rfl (fun b => by simp only [Act.put, zA, zB, zC]; rfl) ?_; (first | (refine nm 0 rfl ?_; clear hO; intro b0 u hO) | (refine nm 1 rfl ?_; clear hO; intro b1 u hO) | (refine nm 2 rfl ?_; clear hO; intro b2 u hO)); simp only [zL, zK] at hO)
      | ((with_reducible refine wpl_load ?_); refine wpList_load_box rfl (by (first | rfl | (simp only [Region.wanted, yielded, *]; go_simp; done) | (simp [Region.wanted, yielded, *]; done) | fail)) hO rfl _ (by (first | exact at0 | exact at1 | exact at2)) (by rfl) (by simp only [Act.put, zA, zB, zC]; rfl) ?_)
      | ((with_reducible refine wpl_load ?_); refine wpList_load_field rfl (by (first | rfl | (simp only [Region.wanted, yielded, *]; go_simp; done) | (simp [Region.wanted, yielded, *]; done) | fail)) hO rfl _ (by (first | exact at0 | exact at1 | exact at2)) (by rfl) (by simp only [Act.put, zA, zB, zC]; rfl) ?_)
      | ((with_reducible refine wpl_store ?_); refine wpList_store_box rfl (by rfl) hO rfl _ (by (first | exact at0 | exact at1 | exact at2)) rfl (by rfl) (by rfl) (by rfl) (by rfl) (by rfl) ?_; clear hO; intro u hO; simp only [zC, zB] at hO)
      | ((with_reducible refine wpl_store ?_); refine wpList_store_field rfl (by rfl) hO rfl _ (by (first | exact at0 | exact at1 | exact at2)) (zM rfl) (by simp only [Act.eval, zJ, zF, zD, zE, zP]; rfl) (by rfl) (by rfl) (by rfl) ?_; clear hO; intro u hO; simp only [zC, zB] at hO)
      | ((with_reducible refine wpl_call ?_); refine wpList_append_str hO rfl (by rfl) rfl rfl _ (by (first | exact at0 | exact at1 | exact at2)) (by omega) rfl (fun A' c' => by simp only [Act.put, zA, zB, zC]; rfl) ?_; clear hO; intro A' c' u hO; simp only [zC, zB] at hO)
      | ((with_reducible refine wpl_call ?_); refine wpList_append_lit hO rfl (by rfl) rfl rfl _ (by (first | exact at0 | exact at1 | exact at2)) (by rfl) (by simp [Value.oneCell']) (by omega) (by omega) rfl (fun A' c' => by simp only [Act.put, zA, zB, zC]; rfl) ?_; clear hO; intro A' c' u hO; simp only [zC, zB] at hO)
      | fail)
    go_ret
    exact ⟨ret_str HF2.out.symm, hO.below⟩
  have HE4 : Hid (Y = if k = 4 then (⟨#[108, 105, 115, 116, 40]⟩ ++ jnB (itemsP k is ns ++ partsP ns (fmL ps)) (itemsP k is ns ++ partsP ns (fmL ps)).length ++ ⟨#[41]⟩ : ByteArray) else (⟨#[99, 40]⟩ ++ jnB (itemsP k is ns ++ partsP ns (fmL ps)) (itemsP k is ns ++ partsP ns (fmL ps)).length ++ ⟨#[41]⟩ : ByteArray)) := Lib.hid (by rw [HE3.out, if_neg hb])
  clear HE3
  obtain ⟨qa, hqa⟩ : ∃ q, decide (1 ≤ k ∧ k ≤ 3) = q := ⟨_, rfl⟩
  rw [hqa] at CA
  have HA1 : Hid (qa = true → is.length ≠ 0) := Lib.hid (fun h => by
    subst h
    have := of_decide_eq_true hqa
    intro h2
    exact ha ⟨by omega, h2⟩)
  have HA2 : Hid (qa = true → is.length = 1 → ns.length ≠ 0) := Lib.hid (fun h h1 h2 => by
    subst h
    have := of_decide_eq_true hqa
    exact hb ⟨by omega, h1, h2⟩)
  clear hqa ha hb
  go_enter Try.func163, Try.ntmps163
  have hO := Own.nil w
  go_upto_region 6 with (first
    | ((with_reducible refine wpl_box ?_); refine wpList_box_own rfl (by rfl) hO rfl rfl (fun b => by simp only [Act.put, zA, zB, zC]; rfl) ?_; (refine nm 0 rfl ?_; clear hO; intro b0 u hO); simp only [zL, zK] at hO)
    | ((with_reducible refine wpl_load ?_); refine wpList_load_field rfl (by rfl) hO rfl _ (by exact at0) (by rfl) (by simp only [Act.put, zA, zB, zC]; rfl) ?_)
    | fail)
  go_cut [21] from 14 to 21 (fun s u => s = .bool false ∧ Own w [box b0 29 [.int .i64 k, .slice Ai is.length ci, .slice Ap ps.length cp, .slice An ns.length cn, .slice Ac cs.length cc, .slice Al ls.length cl, .int .i64 c, .int .i64 e]] u)
  case first =>
    cases qa with
    | true =>
      have q1 : ((is.length : Int) == 0) = false := by have := HA1.out rfl; simp; intro h; exact this (by rw [h]; rfl)
      clear HA1 HA2
      go_wp2_with (first
        | ((with_reducible refine (CA _).mono ?_); rintro e u ⟨rfl, hb⟩; (replace hO := hO.step hb; clear hb))
        | ((with_reducible refine wpl_load ?_); refine wpList_load_box rfl (by rfl) hO rfl _ (by exact at0) (by rfl) (by simp only [Act.put, zA, zB, zC]; rfl) ?_)
        | ((with_reducible refine wpl_load ?_); refine wpList_load_field rfl (by rfl) hO rfl _ (by exact at0) (by rfl) (by simp only [Act.put, zA, zB, zC]; rfl) ?_)
        | fail)
      go_meet
      case rel => exact ⟨rfl, hO⟩
    | false =>
      go_wp2_with (first
        | ((with_reducible refine (CA _).mono ?_); rintro e u ⟨rfl, hb⟩; (replace hO := hO.step hb; clear hb))
        | ((with_reducible refine wpl_load ?_); refine wpList_load_box rfl (by rfl) hO rfl _ (by exact at0) (by rfl) (by simp only [Act.put, zA, zB, zC]; rfl) ?_)
        | fail)
      go_meet
      case rel => exact ⟨rfl, hO⟩
  case rest =>
  clear hO
  obtain ⟨rfl, hO⟩ := hcut
  go_upto_region 8 with (first
    | ((with_reducible refine wpl_alloc ?_); refine wpList_alloc_own rfl (by rfl) hO rfl (fun b => by simp only [Act.put, zA, zB, zC]; rfl) ?_; (first | (refine nm 0 rfl ?_; clear hO; intro b0 u hO) | (refine nm 1 rfl ?_; clear hO; intro b1 u hO) | (refine nm 2 rfl ?_; clear hO; intro b2 u hO) | (refine nm 3 rfl ?_; clear hO; intro b3 u hO)); simp only [zL, zK] at hO)
    | ((with_reducible refine wpl_box ?_); refine wpList_box_own rfl (by rfl) hO rfl rfl (fun b => by simp only [Act.put, zA, zB, zC]; rfl) ?_; (first | (refine nm 0 rfl ?_; clear hO; intro b0 u hO) | (refine nm 1 rfl ?_; clear hO; intro b1 u hO) | (refine nm 2 rfl ?_; clear hO; intro b2 u hO) | (refine nm 3 rfl ?_; clear hO; intro b3 u hO)); simp only [zL, zK] at hO)
    | ((with_reducible refine wpl_load ?_); refine wpList_load_box rfl (by (first | rfl | (simp only [Region.wanted, yielded, *]; go_simp; done) | (simp [Region.wanted, yielded, *]; done) | fail)) hO rfl _ (by (first | exact at0 | exact at1 | exact at2 | exact at3)) (by rfl) (by simp only [Act.put, zA, zB, zC]; rfl) ?_)
    | ((with_reducible refine wpl_load ?_); refine wpList_load_field rfl (by (first | rfl | (simp only [Region.wanted, yielded, *]; go_simp; done) | (simp [Region.wanted, yielded, *]; done) | fail)) hO rfl _ (by (first | exact at0 | exact at1 | exact at2 | exact at3)) (by rfl) (by simp only [Act.put, zA, zB, zC]; rfl) ?_)
    | ((with_reducible refine wpl_store ?_); refine wpList_store_box rfl (by rfl) hO rfl _ (by (first | exact at0 | exact at1 | exact at2 | exact at3)) rfl (by rfl) (by rfl) (by rfl) (by rfl) (by rfl) ?_; clear hO; intro u hO; simp only [zC, zB] at hO)
    | ((with_reducible refine wpl_store ?_); refine wpList_store_field rfl (by rfl) hO rfl _ (by (first | exact at0 | exact at1 | exact at2 | exact at3)) (zM rfl) (by simp only [Act.eval, zJ, zF, zD, zE, zP]; rfl) (by rfl) (by rfl) (by rfl) ?_; clear hO; intro u hO; simp only [zC, zB] at hO)
    | ((with_reducible refine wpl_call ?_); refine wpList_append_str hO rfl (by rfl) rfl rfl _ (by (first | exact at0 | exact at1 | exact at2 | exact at3)) (by omega) rfl (fun A' c' => by simp only [Act.put, zA, zB, zC]; rfl) ?_; clear hO; intro A' c' u hO; simp only [zC, zB] at hO)
    | ((with_reducible refine wpl_call ?_); refine wpList_append_lit hO rfl (by rfl) rfl rfl _ (by (first | exact at0 | exact at1 | exact at2 | exact at3)) (by rfl) (by simp [Value.oneCell']) (by omega) (by omega) rfl (fun A' c' => by simp only [Act.put, zA, zB, zC]; rfl) ?_; clear hO; intro A' c' u hO; simp only [zC, zB] at hO)
    | fail)
  go_cut [41] from 28 to 41 (fun s u => s = .bool false ∧ Own w [box b0 29 [.int .i64 k, .slice Ai is.length ci, .slice Ap ps.length cp, .slice An ns.length cn, .slice Ac cs.length cc, .slice Al ls.length cl, .int .i64 c, .int .i64 e]] u)
  case first =>
    cases qa with
    | true =>
      by_cases hl1 : is.length = 1
      · have q1 : ((is.length : Int) == 1) = true := by simp; omega
        have q3 : ((ns.length : Int) == 0) = false := by have := HA2.out rfl hl1; simp; intro h; exact this (by rw [h]; rfl)
        clear HA1 HA2 hl1
        go_wp2_with (first
          | ((with_reducible refine (CA _).mono ?_); rintro e u ⟨rfl, hb⟩; (replace hO := hO.step hb; clear hb))
          | ((with_reducible refine wpl_load ?_); refine wpList_load_box rfl (by rfl) hO rfl _ (by exact at0) (by rfl) (by simp only [Act.put, zA, zB, zC]; rfl) ?_)
          | ((with_reducible refine wpl_load ?_); refine wpList_load_field rfl (by rfl) hO rfl _ (by exact at0) (by rfl) (by simp only [Act.put, zA, zB, zC]; rfl) ?_)
          | fail)
        go_meet
        case rel => exact ⟨rfl, hO⟩
      · have q1 : ((is.length : Int) == 1) = false := by simp; omega
        clear HA1 HA2 hl1
        go_wp2_with (first
          | ((with_reducible refine (CA _).mono ?_); rintro e u ⟨rfl, hb⟩; (replace hO := hO.step hb; clear hb))
          | ((with_reducible refine wpl_load ?_); refine wpList_load_box rfl (by rfl) hO rfl _ (by exact at0) (by rfl) (by simp only [Act.put, zA, zB, zC]; rfl) ?_)
          | ((with_reducible refine wpl_load ?_); refine wpList_load_field rfl (by rfl) hO rfl _ (by exact at0) (by rfl) (by simp only [Act.put, zA, zB, zC]; rfl) ?_)
          | fail)
        go_meet
        case rel => exact ⟨rfl, hO⟩
    | false =>
      go_wp2_with (first
        | ((with_reducible refine (CA _).mono ?_); rintro e u ⟨rfl, hb⟩; (replace hO := hO.step hb; clear hb))
        | ((with_reducible refine wpl_load ?_); refine wpList_load_box rfl (by rfl) hO rfl _ (by exact at0) (by rfl) (by simp only [Act.put, zA, zB, zC]; rfl) ?_)
        | fail)
      go_meet
      case rel => exact ⟨rfl, hO⟩
  case rest =>
  clear hO HA1 HA2
  obtain ⟨rfl, hO⟩ := hcut
  go_wp2_with (first
    | ((with_reducible refine wpl_load ?_); refine wpList_load_field rfl (by rfl) hO rfl _ (by exact at0) (by rfl) (by simp only [Act.put, zA, zB, zC]; rfl) ?_)
    | fail)
  replace hO := hO.addNil 9 1
  simp only [List.cons_append, List.nil_append] at hO
  go_loopw [3, 52] (fun s i u => ∃ (m : Nat) (A : Option Addr) (c' : Nat), m ≤ is.length ∧ i = .int .i64 m ∧ s = .slice A ((itemsP k is ns).take m).length c' ∧ Own w [row 9 1 (.slice A ((itemsP k is ns).take m).length c') ((itemsP k is ns).take m).length (stc ((itemsP k is ns).take m)), box b0 29 [.int .i64 k, .slice Ai is.length ci, .slice Ap ps.length cp, .slice An ns.length cn, .slice Ac cs.length cc, .slice Al ls.length cl, .int .i64 c, .int .i64 e]] u) (fun _ i _ => is.length - (intOf i).toNat)
  case atStart => exact ⟨0, none, 0, Nat.zero_le _, rfl, rfl, hO.pick [1, 0] (by decide)⟩
  case round =>
    clear hO
    obtain ⟨m, A, c', hm, rfl, rfl, hO⟩ := hrel
    have HML : Hid (((itemsP k is ns).take m).length ≤ 1048576) := Lib.hid (by rw [List.length_take]; omega)
    by_cases hlt : m < is.length
    · have hlt2 : m < (itemsP k is ns).length := by rw [itemsP_len]; exact hlt
      have HTK := Lib.hid (take_snoc' hlt2)
      have HG := Lib.hid (itemsP_get (k := k) (ns := ns) hlt)
      have hx2 := HIT.out _ (List.getElem_mem hlt)
      obtain ⟨x, hx⟩ : ∃ x, is[m] = x := ⟨_, rfl⟩
      obtain ⟨b, off, rfl, hb, e0, e1, e2⟩ := h1.it hO.below hlt hx
      rw [hx] at hx2 HG
      rw [HG.out] at HTK
      obtain ⟨xn, xd, xt⟩ := x
      simp only at e0 e1 e2
      have i1 : (m : Int) < (is.length : Int) := by omega
      have CN' := fun u hb => CN m u hb
      have CS := fun u => impl_show k xn xd xt u hx2.1 hx2.2
      have zs := shwI_size hx2.1 hx2.2
      have hnm := getD_lenF (k := m) HN.out
      have zl := labF_size hnm
      have CL := fun u => impl_label (ns.getD m ⟨#[]⟩) u hnm
      obtain ⟨nmm, hnm2⟩ : ∃ q, ns.getD m ⟨#[]⟩ = q := ⟨_, rfl⟩
      rw [hnm2] at CN' CL HTK zl
      obtain ⟨lb, hlb⟩ : ∃ q, labF nmm = q := ⟨_, rfl⟩
      rw [hlb] at CL HTK zl
      obtain ⟨sh, hsh⟩ : ∃ q, shwI k ⟨xn, xd, xt⟩ = q := ⟨_, rfl⟩
      rw [hsh] at CS HTK zs
      obtain ⟨M, hM⟩ : ∃ q, (itemsP k is ns).take m = q := ⟨_, rfl⟩
      rw [hM] at hO HTK HML
      rw [hM]
      have lM := HML.out
      clear hM hsh hlb hnm2 hnm hx hx2 HG hlt2 HML
      go_wp2_with (first
        | ((with_reducible refine wpl_alloc ?_); refine wpList_alloc_own rfl (by rfl) hO rfl (fun b => by simp only [Act.put, zA, zB, zC]; rfl) ?_; (refine nm 2 rfl ?_; clear hO; intro b2 u hO); simp only [zL, zK] at hO)
        | ((with_reducible refine wpl_store ?_); refine wpList_store_box rfl (by rfl) hO rfl _ (by exact at2) rfl (by rfl) (by rfl) (by rfl) (by rfl) (by rfl) ?_; clear hO; intro u hO; simp only [zC, zB] at hO)
        | fail)
      clear e0 e1 e2
      refine J.wp_region_c (n := 100) [0, 1, 2, 3, 4, 5, 6, 7, 8, 9] [10] (deps := fun i => [[], [], [], [1, 2], [1, 2, 3], [], [5], [], [5, 6, 7], [1, 2, 3, 4, 5, 6, 7, 8], [1, 2, 3, 4, 5, 6, 7, 8, 9], [], []].getD i []) (fun _ _ => (J.freshS 9 [.string (lb ++ sh)])) (r := 2) (lst := #[true, true, true, true, true, true, true, true, true, true, true, false, false]) (by kernel_rfl) (by kernel_rfl) (by kernel_rfl) rfl (by decide) (by kernel_rfl) hO ?_
      refine J.Chain.cons (by rfl) (by rfl) (fun M u hO K hK => by (simp only [wp_at_zero, wp_at_succ]; go_step; exact hK _ hO)) (by simp only [J.putL, zI, zG, zH, J.dstOf, zF, zD, zE, zS, zQ, zR, Act.put, zA, zB, zC]; rfl) ?_
      refine J.Chain.cons (by rfl) (by rfl) (fun M u hO K hK => by (exact wp_load_box hO rfl rfl _ (by exact at1) (by rfl) (by rfl) (hK _ hO))) (by simp only [J.putL, zI, zG, zH, J.dstOf, zF, zD, zE, zS, zQ, zR, Act.put, zA, zB, zC]; rfl) ?_
      refine J.Chain.cons (by rfl) (by rfl) (fun M u hO K hK => by (simp only [wp_at_zero, wp_at_succ]; go_step; exact hK _ hO)) (by simp only [J.putL, zI, zG, zH, J.dstOf, zF, zD, zE, zS, zQ, zR, Act.put, zA, zB, zC]; rfl) ?_
      refine J.Chain.cons (by rfl) (by rfl) (fun M u hO K hK => by (simp only [wp_at_zero, wp_at_succ]; go_step; refine (CN' _ hO.below).mono ?_; rintro e u ⟨rfl, hb⟩; exact hK _ (hO.step hb))) (by simp only [J.putL, zI, zG, zH, J.dstOf, zF, zD, zE, zS, zQ, zR, Act.put, zA, zB, zC]; rfl) ?_
      refine J.Chain.cons (by rfl) (by rfl) (fun M u hO K hK => by (simp only [wp_at_zero, wp_at_succ]; go_step; refine (CL _).mono ?_; rintro e u ⟨rfl, hb⟩; exact hK _ (hO.step hb))) (by simp only [J.putL, zI, zG, zH, J.dstOf, zF, zD, zE, zS, zQ, zR, Act.put, zA, zB, zC]; rfl) ?_
      refine J.Chain.cons (by rfl) (by rfl) (fun M u hO K hK => by (simp only [wp_at_zero, wp_at_succ]; go_step; exact hK _ hO)) (by simp only [J.putL, zI, zG, zH, J.dstOf, zF, zD, zE, zS, zQ, zR, Act.put, zA, zB, zC]; rfl) ?_
      refine J.Chain.cons (by rfl) (by rfl) (fun M u hO K hK => by (exact wp_load_field hO rfl rfl _ (by exact at1) (by rfl) (by rfl) (hK _ hO))) (by simp only [J.putL, zI, zG, zH, J.dstOf, zF, zD, zE, zS, zQ, zR, Act.put, zA, zB, zC]; rfl) ?_
      refine J.Chain.cons (by rfl) (by rfl) (fun M u hO K hK => by (exact wp_load_box hO rfl rfl _ (by exact at2) (by rfl) (by rfl) (hK _ hO))) (by simp only [J.putL, zI, zG, zH, J.dstOf, zF, zD, zE, zS, zQ, zR, Act.put, zA, zB, zC]; rfl) ?_
      refine J.Chain.cons (by rfl) (by rfl) (fun M u hO K hK => by (simp only [wp_at_zero, wp_at_succ]; go_step; refine (CS _).mono ?_; rintro e u ⟨rfl, hb⟩; exact hK _ (hO.step hb))) (by simp only [J.putL, zI, zG, zH, J.dstOf, zF, zD, zE, zS, zQ, zR, Act.put, zA, zB, zC]; rfl) ?_
      refine J.Chain.cons (by rfl) (by rfl) (fun M u hO K hK => by (simp only [wp_at_zero, wp_at_succ]; go_step; exact hK _ hO)) (by simp only [J.putL, zI, zG, zH, J.dstOf, zF, zD, zE, zS, zQ, zR, Act.put, zA, zB, zC]; rfl) ?_
      refine J.Chain.nil ⟨?_, ?_⟩
      · refine J.Each.cons (by rfl) ?_ ?_; exact ⟨rfl, fun vs M u hO _ K hK => by (refine wp_build_one (cs := [.string (lb ++ sh)]) hO rfl (by simp only [Act.eval, zJ, zP, J.putL, zI, zG, zH, J.dstOf, zF, zD, zE, zS, zQ, zR, Act.put, zA, zB, zC]; rfl) rfl rfl (zM rfl) rfl fun b u hO => ?_; exact hK _ _ _ (show (J.freshS 9 [.string (lb ++ sh)]) _ from ⟨b, rfl⟩) hO)⟩; exact J.Each.nil
      intro vs u hO hF
      obtain ⟨b2, h10⟩ : J.freshS _ _ (vs 10) := hF 10 (by decide)
      clear hF
      simp only [List.flatMap_cons, List.flatMap_nil, h10, List.append_nil, zL, zK] at hO
      simp only [h10, J.putL, zI, zG, zH, J.dstOf, zF, zD, zE, zS, zQ, zR, Act.put, zA, zB, zC]
      clear h10 vs
      refine J.wpAny_one (i := 11) (by kernel_rfl) (by rfl) rfl fun K hK => ?_
      refine wp_append_box hO rfl rfl rfl _ (by exact at0) _ (by exact at3) (by rfl) (by simp [Value.oneCell']) (by omega) (by omega) rfl ?_
      clear hO
      intro A' c' u hO
      simp only [zC, zB] at hO
      simp only [Act.put, zA, zB, zC]
      refine hK _ _ ?_
      clear hK K
      refine J.wpAny_one (i := 12) (by kernel_rfl) (by rfl) rfl fun K hK => ?_
      simp only [wp_at_zero, wp_at_succ]
      go_step
      refine hK _ _ ?_
      clear hK K
      refine wpAny_done (by kernel_rfl) ?_ _
      go_wp2_with (first
        | ((with_reducible refine wpl_alloc ?_); refine wpList_alloc_own rfl (by rfl) hO rfl (fun b => by simp only [Act.put, zA, zB, zC]; rfl) ?_; (first | (refine nm 0 rfl ?_; clear hO; intro b0 u hO) | (refine nm 1 rfl ?_; clear hO; intro b1 u hO) | (refine nm 2 rfl ?_; clear hO; intro b2 u hO) | (refine nm 3 rfl ?_; clear hO; intro b3 u hO)); simp only [zL, zK] at hO)
        | ((with_reducible refine wpl_box ?_); refine wpList_box_own rfl (by rfl) hO rfl rfl (fun b => by simp only [Act.put, zA, zB, zC]; rfl) ?_; (first | (refine nm 0 rfl ?_; clear hO; intro b0 u hO) | (refine nm 1 rfl ?_; clear hO; intro b1 u hO) | (refine nm 2 rfl ?_; clear hO; intro b2 u hO) | (refine nm 3 rfl ?_; clear hO; intro b3 u hO)); simp only [zL, zK] at hO)
        | ((with_reducible refine wpl_load ?_); refine wpList_load_box rfl (by (first | rfl | (simp only [Region.wanted, yielded, *]; go_simp; done) | (simp [Region.wanted, yielded, *]; done) | fail)) hO rfl _ (by (first | exact at0 | exact at1 | exact at2 | exact at3)) (by rfl) (by simp only [Act.put, zA, zB, zC]; rfl) ?_)
        | ((with_reducible refine wpl_load ?_); refine wpList_load_field rfl (by (first | rfl | (simp only [Region.wanted, yielded, *]; go_simp; done) | (simp [Region.wanted, yielded, *]; done) | fail)) hO rfl _ (by (first | exact at0 | exact at1 | exact at2 | exact at3)) (by rfl) (by simp only [Act.put, zA, zB, zC]; rfl) ?_)
        | ((with_reducible refine wpl_store ?_); refine wpList_store_box rfl (by rfl) hO rfl _ (by (first | exact at0 | exact at1 | exact at2 | exact at3)) rfl (by rfl) (by rfl) (by rfl) (by rfl) (by rfl) ?_; clear hO; intro u hO; simp only [zC, zB] at hO)
        | ((with_reducible refine wpl_store ?_); refine wpList_store_field rfl (by rfl) hO rfl _ (by (first | exact at0 | exact at1 | exact at2 | exact at3)) (zM rfl) (by simp only [Act.eval, zJ, zF, zD, zE, zP]; rfl) (by rfl) (by rfl) (by rfl) ?_; clear hO; intro u hO; simp only [zC, zB] at hO)
        | ((with_reducible refine wpl_call ?_); refine wpList_append_str hO rfl (by rfl) rfl rfl _ (by (first | exact at0 | exact at1 | exact at2 | exact at3)) (by omega) rfl (fun A' c' => by simp only [Act.put, zA, zB, zC]; rfl) ?_; clear hO; intro A' c' u hO; simp only [zC, zB] at hO)
        | ((with_reducible refine wpl_call ?_); refine wpList_append_lit hO rfl (by rfl) rfl rfl _ (by (first | exact at0 | exact at1 | exact at2 | exact at3)) (by rfl) (by simp [Value.oneCell']) (by omega) (by omega) rfl (fun A' c' => by simp only [Act.put, zA, zB, zC]; rfl) ?_; clear hO; intro A' c' u hO; simp only [zC, zB] at hO)
        | fail)
      replace hO := hO.pick [0, 1] (by decide)
      simp only [zN, zO, zE, zD] at hO
      have L1 : ((itemsP k is ns).take (m + 1)).length = M.length + 1 := by rw [HTK.out, List.length_append]; rfl
      have E1 : stc ((itemsP k is ns).take (m + 1)) = stc M ++ [.string (lb ++ sh)] := by rw [HTK.out, stc_app]; rfl
      rw [← L1, ← E1] at hO
      go_roundw
      case rel => exact ⟨m + 1, _, _, by omega, by go_num, by rw [L1], hO⟩
      case measure => simp [intOf]; omega
    · have hmn : m = is.length := by omega
      subst hmn
      have e0 : (itemsP k is ns).take is.length = itemsP k is ns := List.take_of_length_le (by rw [itemsP_len]; exact Nat.le_refl _)
      rw [e0] at hO
      rw [e0]
      clear e0 hlt hm HML HIT HI4
      go_wp2_with (first
        | ((with_reducible refine wpl_load ?_); refine wpList_load_field rfl (by rfl) hO rfl _ (by exact at1) (by rfl) (by simp only [Act.put, zA, zB, zC]; rfl) ?_)
        | fail)
      go_loopw [3, 73] (fun s i u => ∃ (m : Nat) (A : Option Addr) (c' : Nat), m ≤ ps.length ∧ i = .int .i64 m ∧ s = .slice A (itemsP k is ns ++ (partsP ns (fmL ps)).take m).length c' ∧ Own w [row 9 1 (.slice A (itemsP k is ns ++ (partsP ns (fmL ps)).take m).length c') (itemsP k is ns ++ (partsP ns (fmL ps)).take m).length (stc (itemsP k is ns ++ (partsP ns (fmL ps)).take m)), box b0 29 [.int .i64 k, .slice Ai is.length ci, .slice Ap ps.length cp, .slice An ns.length cn, .slice Ac cs.length cc, .slice Al ls.length cl, .int .i64 c, .int .i64 e]] u) (fun _ i _ => ps.length - (intOf i).toNat)
      case atStart => exact ⟨0, A, c', Nat.zero_le _, rfl, by rw [List.take_zero, List.append_nil], by rw [List.take_zero, List.append_nil]; exact hO⟩
      case round =>
        clear hO
        obtain ⟨m, A, c', hm, rfl, rfl, hO⟩ := hrel
        have HML : Hid ((itemsP k is ns ++ (partsP ns (fmL ps)).take m).length ≤ 4194304) := Lib.hid (by rw [List.length_append, itemsP_len, List.length_take]; omega)
        by_cases hlt : m < ps.length
        · have hlf : m < (fmL ps).length := by rw [fmL_map, List.length_map]; exact hlt
          have hlt2 : m < (partsP ns (fmL ps)).length := by rw [partsP_len]; exact hlf
          have HTK : Hid (itemsP k is ns ++ (partsP ns (fmL ps)).take (m + 1) = itemsP k is ns ++ (partsP ns (fmL ps)).take m ++ [(labF (ns.getD m ⟨#[]⟩) ++ fmF ps[m] : ByteArray)]) := Lib.hid (by
            rw [take_snoc' hlt2, partsP_get hlf, List.append_assoc]
            simp [fmL_map])
          have hpx := HPP.out _ (List.getElem_mem hlt)
          have hih := HIH.out _ (List.getElem_mem hlt) hpx
          have hfs := HFS.out _ (List.getElem_mem hlt)
          have hsz := szL_mem HPL.out hlt
          obtain ⟨x, hx⟩ : ∃ x, ps[m]'hlt = x := ⟨_, rfl⟩
          obtain ⟨xk, xi, xp, xn, xc, xl, xo, xe⟩ := x
          obtain ⟨b, off, rfl, hb, Bi, Bp, Bn, Bc, Bl, di, dp, dn, dc, dl, hrd, e0, e1, e2, e3, e4, e5, e6, e7⟩ := h2.ptc hO.below hlt hx
          rw [hx] at HTK hih hfs hsz
          have CF := fun u (hb : Below w.heap.size w u) => hih _ u (hrd.grow hb) hsz
          have zf : (fmF (.mk xk xi xp xn xc xl xo xe)).size ≤ 100000000000 := by omega
          have i1 : (m : Int) < (ps.length : Int) := by omega
          have CN' := fun u hb => CN m u hb
          have hnm := getD_lenF (k := m) HN.out
          have zl := labF_size hnm
          have CL := fun u => impl_label (ns.getD m ⟨#[]⟩) u hnm
          obtain ⟨nmm, hnm2⟩ : ∃ q, ns.getD m ⟨#[]⟩ = q := ⟨_, rfl⟩
          rw [hnm2] at CN' CL HTK zl
          obtain ⟨lb, hlb⟩ : ∃ q, labF nmm = q := ⟨_, rfl⟩
          rw [hlb] at CL HTK zl
          obtain ⟨sh, hsh⟩ : ∃ q, fmF (.mk xk xi xp xn xc xl xo xe) = q := ⟨_, rfl⟩
          rw [hsh] at CF HTK zf
          obtain ⟨M, hM⟩ : ∃ q, itemsP k is ns ++ (partsP ns (fmL ps)).take m = q := ⟨_, rfl⟩
          rw [hM] at hO HTK HML
          rw [hM]
          have lM := HML.out
          clear hM hsh hlb hnm2 hnm hx hlt2 hlf HML hpx hih hfs hsz
          go_wp2_with (first
            | ((with_reducible refine wpl_alloc ?_); refine wpList_alloc_own rfl (by rfl) hO rfl (fun b => by simp only [Act.put, zA, zB, zC]; rfl) ?_; (refine nm 2 rfl ?_; clear hO; intro b2 u hO); simp only [zL, zK] at hO)
            | ((with_reducible refine wpl_store ?_); refine wpList_store_box rfl (by rfl) hO rfl _ (by exact at2) rfl (by rfl) (by rfl) (by rfl) (by rfl) (by rfl) ?_; clear hO; intro u hO; simp only [zC, zB] at hO)
            | fail)
          clear e0 e1 e2 e3 e4 e5 e6 e7
          refine J.wp_region_c (n := 100) [0, 1, 2, 3, 4, 5, 6, 7] [8] (deps := fun i => [[], [], [], [1, 2], [1, 2, 3], [], [5], [1, 2, 3, 4, 5, 6], [1, 2, 3, 4, 5, 6, 7], [], []].getD i []) (fun _ _ => (J.freshS 9 [.string (lb ++ sh)])) (r := 2) (lst := #[true, true, true, true, true, true, true, true, true, false, false]) (by kernel_rfl) (by kernel_rfl) (by kernel_rfl) rfl (by decide) (by kernel_rfl) hO ?_
          refine J.Chain.cons (by rfl) (by rfl) (fun M u hO K hK => by (simp only [wp_at_zero, wp_at_succ]; go_step; exact hK _ hO)) (by simp only [J.putL, zI, zG, zH, J.dstOf, zF, zD, zE, zS, zQ, zR, Act.put, zA, zB, zC]; rfl) ?_
          refine J.Chain.cons (by rfl) (by rfl) (fun M u hO K hK => by (exact wp_load_box hO rfl rfl _ (by exact at1) (by rfl) (by rfl) (hK _ hO))) (by simp only [J.putL, zI, zG, zH, J.dstOf, zF, zD, zE, zS, zQ, zR, Act.put, zA, zB, zC]; rfl) ?_
          refine J.Chain.cons (by rfl) (by rfl) (fun M u hO K hK => by (simp only [wp_at_zero, wp_at_succ]; go_step; exact hK _ hO)) (by simp only [J.putL, zI, zG, zH, J.dstOf, zF, zD, zE, zS, zQ, zR, Act.put, zA, zB, zC]; rfl) ?_
          refine J.Chain.cons (by rfl) (by rfl) (fun M u hO K hK => by (simp only [wp_at_zero, wp_at_succ]; go_step; refine (CN' _ hO.below).mono ?_; rintro e u ⟨rfl, hb⟩; exact hK _ (hO.step hb))) (by simp only [J.putL, zI, zG, zH, J.dstOf, zF, zD, zE, zS, zQ, zR, Act.put, zA, zB, zC]; rfl) ?_
          refine J.Chain.cons (by rfl) (by rfl) (fun M u hO K hK => by (simp only [wp_at_zero, wp_at_succ]; go_step; refine (CL _).mono ?_; rintro e u ⟨rfl, hb⟩; exact hK _ (hO.step hb))) (by simp only [J.putL, zI, zG, zH, J.dstOf, zF, zD, zE, zS, zQ, zR, Act.put, zA, zB, zC]; rfl) ?_
          refine J.Chain.cons (by rfl) (by rfl) (fun M u hO K hK => by (exact wp_load_box hO rfl rfl _ (by exact at2) (by rfl) (by rfl) (hK _ hO))) (by simp only [J.putL, zI, zG, zH, J.dstOf, zF, zD, zE, zS, zQ, zR, Act.put, zA, zB, zC]; rfl) ?_
          refine J.Chain.cons (by rfl) (by rfl) (fun M u hO K hK => by (simp only [wp_at_zero, wp_at_succ]; go_step; refine (CF _ hO.below).mono ?_; rintro e u ⟨rfl, hb⟩; exact hK _ (hO.step hb))) (by simp only [J.putL, zI, zG, zH, J.dstOf, zF, zD, zE, zS, zQ, zR, Act.put, zA, zB, zC]; rfl) ?_
          refine J.Chain.cons (by rfl) (by rfl) (fun M u hO K hK => by (simp only [wp_at_zero, wp_at_succ]; go_step; exact hK _ hO)) (by simp only [J.putL, zI, zG, zH, J.dstOf, zF, zD, zE, zS, zQ, zR, Act.put, zA, zB, zC]; rfl) ?_
          refine J.Chain.nil ⟨?_, ?_⟩
          · refine J.Each.cons (by rfl) ?_ ?_; exact ⟨rfl, fun vs M u hO _ K hK => by (refine wp_build_one (cs := [.string (lb ++ sh)]) hO rfl (by simp only [Act.eval, zJ, zP, J.putL, zI, zG, zH, J.dstOf, zF, zD, zE, zS, zQ, zR, Act.put, zA, zB, zC]; rfl) rfl rfl (zM rfl) rfl fun b u hO => ?_; exact hK _ _ _ (show (J.freshS 9 [.string (lb ++ sh)]) _ from ⟨b, rfl⟩) hO)⟩; exact J.Each.nil
          intro vs u hO hF
          obtain ⟨b3, h8⟩ : J.freshS _ _ (vs 8) := hF 8 (by decide)
          clear hF
          simp only [List.flatMap_cons, List.flatMap_nil, h8, List.append_nil, zL, zK] at hO
          simp only [h8, J.putL, zI, zG, zH, J.dstOf, zF, zD, zE, zS, zQ, zR, Act.put, zA, zB, zC]
          clear h8 vs
          refine J.wpAny_one (i := 9) (by kernel_rfl) (by rfl) rfl fun K hK => ?_
          refine wp_append_box hO rfl rfl rfl _ (by exact at0) _ (by exact at3) (by rfl) (by simp [Value.oneCell']) (by omega) (by omega) rfl ?_
          clear hO
          intro A' c' u hO
          simp only [zC, zB] at hO
          simp only [Act.put, zA, zB, zC]
          refine hK _ _ ?_
          clear hK K
          refine J.wpAny_one (i := 10) (by kernel_rfl) (by rfl) rfl fun K hK => ?_
          simp only [wp_at_zero, wp_at_succ]
          go_step
          refine hK _ _ ?_
          clear hK K
          refine wpAny_done (by kernel_rfl) ?_ _
          go_wp2_with (first
            | ((with_reducible refine wpl_alloc ?_); refine wpList_alloc_own rfl (by rfl) hO rfl (fun b => by simp only [Act.put, zA, zB, zC]; rfl) ?_; (first | (refine nm 0 rfl ?_; clear hO; intro b0 u hO) | (refine nm 1 rfl ?_; clear hO; intro b1 u hO) | (refine nm 2 rfl ?_; clear hO; intro b2 u hO) | (refine nm 3 rfl ?_; clear hO; intro b3 u hO)); simp only [zL, zK] at hO)
            | ((with_reducible refine wpl_box ?_); refine wpList_box_own rfl (by rfl) hO rfl rfl (fun b => by simp only [Act.put, zA, zB, zC]; rfl) ?_; (first | (refine nm 0 rfl ?_; clear hO; intro b0 u hO) | (refine nm 1 rfl ?_; clear hO; intro b1 u hO) | (refine nm 2 rfl ?_; clear hO; intro b2 u hO) | (refine nm 3 rfl ?_; clear hO; intro b3 u hO)); simp only [zL, zK] at hO)
            | ((with_reducible refine wpl_load ?_); refine wpList_load_box rfl (by (first | rfl | (simp only [Region.wanted, yielded, *]; go_simp; done) | (simp [Region.wanted, yielded, *]; done) | fail)) hO rfl _ (by (first | exact at0 | exact at1 | exact at2 | exact at3)) (by rfl) (by simp only [Act.put, zA, zB, zC]; rfl) ?_)
            | ((with_reducible refine wpl_load ?_); refine wpList_load_field rfl (by (first | rfl | (simp only [Region.wanted, yielded, *]; go_simp; done) | (simp [Region.wanted, yielded, *]; done) | fail)) hO rfl _ (by (first | exact at0 | exact at1 | exact at2 | exact at3)) (by rfl) (by simp only [Act.put, zA, zB, zC]; rfl) ?_)
            | ((with_reducible refine wpl_store ?_); refine wpList_store_box rfl (by rfl) hO rfl _ (by (first | exact at0 | exact at1 | exact at2 | exact at3)) rfl (by rfl) (by rfl) (by rfl) (by rfl) (by rfl) ?_; clear hO; intro u hO; simp only [zC, zB] at hO)
            | ((with_reducible refine wpl_store ?_); refine wpList_store_field rfl (by rfl) hO rfl _ (by (first | exact at0 | exact at1 | exact at2 | exact at3)) (zM rfl) (by simp only [Act.eval, zJ, zF, zD, zE, zP]; rfl) (by rfl) (by rfl) (by rfl) ?_; clear hO; intro u hO; simp only [zC, zB] at hO)
            | ((with_reducible refine wpl_call ?_); refine wpList_append_str hO rfl (by rfl) rfl rfl _ (by (first | exact at0 | exact at1 | exact at2 | exact at3)) (by omega) rfl (fun A' c' => by simp only [Act.put, zA, zB, zC]; rfl) ?_; clear hO; intro A' c' u hO; simp only [zC, zB] at hO)
            | ((with_reducible refine wpl_call ?_); refine wpList_append_lit hO rfl (by rfl) rfl rfl _ (by (first | exact at0 | exact at1 | exact at2 | exact at3)) (by rfl) (by simp [Value.oneCell']) (by omega) (by omega) rfl (fun A' c' => by simp only [Act.put, zA, zB, zC]; rfl) ?_; clear hO; intro A' c' u hO; simp only [zC, zB] at hO)
            | fail)
          replace hO := hO.pick [0, 1] (by decide)
          simp only [zN, zO, zE, zD] at hO
          have L1 : (itemsP k is ns ++ (partsP ns (fmL ps)).take (m + 1)).length = M.length + 1 := by rw [HTK.out, List.length_append]; rfl
          have E1 : stc (itemsP k is ns ++ (partsP ns (fmL ps)).take (m + 1)) = stc M ++ [.string (lb ++ sh)] := by rw [HTK.out, stc_app]; rfl
          rw [← L1, ← E1] at hO
          go_roundw
          case rel => exact ⟨m + 1, _, _, by omega, by go_num, by rw [L1], hO⟩
          case measure => simp [intOf]; omega
        · have hmn : m = ps.length := by omega
          subst hmn
          have e0 : (partsP ns (fmL ps)).take ps.length = partsP ns (fmL ps) := List.take_of_length_le (by rw [partsP_len, fmL_map, List.length_map]; exact Nat.le_refl _)
          rw [e0] at hO
          rw [e0]
          have zj := jnB_size (itemsP k is ns ++ partsP ns (fmL ps)) _ (Nat.le_refl _)
          rw [List.take_length] at zj
          obtain ⟨L, hL⟩ : ∃ q, itemsP k is ns ++ partsP ns (fmL ps) = q := ⟨_, rfl⟩
          rw [hL] at hO hst hln zj HE4
          rw [hL]
          have CJ := fun (A : Option Addr) (c : Nat) u h => impl_joinT A c L u h hln hst
          have zj2 : (jnB L L.length).size ≤ 2000000000000 := by omega
          obtain ⟨J, hJ⟩ : ∃ q, jnB L L.length = q := ⟨_, rfl⟩
          rw [hJ] at CJ zj2 HE4
          have s1 : (⟨#[108, 105, 115, 116, 40]⟩ : ByteArray).size = 5 := rfl
          have s2 : (⟨#[41]⟩ : ByteArray).size = 1 := rfl
          have s3 : (⟨#[99, 40]⟩ : ByteArray).size = 2 := rfl
          have s4 : (⟨#[108, 105, 115, 116, 40]⟩ ++ J : ByteArray).size = 5 + J.size := by rw [ba_size, s1]
          have s5 : (⟨#[99, 40]⟩ ++ J : ByteArray).size = 2 + J.size := by rw [ba_size, s3]
          clear e0 hlt hm HML HPP HIH HN HFS HP4 HK5 hL hJ zj hst hln z1 z2 z3 HPL h1 h2
          by_cases k4 : k = 4
          · have q4 : (k == 4) = true := by simp [k4]
            have HF : Hid (Y = (⟨#[108, 105, 115, 116, 40]⟩ ++ J ++ ⟨#[41]⟩ : ByteArray)) := Lib.hid (by rw [HE4.out, if_pos k4])
            clear k4 HE4
            go_wp2_with (first
              | ((with_reducible refine (CJ _ _ _ (hO.row_sl 0 rfl)).mono ?_); rintro e u ⟨rfl, hb⟩; (replace hO := hO.step hb; clear hb))
              | ((with_reducible refine wpl_load ?_); refine wpList_load_field rfl (by rfl) hO rfl _ (by exact at1) (by rfl) (by simp only [Act.put, zA, zB, zC]; rfl) ?_)
              | fail)
            go_ret
            exact ⟨ret_str HF.out.symm, hO.below⟩
          · have q4 : (k == 4) = false := by simp [k4]
            have HF : Hid (Y = (⟨#[99, 40]⟩ ++ J ++ ⟨#[41]⟩ : ByteArray)) := Lib.hid (by rw [HE4.out, if_neg k4])
            clear k4 HE4
            go_wp2_with (first
              | ((with_reducible refine (CJ _ _ _ (hO.row_sl 0 rfl)).mono ?_); rintro e u ⟨rfl, hb⟩; (replace hO := hO.step hb; clear hb))
              | ((with_reducible refine wpl_load ?_); refine wpList_load_field rfl (by rfl) hO rfl _ (by exact at1) (by rfl) (by simp only [Act.put, zA, zB, zC]; rfl) ?_)
              | fail)
            go_ret
            exact ⟨ret_str HF.out.symm, hO.below⟩

theorem tx_valid {ss : List ByteArray} (h : shortB ss = true) (hl : ss.length ≤ 20) : pvB (vecI 3 (ss.map txI)) = true ∧ tvT ss = vecI 3 (ss.map txI) ∧ szV (vecI 3 (ss.map txI)) ≤ 1048576 := by
  have h1 : isV (vecI 3 (ss.map txI)) = true := by rw [isV_tx ss (by omega)]; exact h
  exact ⟨isV_pv h1, if_pos ⟨by omega, h⟩, Nat.le_trans (isV_small h1) (by decide)⟩
theorem impl_txt {ss : List ByteArray} (h : shortB ss = true) (hl : ss.length ≤ 20) (vs : List Value) (w : World) (hv : RdV w (vecI 3 (ss.map txI)) vs) : Calls Try.prog 163 #[.agg vs.toArray] w fun e w' => e = .returned (.string (txF ss)) ∧ Below w.heap.size w w' := by
  have h1 := impl_pln 3 (ss.map txI) [] [] [] [] 0 0 (by simp) (tx_valid h hl).1 vs w hv (tx_valid h hl).2.2
  have e : fmP (.mk 3 (ss.map txI) [] [] [] [] 0 0) = txF ss := fmP_tx ss
  rw [e] at h1
  exact h1
theorem impl_tvx {ss : List ByteArray} (h : shortB ss = true) (hl : ss.length ≤ 20) (A : Option Addr) (c : Nat) (w : World) (hs : Sl w 1 A ss.length (stc ss)) : Calls Try.prog 164 #[.slice A ss.length c] w fun e w' => ∃ (Ci Cp Cn Cc Cl : Option Addr) (ri rp rn rc rl : Nat) (F : List Res), e = .returned (.agg #[.int .i64 3, .slice Ci ss.length ri, .slice Cp 0 rp, .slice Cn 0 rn, .slice Cc 0 rc, .slice Cl 0 rl, .int .i64 0, .int .i64 0]) ∧
      VO (vecI 3 (ss.map txI)) [.int .i64 3, .slice Ci ss.length ri, .slice Cp 0 rp, .slice Cn 0 rn, .slice Cc 0 rc, .slice Cl 0 rl, .int .i64 0, .int .i64 0] F ∧ Own w [pack F] w' := by
  have h1 := impl_textVec A ss.length c ss w hs (by omega)
  rw [(tx_valid h hl).2.1] at h1
  exact h1.mono fun e' w' h => by
    have h' := RetV.exC (xk := 3) (xi := ss.map txI) (xp := []) (xn := []) (xc := []) (xl := []) (xo := 0) (xe := 0) h
    rw [List.length_map] at h'
    exact h'

set_option maxRecDepth 20000 in
set_option maxHeartbeats 8000000 in
theorem impl_ful (t : VT) : PFul t := by
  induction t using VT.ind with
  | _ k is ps ns cs ls c e ih =>
  intro hB vs w hv hz
  have hpp := pv_parts hB
  have hnode := pv_node hB
  have hPL := impl_pln k is ps ns cs ls c e ih hB
  have hbd := (fmP_bd hnode (fmL_size hpp)).2.2
  obtain ⟨b1, b2, b3, b4, b5, b6, b7, b8, b9, b10, b11, b12⟩ := node_facts hnode
  have l4 := lab_short b4
  have l5 := lab_short b5
  have HT0 : szV (.mk k is ps ns cs ls c e) = szI is + szL ps + szS ns + szS cs + szS ls := rfl
  have zS : (fmP (.mk k is ps ns cs ls c e)).size ≤ 100000000000 := by omega
  have z1 := txF_size l5.2 l5.1
  have z2 := txF_size l4.2 (by omega)
  have HE := Lib.hid (fmF_eq k is ps ns cs ls c e)
  have HW : Hid (∀ S, wrpF cs ls S = if ls.length = 0 ∧ cs.length = 0 then S else (⟨#[115, 116, 114, 117, 99, 116, 117, 114, 101, 40]⟩ ++ (if 0 < cs.length then ((if 0 < ls.length then (S ++ ⟨#[44, 32, 108, 101, 118, 101, 108, 115, 32, 61, 32]⟩ ++ txF ls : ByteArray) else S) ++ ⟨#[44, 32, 99, 108, 97, 115, 115, 32, 61, 32]⟩ ++ txF cs : ByteArray) else (S ++ ⟨#[44, 32, 108, 101, 118, 101, 108, 115, 32, 61, 32]⟩ ++ txF ls : ByteArray)) ++ ⟨#[41]⟩ : ByteArray)) := Lib.hid (fun S => rfl)
  obtain ⟨Y, hY⟩ : ∃ Y, fmF (.mk k is ps ns cs ls c e) = Y := ⟨_, rfl⟩
  rw [hY] at HE ⊢
  obtain ⟨Ai, Ap, An, Ac, Al, ci, cp, cn, cc, cl, pvs0, rfl, h1, h2, h3, h4, h5⟩ := hv.open
  have CP := fun u (hb : Below w.heap.size w u) => hPL _ u (hv.grow hb) hz
  have TL := fun u (hb : Below w.heap.size w u) => impl_tvx l5.2 l5.1 Al cl u (h5.below hb)
  have TC := fun u (hb : Below w.heap.size w u) => impl_tvx l4.2 (by omega) Ac cc u (h4.below hb)
  have PL := fun vs u (h : RdV u (vecI 3 (ls.map txI)) vs) => impl_txt l5.2 l5.1 vs u h
  have PC := fun vs u (h : RdV u (vecI 3 (cs.map txI)) vs) => impl_txt l4.2 (by omega) vs u h
  obtain ⟨S, hS⟩ : ∃ q, fmP (.mk k is ps ns cs ls c e) = q := ⟨_, rfl⟩
  rw [hS] at HE zS CP
  have HE2 := Lib.hid (HE.out.trans (HW.out S))
  obtain ⟨T1, hT1⟩ : ∃ q, txF ls = q := ⟨_, rfl⟩
  obtain ⟨T2, hT2⟩ : ∃ q, txF cs = q := ⟨_, rfl⟩
  rw [hT1] at HE2 PL z1
  rw [hT2] at HE2 PC z2
  have s1 : (⟨#[44, 32, 108, 101, 118, 101, 108, 115, 32, 61, 32]⟩ : ByteArray).size = 11 := rfl
  have s2 : (⟨#[44, 32, 99, 108, 97, 115, 115, 32, 61, 32]⟩ : ByteArray).size = 10 := rfl
  have s3 : (⟨#[115, 116, 114, 117, 99, 116, 117, 114, 101, 40]⟩ : ByteArray).size = 10 := rfl
  have s4 : (⟨#[41]⟩ : ByteArray).size = 1 := rfl
  clear hY hB hpp hnode hPL hbd b1 b2 b3 b4 b5 b6 b7 b8 b9 b10 b11 b12 l4 l5 HT0 HE HW hv hz h1 h2 h3 h4 h5 hS hT1 hT2 ih
  by_cases l0 : ls.length = 0
  · have q1 : ((ls.length : Int) == 0) = true := by simp; exact List.length_eq_zero_iff.1 l0
    have i1 : ¬ 0 < ls.length := by omega
    by_cases c0 : cs.length = 0
    · have q2 : ((cs.length : Int) == 0) = true := by simp; exact List.length_eq_zero_iff.1 c0
      have HF : Hid (Y = S) := Lib.hid (by rw [HE2.out, if_pos ⟨l0, c0⟩])
      clear HE2 l0 c0 TL TC PL PC
      go_enter Try.func119, Try.ntmps119
      have hO := Own.nil w
      go_wp2_with (first
        | ((with_reducible refine (CP _ hO.below).mono ?_); rintro e u ⟨rfl, hb⟩; (replace hO := hO.step hb; clear hb))
        | ((with_reducible refine wpl_box ?_); refine wpList_box_own rfl (by rfl) hO rfl rfl (fun b => by simp only [Act.put, zA, zB, zC]; rfl) ?_; (refine nm 0 rfl ?_; clear hO; intro b0 u hO); simp only [zL, zK] at hO)
        | ((with_reducible refine wpl_load ?_); refine wpList_load_box rfl (by rfl) hO rfl _ (by exact at0) (by rfl) (by simp only [Act.put, zA, zB, zC]; rfl) ?_)
        | ((with_reducible refine wpl_load ?_); refine wpList_load_field rfl (by rfl) hO rfl _ (by exact at0) (by rfl) (by simp only [Act.put, zA, zB, zC]; rfl) ?_)
        | fail)
      go_ret
      exact ⟨ret_str HF.out.symm, hO.below⟩
    · have q2 : ((cs.length : Int) == 0) = false := by simp; intro h; exact c0 (by rw [h]; rfl)
      have i2 : 0 < cs.length := by omega
      have HF : Hid (Y = (⟨#[115, 116, 114, 117, 99, 116, 117, 114, 101, 40]⟩ ++ (S ++ ⟨#[44, 32, 99, 108, 97, 115, 115, 32, 61, 32]⟩ ++ T2) ++ ⟨#[41]⟩ : ByteArray)) := Lib.hid (by rw [HE2.out, if_neg (by omega), if_pos i2, if_neg i1])
      have m1 : (S ++ ⟨#[44, 32, 99, 108, 97, 115, 115, 32, 61, 32]⟩ : ByteArray).size = S.size + 10 := by rw [ba_size, s2]
      have m2 : (S ++ ⟨#[44, 32, 99, 108, 97, 115, 115, 32, 61, 32]⟩ ++ T2 : ByteArray).size = S.size + 10 + T2.size := by rw [ba_size, m1]
      have m3 : (⟨#[115, 116, 114, 117, 99, 116, 117, 114, 101, 40]⟩ ++ (S ++ ⟨#[44, 32, 99, 108, 97, 115, 115, 32, 61, 32]⟩ ++ T2) : ByteArray).size = 10 + (S.size + 10 + T2.size) := by rw [ba_size, m2, s3]
      clear HE2 l0 c0 TL PL
      go_enter Try.func119, Try.ntmps119
      have hO := Own.nil w
      go_wp2_with (first
        | ((with_reducible refine (CP _ hO.below).mono ?_); rintro e u ⟨rfl, hb⟩; (replace hO := hO.step hb; clear hb))
        | ((with_reducible refine wpl_box ?_); refine wpList_box_own rfl (by rfl) hO rfl rfl (fun b => by simp only [Act.put, zA, zB, zC]; rfl) ?_; (refine nm 0 rfl ?_; clear hO; intro b0 u hO); simp only [zL, zK] at hO)
        | ((with_reducible refine wpl_load ?_); refine wpList_load_box rfl (by rfl) hO rfl _ (by exact at0) (by rfl) (by simp only [Act.put, zA, zB, zC]; rfl) ?_)
        | ((with_reducible refine wpl_load ?_); refine wpList_load_field rfl (by rfl) hO rfl _ (by exact at0) (by rfl) (by simp only [Act.put, zA, zB, zC]; rfl) ?_)
        | fail)
      refine (TC _ hO.below).mono ?_
      rintro e9 u ⟨C1, C2, C3, C4, C5, r1, r2, r3, r4, r5, F, rfl, hvo, hb9⟩
      replace hO := hO.call hb9
      clear hb9
      simp only [List.cons_append, List.nil_append] at hO
      go_wp2_with (first
        | ((with_reducible refine (PC _ _ (hO.rdp 0 rfl hvo)).mono ?_); rintro e u ⟨rfl, hb⟩; (replace hO := hO.step hb; clear hb))
        | fail)
      go_ret
      exact ⟨ret_str HF.out.symm, hO.below⟩
  · have q1 : ((ls.length : Int) == 0) = false := by simp; intro h; exact l0 (by rw [h]; rfl)
    have i1 : 0 < ls.length := by omega
    have m1 : (S ++ ⟨#[44, 32, 108, 101, 118, 101, 108, 115, 32, 61, 32]⟩ : ByteArray).size = S.size + 11 := by rw [ba_size, s1]
    have m2 : (S ++ ⟨#[44, 32, 108, 101, 118, 101, 108, 115, 32, 61, 32]⟩ ++ T1 : ByteArray).size = S.size + 11 + T1.size := by rw [ba_size, m1]
    by_cases c0 : cs.length = 0
    · have i2 : ¬ 0 < cs.length := by omega
      have HF : Hid (Y = (⟨#[115, 116, 114, 117, 99, 116, 117, 114, 101, 40]⟩ ++ (S ++ ⟨#[44, 32, 108, 101, 118, 101, 108, 115, 32, 61, 32]⟩ ++ T1) ++ ⟨#[41]⟩ : ByteArray)) := Lib.hid (by rw [HE2.out, if_neg (by omega), if_neg i2])
      have m3 : (⟨#[115, 116, 114, 117, 99, 116, 117, 114, 101, 40]⟩ ++ (S ++ ⟨#[44, 32, 108, 101, 118, 101, 108, 115, 32, 61, 32]⟩ ++ T1) : ByteArray).size = 10 + (S.size + 11 + T1.size) := by rw [ba_size, m2, s3]
      clear HE2 l0 c0 TC PC
      go_enter Try.func119, Try.ntmps119
      have hO := Own.nil w
      go_wp2_with (first
        | ((with_reducible refine (CP _ hO.below).mono ?_); rintro e u ⟨rfl, hb⟩; (replace hO := hO.step hb; clear hb))
        | ((with_reducible refine wpl_box ?_); refine wpList_box_own rfl (by rfl) hO rfl rfl (fun b => by simp only [Act.put, zA, zB, zC]; rfl) ?_; (refine nm 0 rfl ?_; clear hO; intro b0 u hO); simp only [zL, zK] at hO)
        | ((with_reducible refine wpl_load ?_); refine wpList_load_box rfl (by rfl) hO rfl _ (by exact at0) (by rfl) (by simp only [Act.put, zA, zB, zC]; rfl) ?_)
        | ((with_reducible refine wpl_load ?_); refine wpList_load_field rfl (by rfl) hO rfl _ (by exact at0) (by rfl) (by simp only [Act.put, zA, zB, zC]; rfl) ?_)
        | fail)
      refine (TL _ hO.below).mono ?_
      rintro e9 u ⟨C1, C2, C3, C4, C5, r1, r2, r3, r4, r5, F, rfl, hvo, hb9⟩
      replace hO := hO.call hb9
      clear hb9
      simp only [List.cons_append, List.nil_append] at hO
      go_wp2_with (first
        | ((with_reducible refine (PL _ _ (hO.rdp 0 rfl hvo)).mono ?_); rintro e u ⟨rfl, hb⟩; (replace hO := hO.step hb; clear hb))
        | ((with_reducible refine wpl_load ?_); refine wpList_load_field rfl (by rfl) hO rfl _ (by exact at1) (by rfl) (by simp only [Act.put, zA, zB, zC]; rfl) ?_)
        | fail)
      go_ret
      exact ⟨ret_str HF.out.symm, hO.below⟩
    · have i2 : 0 < cs.length := by omega
      have HF : Hid (Y = (⟨#[115, 116, 114, 117, 99, 116, 117, 114, 101, 40]⟩ ++ (S ++ ⟨#[44, 32, 108, 101, 118, 101, 108, 115, 32, 61, 32]⟩ ++ T1 ++ ⟨#[44, 32, 99, 108, 97, 115, 115, 32, 61, 32]⟩ ++ T2) ++ ⟨#[41]⟩ : ByteArray)) := Lib.hid (by rw [HE2.out, if_neg (by omega), if_pos i2, if_pos i1])
      have m3 : (S ++ ⟨#[44, 32, 108, 101, 118, 101, 108, 115, 32, 61, 32]⟩ ++ T1 ++ ⟨#[44, 32, 99, 108, 97, 115, 115, 32, 61, 32]⟩ : ByteArray).size = S.size + 11 + T1.size + 10 := by rw [ba_size, m2, s2]
      have m4 : (S ++ ⟨#[44, 32, 108, 101, 118, 101, 108, 115, 32, 61, 32]⟩ ++ T1 ++ ⟨#[44, 32, 99, 108, 97, 115, 115, 32, 61, 32]⟩ ++ T2 : ByteArray).size = S.size + 11 + T1.size + 10 + T2.size := by rw [ba_size, m3]
      have m5 : (⟨#[115, 116, 114, 117, 99, 116, 117, 114, 101, 40]⟩ ++ (S ++ ⟨#[44, 32, 108, 101, 118, 101, 108, 115, 32, 61, 32]⟩ ++ T1 ++ ⟨#[44, 32, 99, 108, 97, 115, 115, 32, 61, 32]⟩ ++ T2) : ByteArray).size = 10 + (S.size + 11 + T1.size + 10 + T2.size) := by rw [ba_size, m4, s3]
      clear HE2 l0 c0
      go_enter Try.func119, Try.ntmps119
      have hO := Own.nil w
      go_wp2_with (first
        | ((with_reducible refine (CP _ hO.below).mono ?_); rintro e u ⟨rfl, hb⟩; (replace hO := hO.step hb; clear hb))
        | ((with_reducible refine wpl_box ?_); refine wpList_box_own rfl (by rfl) hO rfl rfl (fun b => by simp only [Act.put, zA, zB, zC]; rfl) ?_; (refine nm 0 rfl ?_; clear hO; intro b0 u hO); simp only [zL, zK] at hO)
        | ((with_reducible refine wpl_load ?_); refine wpList_load_box rfl (by rfl) hO rfl _ (by exact at0) (by rfl) (by simp only [Act.put, zA, zB, zC]; rfl) ?_)
        | ((with_reducible refine wpl_load ?_); refine wpList_load_field rfl (by rfl) hO rfl _ (by exact at0) (by rfl) (by simp only [Act.put, zA, zB, zC]; rfl) ?_)
        | fail)
      refine (TL _ hO.below).mono ?_
      rintro e9 u ⟨C1, C2, C3, C4, C5, r1, r2, r3, r4, r5, F, rfl, hvo, hb9⟩
      replace hO := hO.call hb9
      clear hb9
      simp only [List.cons_append, List.nil_append] at hO
      go_wp2_with (first
        | ((with_reducible refine (PL _ _ (hO.rdp 0 rfl hvo)).mono ?_); rintro e u ⟨rfl, hb⟩; (replace hO := hO.step hb; clear hb))
        | ((with_reducible refine wpl_load ?_); refine wpList_load_field rfl (by rfl) hO rfl _ (by exact at1) (by rfl) (by simp only [Act.put, zA, zB, zC]; rfl) ?_)
        | fail)
      clear hvo
      refine (TC _ hO.below).mono ?_
      rintro e9 u ⟨C1, C2, C3, C4, C5, r1, r2, r3, r4, r5, F, rfl, hvo, hb9⟩
      replace hO := hO.call hb9
      clear hb9
      simp only [List.cons_append, List.nil_append] at hO
      go_wp2_with (first
        | ((with_reducible refine (PC _ _ (hO.rdp 0 rfl hvo)).mono ?_); rintro e u ⟨rfl, hb⟩; (replace hO := hO.step hb; clear hb))
        | fail)
      go_ret
      exact ⟨ret_str HF.out.symm, hO.below⟩

def fvS (t : VT) : ByteArray := if isV t then fmF t else ⟨#[]⟩
theorem impl_fv (t : VT) (vs : List Value) (w : World) (hv : RdV w t vs) (hz : szV t ≤ 1048576) : Calls Try.prog 44 #[.agg vs.toArray] w fun e w' => e = .returned (.string (fvS t)) ∧ Below w.heap.size w w' := by
  have CA := fun u (hb : Below w.heap.size w u) => impl_isVec t _ u (hv.grow hb) hz
  have CF := fun (hq : isV t = true) u (hb : Below w.heap.size w u) => impl_ful t (isV_pv hq) _ u (hv.grow hb) hz
  have HE : Hid (fvS t = if isV t then fmF t else ⟨#[]⟩) := Lib.hid rfl
  obtain ⟨q, hq⟩ : ∃ q, isV t = q := ⟨_, rfl⟩
  rw [hq] at CA CF HE
  obtain ⟨xk, xi, xp, xn, xc, xl, xo, xe⟩ := t
  obtain ⟨Ai, Ap, An, Ac, Al, ci, cp, cn, cc, cl, pvs, rfl, _⟩ := hv.open
  clear hv hz hq
  cases q with
  | false =>
    go_enter Try.func44, Try.ntmps44
    have hO := Own.nil w
    go_wp2_with (first
      | ((with_reducible refine (CA _ hO.below).mono ?_); rintro e u ⟨rfl, hb⟩; (replace hO := hO.step hb; clear hb))
      | ((with_reducible refine wpl_box ?_); refine wpList_box_own rfl (by rfl) hO rfl rfl (fun b => by simp only [Act.put, zA, zB, zC]; rfl) ?_; (refine nm 0 rfl ?_; clear hO; intro b0 u hO); simp only [zL, zK] at hO)
      | ((with_reducible refine wpl_load ?_); refine wpList_load_box rfl (by rfl) hO rfl _ (by exact at0) (by rfl) (by simp only [Act.put, zA, zB, zC]; rfl) ?_)
      | fail)
    go_ret
    exact ⟨ret_str (by rw [HE.out]; rfl), hO.below⟩
  | true =>
    replace CF := fun u hb => CF rfl u hb
    go_enter Try.func44, Try.ntmps44
    have hO := Own.nil w
    go_wp2_with (first
      | ((with_reducible refine (CA _ hO.below).mono ?_); rintro e u ⟨rfl, hb⟩; (replace hO := hO.step hb; clear hb))
      | ((with_reducible refine (CF _ hO.below).mono ?_); rintro e u ⟨rfl, hb⟩; (replace hO := hO.step hb; clear hb))
      | ((with_reducible refine wpl_box ?_); refine wpList_box_own rfl (by rfl) hO rfl rfl (fun b => by simp only [Act.put, zA, zB, zC]; rfl) ?_; (refine nm 0 rfl ?_; clear hO; intro b0 u hO); simp only [zL, zK] at hO)
      | ((with_reducible refine wpl_load ?_); refine wpList_load_box rfl (by rfl) hO rfl _ (by exact at0) (by rfl) (by simp only [Act.put, zA, zB, zC]; rfl) ?_)
      | fail)
    go_ret
    exact ⟨ret_str (by rw [HE.out]; rfl), hO.below⟩

end Go.Proofs.Ytmofcbpabdbjlaa
