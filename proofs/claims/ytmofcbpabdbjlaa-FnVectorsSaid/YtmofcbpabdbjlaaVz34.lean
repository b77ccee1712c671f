/-
  What is proved: what CombineVectors (of the program) returns.
  Condition: arguments of size at most 1048576.
-/
import Derived.Deep.CutRange
import Derived.Test.YtmofcbpabdbjlaaVz6
import Derived.Test.YtmofcbpabdbjlaaVz11
import Derived.Test.YtmofcbpabdbjlaaVz24
import Derived.Test.YtmofcbpabdbjlaaVz29
import Derived.Test.YtmofcbpabdbjlaaVz33
namespace Go.Proofs.Ytmofcbpabdbjlaa

set_option maxRecDepth 8000

open Go.RowKit Go.ChangeShapes Go.WideShapes Go.Deep

set_option linter.unusedVariables false

set_option linter.unusedSimpArgs false

def lkI (k : Int) : Int := if k = 5 then 4 else k

def vz : VT := vecI 0 []

/-- kind, length, items, parts and names of the first m parts put together -/
def cbK (ps : List VT) : Nat → Int
  | 0 => 0
  | m + 1 => max (cbK ps m) (lkI (ps.getD m vz).kind)

def cbL (ps : List VT) : Nat → Nat
  | 0 => 0
  | m + 1 => cbL ps m + lenV (ps.getD m vz)

def cbI (K : Int) (ps : List VT) : Nat → List It
  | 0 => []
  | m + 1 => cbI K ps m ++ (cvT K (ps.getD m vz)).items

def cbP (K : Int) (ps : List VT) : Nat → List VT
  | 0 => []
  | m + 1 => cbP K ps m ++ (cvT K (ps.getD m vz)).parts

def cbM (lab : ByteArray) (ns : List ByteArray) (n j : Nat) : List ByteArray := (List.range j).map (nmC lab ns n)

def cbN (ls : List ByteArray) (ps : List VT) : Nat → List ByteArray
  | 0 => []
  | m + 1 => cbN ls ps m ++ cbM (ls.getD m ⟨#[]⟩) (ps.getD m vz).names (lenV (ps.getD m vz)) (lenV (ps.getD m vz))

theorem cbM_succ (lab : ByteArray) (ns : List ByteArray) (n j : Nat) : cbM lab ns n (j + 1) = cbM lab ns n j ++ [nmC lab ns n j] := by
  unfold cbM
  rw [List.range_succ, List.map_append]
  rfl

theorem cbM_len (lab : ByteArray) (ns : List ByteArray) (n j : Nat) : (cbM lab ns n j).length = j := by simp [cbM]

theorem za6 {α : Type} {l : List α} {m : Nat} (h : m < l.length) (z : α) : l.getD m z = l[m] := by simp [List.getD_eq_getElem?_getD, h]

def cbV (K : Int) (ps : List VT) (ls : List ByteArray) : VT := .mk K (cbI K ps ps.length) (cbP K ps ps.length) (tdN (cbN ls ps ps.length)) [] [] 0 0

def cbG (K : Int) (ps : List VT) : Bool := decide (cbL ps ps.length ≤ 40) && ps.all (coB K)

def cbB (ps : List VT) (ls : List ByteArray) : Bool := decide (ls.length = 0) || decide (ls.length = ps.length)

def labS : ByteArray := ⟨#[105, 110, 118, 97, 108, 105, 100, 32, 108, 97, 98, 101, 108, 115]⟩

def cbT (ps : List VT) (ls : List ByteArray) : VT := if ps.all isV then (if cbB ps ls then (if cbG (cbK ps ps.length) ps then (if isV (cbV (cbK ps ps.length) ps ls) then cbV (cbK ps ps.length) ps ls else vecI 0 []) else vecI 0 []) else vecI 0 []) else vecI 0 []

def cbS (ps : List VT) (ls : List ByteArray) : ByteArray := if ps.all isV then (if cbB ps ls then (if cbG (cbK ps ps.length) ps then (if isV (cbV (cbK ps ps.length) ps ls) then ⟨#[]⟩ else bigS) else bigS) else labS) else badS

theorem cbL_mono (ps : List VT) {m n : Nat} (h : m ≤ n) : cbL ps m ≤ cbL ps n := by
  induction h with
  | refl => exact Nat.le_refl _
  | step _ ih => exact Nat.le_trans ih (Nat.le_add_right _ _)

theorem cbG_no {K : Int} {ps : List VT} {m : Nat} (h : m < ps.length) (hc : coB K ps[m] = false) : cbG K ps = false := by
  unfold cbG
  rw [List.all_eq_false.2 ⟨_, List.getElem_mem h, by simp [hc]⟩, Bool.and_false]

theorem cbG_long {K : Int} {ps : List VT} {m : Nat} (h : m < ps.length) (hc : 40 < cbL ps m + lenV ps[m]) : cbG K ps = false := by
  have h1 : cbL ps (m + 1) = cbL ps m + lenV ps[m] := by
    show cbL ps m + lenV (ps.getD m vz) = _
    rw [za6 h]
  have h2 := cbL_mono ps (show m + 1 ≤ ps.length from h)
  unfold cbG
  rw [decide_eq_false (by omega), Bool.false_and]

theorem cbG_yes {K : Int} {ps : List VT} (h1 : cbL ps ps.length ≤ 40) (h2 : ∀ p ∈ ps, coB K p = true) : cbG K ps = true := by
  unfold cbG
  rw [decide_eq_true h1, Bool.true_and, List.all_eq_true]
  exact h2

theorem coB_facts {K : Int} {t : VT} (h : coB K t = true) : isV t = true ∧ 0 ≤ K ∧ K ≤ 4 ∧ cvB K t = true := by
  unfold coB at h
  simp only [Bool.and_eq_true, decide_eq_true_eq] at h
  exact ⟨h.1.1.1.1, h.1.1.1.2, h.1.1.2, h.1.2⟩

theorem cv_form {K : Int} {t : VT} (h : coB K t = true) : cvT K t = .mk K (cvT K t).items (cvT K t).parts t.names [] [] 0 0 ∧ (cvT K t).items.length + (cvT K t).parts.length = lenV t := by
  obtain ⟨h1, h2, h3, h4⟩ := coB_facts h
  obtain ⟨k, is, ps, ns, cs, ls, c, e⟩ := t
  have hf := isV_facts h1
  have h4 : (if k = 5 then decide (K = 4) else decide (k ≤ K)) = true := h4
  have e0 : cvT K (.mk k is ps ns cs ls c e) = if k = 5 then .mk K [] [.mk k is ps ns cs ls c e] ns [] [] 0 0 else if K < k then vecI 0 [] else if K = 4 then .mk 4 [] (ps ++ is.map (oneV k)) ns [] [] 0 0 else vecN K (is.map (cvI k K)) ns := rfl
  have e1 : lenV (.mk k is ps ns cs ls c e) = if k = 5 then 1 else is.length + ps.length := rfl
  by_cases k5 : k = 5
  · rw [if_pos k5] at e0 e1
    rw [e0, e1]
    exact ⟨rfl, rfl⟩
  · rw [if_neg k5] at e0 e1 h4
    have hk := of_decide_eq_true h4
    rw [if_neg (by omega)] at e0
    by_cases k4 : K = 4
    · rw [if_pos k4] at e0
      rw [e0, e1, k4]
      refine ⟨rfl, ?_⟩
      show 0 + (ps ++ is.map (oneV k)).length = _
      rw [List.length_append, List.length_map]
      omega
    · rw [if_neg k4] at e0
      rw [e0, e1]
      refine ⟨rfl, ?_⟩
      show (is.map (cvI k K)).length + 0 = _
      rw [List.length_map]
      have := hf.2.2.2.2.1
      omega

theorem isV_kd {t : VT} (h : isV t = true) : 0 ≤ t.kind ∧ t.kind ≤ 5 := by
  obtain ⟨k, is, qs, ns, cs, ls, c, e⟩ := t
  exact (isV_facts h).1

theorem isV_ln {t : VT} (h : isV t = true) : lenV t ≤ 40 := by
  obtain ⟨k, is, qs, ns, cs, ls, c, e⟩ := t
  exact (isV_facts h).2.1

theorem cbK_rng {ps : List VT} (h : ∀ p ∈ ps, isV p = true) : ∀ m, 0 ≤ cbK ps m ∧ cbK ps m ≤ 4
  | 0 => ⟨Int.le_refl _, by show (0 : Int) ≤ 4; omega⟩
  | m + 1 => by
    have ih := cbK_rng h m
    have h2 : 0 ≤ (ps.getD m vz).kind ∧ (ps.getD m vz).kind ≤ 5 := by
      by_cases hm : m < ps.length
      · rw [za6 hm]
        exact isV_kd (h _ (List.getElem_mem hm))
      · have : ps.getD m vz = vz := by simp [List.getD_eq_getElem?_getD, hm]
        rw [this]
        exact ⟨Int.le_refl _, by show (0 : Int) ≤ 5; omega⟩
    have h3 : 0 ≤ lkI (ps.getD m vz).kind ∧ lkI (ps.getD m vz).kind ≤ 4 := by unfold lkI; split <;> omega
    show 0 ≤ max (cbK ps m) (lkI (ps.getD m vz).kind) ∧ max (cbK ps m) (lkI (ps.getD m vz).kind) ≤ 4
    omega

/-- sizes -/
theorem cv_parts_sz {K : Int} {t : VT} (h : coB K t = true) : szL (cvT K t).parts ≤ 2 * (1 + szV t) ∧ szI (cvT K t).items ≤ 61 * (1 + szV t) := by
  have hi := isV_itemB (coB_facts h).1
  have hb := (coB_facts h).2.2.2
  obtain ⟨k, is, ps, ns, cs, ls, c, e⟩ := t
  have hb : (if k = 5 then decide (K = 4) else decide (k ≤ K)) = true := hb
  have HT : szV (.mk k is ps ns cs ls c e) = szI is + szL ps + szS ns + szS cs + szS ls := rfl
  have HI : szI is = is.length + itz is := rfl
  have e0 : cvT K (.mk k is ps ns cs ls c e) = if k = 5 then .mk K [] [.mk k is ps ns cs ls c e] ns [] [] 0 0 else if K < k then vecI 0 [] else if K = 4 then .mk 4 [] (ps ++ is.map (oneV k)) ns [] [] 0 0 else vecN K (is.map (cvI k K)) ns := rfl
  rw [e0]
  split
  · refine ⟨?_, Nat.zero_le _⟩
    show 1 + szV (.mk k is ps ns cs ls c e) + 0 ≤ _
    omega
  · rename_i k5
    rw [if_neg k5] at hb
    have hk := of_decide_eq_true hb
    rw [if_neg (by omega)]
    split
    · refine ⟨?_, Nat.zero_le _⟩
      show szL (ps ++ is.map (oneV k)) ≤ _
      rw [szL_app, szL_ones]
      omega
    · refine ⟨Nat.zero_le _, ?_⟩
      have hz := itz_sh (z := 60) (l := is.map (cvI k K)) (by
        intro x hx
        obtain ⟨y, hy, rfl⟩ := List.mem_map.1 hx
        exact cvI_text (hi y hy))
      show (is.map (cvI k K)).length + itz (is.map (cvI k K)) ≤ _
      rw [List.length_map] at hz ⊢
      omega

theorem szP_take {ps : List VT} {m : Nat} (h : m < ps.length) : szL (ps.take (m + 1)) = szL (ps.take m) + (1 + szV ps[m]) := by
  rw [zat h, szL_app]
  simp [szL]

theorem stz_bd {l : List ByteArray} {z : Nat} (h : ∀ s ∈ l, s.size ≤ z) : stz l ≤ z * l.length := by
  induction l with
  | nil => simp [stz]
  | cons x l ih =>
    have h1 := h x (List.mem_cons_self)
    have h2 := ih (fun s hs => h s (List.mem_cons_of_mem _ hs))
    simp only [stz, List.length_cons, Nat.mul_succ]
    omega

theorem cb_sizes {K : Int} {ps : List VT} (h : ∀ p ∈ ps, coB K p = true) : ∀ m, m ≤ ps.length → szL (cbP K ps m) ≤ 2 * szL (ps.take m) ∧ szI (cbI K ps m) ≤ 61 * szL (ps.take m)
  | 0, _ => ⟨Nat.zero_le _, Nat.zero_le _⟩
  | m + 1, hm => by
    have ih := cb_sizes h m (by omega)
    have h1 := cv_parts_sz (h _ (List.getElem_mem (show m < ps.length from hm)))
    have e1 : cbP K ps (m + 1) = cbP K ps m ++ (cvT K ps[m]).parts := by
      show cbP K ps m ++ (cvT K (ps.getD m vz)).parts = _
      rw [za6 (show m < ps.length from hm)]
    have e2 : cbI K ps (m + 1) = cbI K ps m ++ (cvT K ps[m]).items := by
      show cbI K ps m ++ (cvT K (ps.getD m vz)).items = _
      rw [za6 (show m < ps.length from hm)]
    rw [e1, e2, szL_app, szP_take (show m < ps.length from hm)]
    have e3 : szI (cbI K ps m ++ (cvT K ps[m]).items) = szI (cbI K ps m) + szI (cvT K ps[m]).items := by
      unfold szI
      rw [List.length_append, itz_app]
      omega
    rw [e3]
    omega

theorem cb_lens {K : Int} {ps : List VT} {ls : List ByteArray} : ∀ m, m ≤ ps.length → (∀ p ∈ ps.take m, coB K p = true) → (cbI K ps m).length + (cbP K ps m).length = cbL ps m ∧ (cbN ls ps m).length = cbL ps m
  | 0, _, _ => ⟨rfl, rfl⟩
  | m + 1, hm, h => by
    have hlt : m < ps.length := hm
    rw [zat hlt] at h
    have ih := cb_lens (ls := ls) m (by omega) (fun p hp => h p (List.mem_append_left _ hp))
    have h1 := (cv_form (h _ (List.mem_append_right _ (List.mem_singleton.2 rfl)))).2
    have h2 : (cbN ls ps (m + 1)).length = (cbN ls ps m).length + lenV ps[m] := by
      show (cbN ls ps m ++ cbM _ _ _ _).length = _
      rw [List.length_append, cbM_len, za6 hlt]
    have h3 : cbL ps (m + 1) = cbL ps m + lenV ps[m] := by
      show cbL ps m + lenV (ps.getD m vz) = _
      rw [za6 hlt]
    have h4 : (cbI K ps (m + 1)).length = (cbI K ps m).length + (cvT K ps[m]).items.length := by
      show (cbI K ps m ++ (cvT K (ps.getD m vz)).items).length = _
      rw [List.length_append, za6 hlt]
    have h5 : (cbP K ps (m + 1)).length = (cbP K ps m).length + (cvT K ps[m]).parts.length := by
      show (cbP K ps m ++ (cvT K (ps.getD m vz)).parts).length = _
      rw [List.length_append, za6 hlt]
    omega

theorem names_short {t : VT} (h : isV t = true) : ∀ s ∈ t.names, s.size ≤ 60 := by
  obtain ⟨k, is, ps, ns, cs, ls, c, e⟩ := t
  have hs := (node_facts (isV_node h)).2.2.2.2.2.1
  intro s hm
  unfold za1 at hs
  rw [List.all_eq_true] at hs
  exact of_decide_eq_true (hs s hm)

theorem stz_in {l : List ByteArray} {s : ByteArray} (h : s ∈ l) : s.size ≤ stz l := by
  obtain ⟨k, hk, rfl⟩ := List.mem_iff_getElem.1 h
  exact stz_mem hk

theorem cbN_sz {ps : List VT} {ls : List ByteArray} {z : Nat} (hz : 60 ≤ z) (hv : ∀ p ∈ ps, isV p = true) (hl : ∀ s ∈ ls, s.size ≤ z) : ∀ m, ∀ s ∈ cbN ls ps m, s.size ≤ 2 * z + 21
  | 0, s, h => by cases h
  | m + 1, s, h => by
    rcases List.mem_append.1 h with h | h
    · exact cbN_sz hz hv hl m s h
    · unfold cbM at h
      obtain ⟨j, hj, rfl⟩ := List.mem_map.1 h
      have hj := List.mem_range.1 hj
      have h1 : isV (ps.getD m vz) = true := by
        by_cases hm : m < ps.length
        · rw [za6 hm]
          exact hv _ (List.getElem_mem hm)
        · have : ps.getD m vz = vz := by simp [List.getD_eq_getElem?_getD, hm]
          rw [this]
          decide
      have h3 : lenV (ps.getD m vz) ≤ 40 := isV_ln h1
      exact nmC_size (getD_len hl) (getD_len (fun s hs => Nat.le_trans (names_short h1 s hs) hz)) (by omega)

theorem cbV_sz {K : Int} {ps : List VT} {ls : List ByteArray} (h : ∀ p ∈ ps, coB K p = true) (h40 : cbL ps ps.length ≤ 40) (hz : szL ps + szS ls ≤ 1048576) : szV (cbV K ps ls) ≤ 268435456 := by
  have HT : szV (cbV K ps ls) = szI (cbI K ps ps.length) + szL (cbP K ps ps.length) + szS (tdN (cbN ls ps ps.length)) + szS [] + szS [] := rfl
  have h1 := cb_sizes h ps.length (Nat.le_refl _)
  rw [List.take_length] at h1
  have h2 := (cb_lens (ls := ls) ps.length (Nat.le_refl _) (by rw [List.take_length]; exact h)).2
  have h3 := stz_bd (cbN_sz (ps := ps) (ls := ls) (z := 1048576) (by decide) (fun p hp => (coB_facts (h p hp)).1) (fun s hs => by
    have := stz_in hs
    unfold szS at hz
    omega) ps.length)
  have h4 := tdN_size (cbN ls ps ps.length)
  have h5 : szS (cbN ls ps ps.length) = (cbN ls ps ps.length).length + stz (cbN ls ps ps.length) := rfl
  have h6 : szS ([] : List ByteArray) = 0 := rfl
  rw [HT, h6]
  rw [h2] at h3 h5
  have h7 : (2 * 1048576 + 21) * cbL ps ps.length ≤ (2 * 1048576 + 21) * 40 := Nat.mul_le_mul_left _ h40
  omega

theorem VL.appC {ps qs : List VT} {pvs qvs : List (List Value)} {Ls Ms : List (List Res)} (h : VL ps pvs Ls) (h' : VL qs qvs Ms) : VL (ps ++ qs) (pvs ++ qvs) (Ls ++ Ms) := by
  obtain ⟨h1, h2, h3⟩ := h
  obtain ⟨g1, g2, g3⟩ := h'
  refine ⟨by simp [h1, g1], by simp [h2, g2], fun i a b c => ?_⟩
  by_cases hi : i < ps.length
  · rw [List.getElem_append_left hi, List.getElem_append_left (by omega), List.getElem_append_left (by omega)]
    exact h3 i hi _ _
  · simp only [List.length_append] at a b c
    have e1 : (pvs ++ qvs)[i]'(by simpa using b) = qvs[i - ps.length]'(by omega) := by rw [List.getElem_append_right (by omega)]; simp only [h1]
    have e2 : (Ls ++ Ms)[i]'(by simpa using c) = Ms[i - ps.length]'(by omega) := by rw [List.getElem_append_right (by omega)]; simp only [h2]
    rw [List.getElem_append_right (by omega), e1, e2]
    exact g3 _ _ _ _

theorem VL.oneC {ps : List VT} {pvs : List (List Value)} {Ls : List (List Res)} (h : VL ps pvs Ls) : pvs.flatten.all (·.oneCell') = true := by
  rw [List.all_eq_true]
  intro x hx
  obtain ⟨l, hl, hx⟩ := List.mem_flatten.1 hx
  obtain ⟨i, hi, rfl⟩ := List.mem_iff_getElem.1 hl
  have := (h.at_ i (by rw [← h.len]; exact hi) hi (by rw [h.len', ← h.len]; exact hi)).one
  exact List.all_eq_true.1 this x hx

theorem RdV.sln {w : World} {k : Int} {is : List It} {ps : List VT} {ns cs ls : List ByteArray} {c e : Int} {v0 v1 v2 v4 v5 v6 v7 : Value} {An : Option Addr} {n cn : Nat} (h : RdV w (.mk k is ps ns cs ls c e) [v0, v1, v2, .slice An n cn, v4, v5, v6, v7]) : Sl w 1 An ns.length (stc ns) := by
  obtain ⟨Ai, Ap, Bn, Ac, Al, ci, cp, dn, cc, cl, pvs, e, h1, h2, h3, h4, h5⟩ := h.open
  simp only [List.cons.injEq, Value.slice.injEq] at e
  rw [e.2.2.2.1.1]
  exact h3

theorem RetVB.exC {xk : Int} {xi : List It} {xp : List VT} {xn xc xl : List ByteArray} {xo xe : Int} {b : Bool} {u w' : World} {e : Ending} (h : RetVB (.mk xk xi xp xn xc xl xo xe) b u e w') :
    ∃ (Ci Cp Cn Cc Cl : Option Addr) (ri rp rn rc rl : Nat) (F : List Res), e = .returned (.tuple #[.agg #[.int .i64 xk, .slice Ci xi.length ri, .slice Cp xp.length rp, .slice Cn xn.length rn, .slice Cc xc.length rc, .slice Cl xl.length rl, .int .i64 xo, .int .i64 xe], .bool b]) ∧
      VO (.mk xk xi xp xn xc xl xo xe) [.int .i64 xk, .slice Ci xi.length ri, .slice Cp xp.length rp, .slice Cn xn.length rn, .slice Cc xc.length rc, .slice Cl xl.length rl, .int .i64 xo, .int .i64 xe] F ∧ Own u [pack F] w' := by
  obtain ⟨vs, F, he, hvo, hO⟩ := h
  obtain ⟨Ai, Ap, An, Ac, Al, ci, cp, cn, cc, cl, pvs, Ls, rfl, _⟩ := hvo.open
  exact ⟨Ai, Ap, An, Ac, Al, ci, cp, cn, cc, cl, F, he, hvo, hO⟩

set_option maxRecDepth 20000 in
set_option maxHeartbeats 8000000 in
theorem impl_cb (A B : Option Addr) (c d : Nat) (ps : List VT) (pvs0 : List (List Value)) (ls : List ByteArray) (w : World) (h : RdL w A ps pvs0) (h2 : Sl w 1 B ls.length (stc ls)) (hz : szL ps + szS ls ≤ 1048576) :
    Calls Try.prog 50 #[.slice A ps.length c, .slice B ls.length d] w (RetVS (cbT ps ls) (cbS ps ls) w) := by
  have z1 : szL ps ≤ 1048576 := by omega
  have z2 : ls.length ≤ 1048576 := by unfold szS at hz; omega
  have z3 : ps.length ≤ 1048576 := by have := szL_eq ps; omega
  have HZ := Lib.hid hz
  have HZ1 := Lib.hid z1
  have HLS : Hid (∀ s ∈ ls, s.size ≤ 1048576) := Lib.hid (fun s hs => by
    have := stz_in hs
    unfold szS at hz
    omega)
  have HT : Hid (cbT ps ls = if ps.all isV then (if cbB ps ls then (if cbG (cbK ps ps.length) ps then (if isV (cbV (cbK ps ps.length) ps ls) then cbV (cbK ps ps.length) ps ls else vecI 0 []) else vecI 0 []) else vecI 0 []) else vecI 0 []) := Lib.hid rfl
  have HS : Hid (cbS ps ls = if ps.all isV then (if cbB ps ls then (if cbG (cbK ps ps.length) ps then (if isV (cbV (cbK ps ps.length) ps ls) then ⟨#[]⟩ else bigS) else bigS) else labS) else badS) := Lib.hid rfl
  obtain ⟨X, hX⟩ : ∃ X, cbT ps ls = X := ⟨_, rfl⟩
  obtain ⟨Y, hY⟩ : ∃ Y, cbS ps ls = Y := ⟨_, rfl⟩
  rw [hX] at HT
  rw [hY] at HS
  rw [hX, hY]
  clear hX hY hz z1
  go_enter Try.func50, Try.ntmps50
  have hO := Own.nil w
  go_wp2_with (first | ((with_reducible refine zac ?_); refine zal rfl hO rfl ?_; (first | (refine nm 0 rfl ?_; clear hO; intro b0 u hO) | (refine nm 1 rfl ?_; clear hO; intro b1 u hO) | fail); simp only [zL, zK] at hO) | ((with_reducible refine zab ?_); refine zsc rfl hO rfl _ (by exact at1) ?_; clear hO; intro u hO; simp only [zC, zB] at hO) | fail)
  go_loopw [18] (fun i u => ∃ (m : Nat), m ≤ ps.length ∧ i = .int .i64 m ∧ Hid (∀ p ∈ ps.take m, isV p = true) ∧ Own w [box b0 29 [.int .i64 0, .slice none 0 0, .slice none 0 0, .slice none 0 0, .slice none 0 0, .slice none 0 0, .int .i64 0, .int .i64 0], box b1 29 [.int .i64 (cbK ps m), .slice none 0 0, .slice none 0 0, .slice none 0 0, .slice none 0 0, .slice none 0 0, .int .i64 0, .int .i64 0]] u) (fun i _ => ps.length - (intOf i).toNat)
  case atStart => exact ⟨0, Nat.zero_le _, rfl, Lib.hid (by simp), hO⟩
  case round =>
    clear hO
    obtain ⟨m, hm, rfl, hall, hO⟩ := hrel
    by_cases hlt : m < ps.length
    · have hsz := szL_mem HZ1.out hlt
      have HTK := Lib.hid (zat hlt)
      have HK : Hid (cbK ps (m + 1) = max (cbK ps m) (lkI (ps[m]'hlt).kind)) := Lib.hid (by
        show max (cbK ps m) (lkI (ps.getD m vz).kind) = _
        rw [za6 hlt])
      have HALL := Lib.hid (fun (hc : isV (ps[m]'hlt) = false) => (show ps.all isV = false from List.all_eq_false.2 ⟨_, List.getElem_mem hlt, by simp [hc]⟩))
      obtain ⟨x, hx⟩ : ∃ x, ps[m]'hlt = x := ⟨_, rfl⟩
      obtain ⟨xk, xi, xp, xn, xc, xl, xo, xe⟩ := x
      obtain ⟨b, off, rfl, hb, Bi, Bp, Bn, Bc, Bl, di, dp, dn, dc, dl, hrd, e0, e1, e2, e3, e4, e5, e6, e7⟩ := h.ptc hO.below hlt hx
      rw [hx] at hsz HTK HK HALL
      have CI := fun u (hb : Below w.heap.size w u) => impl_isVec _ _ u (hrd.grow hb) hsz
      clear hx hsz
      cases hq : isV (.mk xk xi xp xn xc xl xo xe) with
      | false =>
        rw [hq] at CI
        have HF : Hid (X = vecI 0 []) := Lib.hid (by rw [HT.out, HALL.out hq]; rfl)
        have HG : Hid (Y = badS) := Lib.hid (by rw [HS.out, HALL.out hq]; rfl)
        clear hq HALL HK HTK
        go_wp2_with (first | ((with_reducible refine (CI _ hO.below).mono ?_); rintro e u ⟨rfl, hb⟩; (replace hO := hO.step hb; clear hb)) | (with_reducible refine zao ?_) | ((with_reducible refine zac ?_); refine zal rfl hO rfl ?_; (refine nm 2 rfl ?_; clear hO; intro b2 u hO); simp only [zL, zK] at hO) | ((with_reducible refine zaa ?_); refine zlb rfl hO rfl _ (by (first | exact at0 | exact at2 | fail)) ?_) | ((with_reducible refine zab ?_); refine zsc rfl hO rfl _ (by (first | exact at0 | exact at2 | fail)) ?_; clear hO; intro u hO; simp only [zC, zB] at hO) | fail)
        obtain ⟨F0, hvo0, hF⟩ := Own.vec0 u 0
        exact ⟨zap rfl hO rfl 0 at0 rfl rfl rfl ⟨_, _, by rw [HG.out]; rfl, by rw [HF.out]; exact hvo0, (hO.call hF).pick [0] (by decide)⟩⟩
      | true =>
        rw [hq] at CI
        have HA : Hid (∀ p ∈ ps.take (m + 1), isV p = true) := Lib.hid (by
          rw [HTK.out]
          intro p hp
          rcases List.mem_append.1 hp with hp | hp
          · exact hall.out p hp
          · rw [List.mem_singleton.1 hp]; exact hq)
        clear hq HALL HTK
        have CL := fun u => impl_listKind xk u
        obtain ⟨kk, hkk⟩ : ∃ q, (if xk = 5 then (4 : Int) else xk) = q := ⟨_, rfl⟩
        rw [hkk] at CL
        obtain ⟨ka, hka⟩ : ∃ q, cbK ps m = q := ⟨_, rfl⟩
        rw [hka] at hO HK
        obtain ⟨mk, hmk⟩ : ∃ q, (if ka < kk then kk else ka) = q := ⟨_, rfl⟩
        have HK2 : Hid (cbK ps (m + 1) = mk) := Lib.hid (by
          rw [HK.out, ← hmk]
          show max ka (if xk = 5 then 4 else xk) = _
          rw [hkk]
          split <;> omega)
        clear hkk hka HK
        go_wp2_with (first | ((with_reducible refine (CI _ hO.below).mono ?_); rintro e u ⟨rfl, hb⟩; (replace hO := hO.step hb; clear hb)) | ((with_reducible refine zac ?_); refine zal rfl hO rfl ?_; (refine nm 2 rfl ?_; clear hO; intro b2 u hO); simp only [zL, zK] at hO) | ((with_reducible refine zaa ?_); refine zlb rfl hO rfl _ (by (first | exact at0 | exact at2 | fail)) ?_) | ((with_reducible refine zab ?_); refine zsc rfl hO rfl _ (by exact at2) ?_; clear hO; intro u hO; simp only [zC, zB] at hO) | fail)
        clear e0 e1 e2 e3 e4 e5 e6 e7
        refine J.wp_region_c (n := 110) [0, 1, 2, 3, 4, 5, 6] [] (deps := fun i => [[], [0], [], [2], [2, 3], [0, 1, 2, 3, 4], [], []].getD i []) (fun _ _ _ => True) (r := 1) (lst := #[true, true, true, true, true, true, true, false]) (by kernel_rfl) (by kernel_rfl) (by kernel_rfl) rfl (by decide) (by kernel_rfl) hO ?_
        refine zcp (h := ?_)
        refine zcc (f := fun M u hO K hK => by (exact zad hO rfl rfl _ (by exact at1) (by rfl) (by rfl) (hK _ hO))) (h := ?_)
        refine zcp (h := ?_)
        refine zcc (f := fun M u hO K hK => by (exact zad hO rfl rfl _ (by exact at2) (by rfl) (by rfl) (hK _ hO))) (h := ?_)
        refine zcc (f := fun M u hO K hK => by (simp only [wp_at_zero, wp_at_succ]; go_step; refine (CL _).mono ?_; rintro e u ⟨rfl, hb⟩; exact hK _ (hO.step hb))) (h := ?_)
        refine zcp (h := ?_)
        refine zcp (h := ?_)
        refine J.Chain.nil ⟨?_, ?_⟩
        · exact J.Each.nil
        intro vs u hO hF
        clear hF
        simp only [List.flatMap_cons, List.flatMap_nil, List.append_nil, zL, zK] at hO
        simp only [J.putL]
        clear vs
        refine J.wpAny_one (i := 7) (by kernel_rfl) (by rfl) rfl fun K hK => ?_
        (refine zau hO rfl rfl _ (by exact at1) (zM rfl) (by simp only [Act.eval, zJ, zF, zD, zE, zP]; rfl) (by rfl) (by rfl) (by rfl) ?_; clear hO; intro u hO; simp only [zC, zB] at hO; refine hK _ _ ?_; clear hK K)
        refine wpAny_done (by kernel_rfl) ?_ _
        go_wp2_with fail
        replace hO := hO.pick [0, 1] (by decide)
        simp only [zN, zO, zE, zD] at hO
        rw [← HK2.out] at hO
        go_roundw
        case rel => exact ⟨m + 1, by omega, by go_num, HA, hO⟩
        case measure => simp [intOf]; omega
    · have hmn : m = ps.length := by omega
      subst hmn
      rw [List.take_length] at hall
      have HALL : ps.all isV = true := List.all_eq_true.2 hall.out
      have hKr := cbK_rng hall.out ps.length
      obtain ⟨K, hK⟩ : ∃ q, cbK ps ps.length = q := ⟨_, rfl⟩
      rw [hK] at hO HT HS hKr
      rw [HALL] at HT HS
      clear hK HALL hlt hm
      obtain ⟨k0, k4⟩ := hKr
      obtain ⟨qB, hqB⟩ : ∃ q, cbB ps ls = q := ⟨_, rfl⟩
      rw [hqB] at HT HS
      have HB : Hid ((decide (ls.length = 0) || decide (ls.length = ps.length)) = qB) := Lib.hid hqB
      clear hqB
      cases qB with
      | false =>
        have HF : Hid (X = vecI 0 []) := Lib.hid (by rw [HT.out]; rfl)
        have HG : Hid (Y = labS) := Lib.hid (by rw [HS.out]; rfl)
        have hb := HB.out
        rw [Bool.or_eq_false_iff, decide_eq_false_iff_not, decide_eq_false_iff_not] at hb
        obtain ⟨hb1, hb2⟩ := hb
        have f1 : 0 < ls.length := by omega
        have f2 : ((ls.length : Int) != (ps.length : Int)) = true := by simp; omega
        clear HT HS HB hb1 hb2
        go_wp2_with (first | (with_reducible refine zao ?_) | ((with_reducible refine zab ?_); refine zsc rfl hO rfl _ (by exact at0) ?_; clear hO; intro u hO; simp only [zC, zB] at hO) | fail)
        obtain ⟨F0, hvo0, hF⟩ := Own.vec0 u 0
        exact ⟨zap rfl hO rfl 0 at0 rfl rfl rfl ⟨_, _, by rw [HG.out]; rfl, by rw [HF.out]; exact hvo0, (hO.call hF).pick [0] (by decide)⟩⟩
      | true =>
        have HT' : Hid (X = if cbG K ps then (if isV (cbV K ps ls) then cbV K ps ls else vecI 0 []) else vecI 0 []) := Lib.hid (by rw [HT.out]; rfl)
        have HS' : Hid (Y = if cbG K ps then (if isV (cbV K ps ls) then ⟨#[]⟩ else bigS) else bigS) := Lib.hid (by rw [HS.out]; rfl)
        have HLB : Hid (ls.length = 0 ∨ ls.length = ps.length) := Lib.hid (by
          have hb := HB.out
          rw [Bool.or_eq_true, decide_eq_true_eq, decide_eq_true_eq] at hb
          exact hb)
        clear HT HS HB
        go_upto_region 9 with fail
        go_cut [43] from 34 to 43 (fun s u => s = .bool false ∧ Own w [box b0 29 [.int .i64 0, .slice none 0 0, .slice none 0 0, .slice none 0 0, .slice none 0 0, .slice none 0 0, .int .i64 0, .int .i64 0], box b1 29 [.int .i64 K, .slice none 0 0, .slice none 0 0, .slice none 0 0, .slice none 0 0, .slice none 0 0, .int .i64 0, .int .i64 0]] u)
        case first =>
          by_cases f1 : 0 < ls.length
          · have f2 : ((ls.length : Int) != (ps.length : Int)) = false := by rcases HLB.out with h | h <;> simp <;> omega
            go_wp2_with fail
            go_meet
            case rel => exact ⟨rfl, hO⟩
          · go_wp2_with fail
            go_meet
            case rel => exact ⟨rfl, hO⟩
        case rest =>
          clear hO
          obtain ⟨rfl, hO⟩ := hcut
          go_wp2_with fail
          replace hO := ((hO.addNil 83 3).addNil 29 8).addNil 9 1
          simp only [List.cons_append, List.nil_append] at hO
          replace hO := Own.pack (F := []) hO
          skip
          go_loopw [47] (fun i u => ∃ (m : Nat) (A1 A2 A3 : Option Addr) (c1 c2 c3 : Nat) (pvs : List (List Value)) (Ls : List (List Res)), m ≤ ps.length ∧ i = .int .i64 m ∧ Hid (∀ p ∈ ps.take m, coB K p = true) ∧ Hid (cbL ps m ≤ 40) ∧ VL (cbP K ps m) pvs Ls ∧ Own w [pack Ls.flatten, row 83 3 (.slice A1 (cbI K ps m).length c1) (cbI K ps m).length (itc (cbI K ps m)), row 29 8 (.slice A2 (cbP K ps m).length c2) (cbP K ps m).length pvs.flatten, row 9 1 (.slice A3 (cbN ls ps m).length c3) (cbN ls ps m).length (stc (cbN ls ps m)), box b0 29 [.int .i64 0, .slice none 0 0, .slice none 0 0, .slice none 0 0, .slice none 0 0, .slice none 0 0, .int .i64 0, .int .i64 0], box b1 29 [.int .i64 K, .slice A1 (cbI K ps m).length c1, .slice A2 (cbP K ps m).length c2, .slice A3 (cbN ls ps m).length c3, .slice none 0 0, .slice none 0 0, .int .i64 0, .int .i64 0]] u) (fun i _ => ps.length - (intOf i).toNat)
          case atStart => exact ⟨0, none, none, none, 0, 0, 0, [], [], Nat.zero_le _, rfl, Lib.hid (by simp), Lib.hid (Nat.zero_le _), VL.nil, hO.pick [0, 3, 4, 5, 1, 2] (by decide)⟩
          case round =>
            clear hO
            obtain ⟨m, A1, A2, A3, c1, c2, c3, pvs, Ls, hm, rfl, hco, h40, hvl, hO⟩ := hrel
            have HLN := Lib.hid (cb_lens (K := K) (ls := ls) m hm hco.out)
            by_cases hlt : m < ps.length
            · have hsz := szL_mem HZ1.out hlt
              have hxv := hall.out _ (List.getElem_mem hlt)
              have HTK := Lib.hid (zat hlt)
              have HN1 : Hid (cbL ps (m + 1) = cbL ps m + lenV (ps[m]'hlt)) := Lib.hid (by
                show cbL ps m + lenV (ps.getD m vz) = _
                rw [za6 hlt])
              have S1 : Hid (cbI K ps (m + 1) = cbI K ps m ++ (cvT K (ps[m]'hlt)).items) := Lib.hid (by
                show cbI K ps m ++ (cvT K (ps.getD m vz)).items = _
                rw [za6 hlt])
              have S2 : Hid (cbP K ps (m + 1) = cbP K ps m ++ (cvT K (ps[m]'hlt)).parts) := Lib.hid (by
                show cbP K ps m ++ (cvT K (ps.getD m vz)).parts = _
                rw [za6 hlt])
              have S3 : Hid (cbN ls ps (m + 1) = cbN ls ps m ++ cbM (ls.getD m ⟨#[]⟩) (ps[m]'hlt).names (lenV (ps[m]'hlt)) (lenV (ps[m]'hlt))) := Lib.hid (by
                show cbN ls ps m ++ cbM _ (ps.getD m vz).names _ _ = _
                rw [za6 hlt])
              have HNO := Lib.hid (fun hc => cbG_no (K := K) hlt hc)
              have HLO := Lib.hid (fun hc => cbG_long (K := K) hlt hc)
              have HNS := Lib.hid (names_short hxv)
              have HX40 := Lib.hid (isV_ln hxv)
              have CO := fun u hb vs (hr : RdV w (ps[m]'hlt) vs) => impl_co K (ps[m]'hlt) vs u (hr.grow (w' := u) hb) hsz
              have HCV := Lib.hid (fun hc => cv_form (K := K) (t := ps[m]'hlt) hc)
              have HCN := Lib.hid (fun hc => co_no (kind := K) (t := ps[m]'hlt) hc)
              have HCY := Lib.hid (fun hc => co_yes (kind := K) (t := ps[m]'hlt) hc)
              obtain ⟨x, hx⟩ : ∃ x, ps[m]'hlt = x := ⟨_, rfl⟩
              obtain ⟨xk, xi, xp, xn, xc, xl, xo, xe⟩ := x
              obtain ⟨b, off, rfl, hb, Bi, Bp, Bn, Bc, Bl, di, dp, dn, dc, dl, hrd, e0, e1, e2, e3, e4, e5, e6, e7⟩ := h.ptc hO.below hlt hx
              rw [hx] at hsz HTK HN1 S1 S2 S3 HNO HLO HNS HX40 CO HCV HCN HCY hxv
              replace CO := fun u hb => CO u hb _ hrd
              clear hx
              have xlen : (xi.length : Int) + xp.length ≤ 9223372036854775807 := by
                have h1 := szL_eq xp
                have h2 : szV (.mk xk xi xp xn xc xl xo xe) = szI xi + szL xp + szS xn + szS xc + szS xl := rfl
                unfold szI at h2
                omega
              have HL1 : Hid (lenN xk xi.length xp.length = lenV (.mk xk xi xp xn xc xl xo xe)) := Lib.hid rfl
              have hxn : xn.length ≤ 1048576 := by
                have h2 : szV (.mk xk xi xp xn xc xl xo xe) = szI xi + szL xp + szS xn + szS xc + szS xl := rfl
                unfold szS at h2
                omega
              replace HNS : Hid (∀ s ∈ xn, s.size ≤ 60) := HNS
              replace S3 : Hid (cbN ls ps (m + 1) = cbN ls ps m ++ cbM (ls.getD m ⟨#[]⟩) xn (lenV (.mk xk xi xp xn xc xl xo xe)) (lenV (.mk xk xi xp xn xc xl xo xe))) := S3
              obtain ⟨n, hn⟩ : ∃ n, lenV (.mk xk xi xp xn xc xl xo xe) = n := ⟨_, rfl⟩
              rw [hn] at HN1 S3 HLO HX40 HCV HL1
              have n40 := HX40.out
              have HLAB := Lib.hid (getD_len (ns := ls) (k := m) HLS.out)
              have HLZ : Hid (ls.length = 0 → ls.getD m ⟨#[]⟩ = ⟨#[]⟩) := Lib.hid (fun h => by simp [List.getD_eq_getElem?_getD, h])
              have HLT : Hid (0 < ls.length → ∃ bl ol, B = some ⟨bl, ol, none⟩ ∧ bl < w.heap.size ∧ w.cell? ⟨bl, ol + m, none⟩ = some (.string (ls.getD m ⟨#[]⟩)) ∧ m < ls.length) := Lib.hid (fun hi => by
                have hml : m < ls.length := by rcases HLB.out with h | h <;> omega
                obtain ⟨b, off, e, hb, hc⟩ := h2.tx (Below.refl _ _) hml rfl
                exact ⟨b, off, e, hb, by rw [hc]; simp [List.getD_eq_getElem?_getD, hml], hml⟩)
              obtain ⟨lab, hlab⟩ : ∃ q, ls.getD m ⟨#[]⟩ = q := ⟨_, rfl⟩
              rw [hlab] at HLAB HLZ HLT S3
              have hlabz := HLAB.out
              obtain ⟨I, hI⟩ : ∃ I, cbI K ps m = I := ⟨_, rfl⟩
              obtain ⟨P, hP⟩ : ∃ P, cbP K ps m = P := ⟨_, rfl⟩
              obtain ⟨N, hN⟩ : ∃ N, cbN ls ps m = N := ⟨_, rfl⟩
              obtain ⟨a, ha⟩ : ∃ a, cbL ps m = a := ⟨_, rfl⟩
              rw [hI] at hO S1 HLN
              rw [hP] at hO S2 HLN hvl
              rw [hN] at hO S3 HLN
              rw [ha] at h40 HN1 HLO HLN
              clear hI hP hN ha hlab hn hxv hsz HX40 HLAB
              have HLN' := HLN
              have a40 := h40.out
              clear HLN
              go_upto_if 54 with (first | ((with_reducible refine zac ?_); refine zal rfl hO rfl ?_; (refine nm 6 rfl ?_; clear hO; intro b6 u hO); simp only [zL, zK] at hO) | ((with_reducible refine zab ?_); refine zsc rfl hO rfl _ (by exact at6) ?_; clear hO; intro u hO; simp only [zC, zB] at hO) | fail)
              clear e0 e1 e2 e3 e4 e5 e6 e7
              go_cut [11] from 52 to 58 (fun s u => s = .string lab ∧ Own w [pack Ls.flatten, row 83 3 (.slice A1 I.length c1) I.length (itc I), row 29 8 (.slice A2 P.length c2) P.length pvs.flatten, row 9 1 (.slice A3 N.length c3) N.length (stc N), box b0 29 [.int .i64 0, .slice none 0 0, .slice none 0 0, .slice none 0 0, .slice none 0 0, .slice none 0 0, .int .i64 0, .int .i64 0], box b1 29 [.int .i64 K, .slice A1 I.length c1, .slice A2 P.length c2, .slice A3 N.length c3, .slice none 0 0, .slice none 0 0, .int .i64 0, .int .i64 0], box b6 29 [.int .i64 xk, .slice Bi xi.length di, .slice Bp xp.length dp, .slice Bn xn.length dn, .slice Bc xc.length dc, .slice Bl xl.length dl, .int .i64 xo, .int .i64 xe]] u)
              case first =>
                by_cases f1 : 0 < ls.length
                · obtain ⟨bl, ol, rfl, hbl, g0, hml⟩ := HLT.out f1
                  have i1 : (m : Int) < (ls.length : Int) := by omega
                  have e0 := (hO.old hbl).trans g0
                  clear hml hbl g0
                  go_wp2_with fail
                  go_meet
                  case rel => exact ⟨rfl, hO⟩
                · have e := HLZ.out (by omega)
                  subst e
                  go_wp2_with fail
                  go_meet
                  case rel => exact ⟨rfl, hO⟩
              case rest =>
                clear hO HLT HLZ
                obtain ⟨rfl, hO⟩ := hcut
                cases hq : coB K (.mk xk xi xp xn xc xl xo xe) with
                | false =>
                  have hG := HNO.out hq
                  have HF : Hid (X = vecI 0 []) := Lib.hid (by rw [HT'.out, hG]; rfl)
                  have HG : Hid (Y = bigS) := Lib.hid (by rw [HS'.out, hG]; rfl)
                  have hcn := HCN.out hq
                  rw [hcn, hq] at CO
                  replace CO := fun u hb => (CO u hb).mono fun e' w' h => RetVB.exC (xk := 0) (xi := []) (xp := []) (xn := []) (xc := []) (xl := []) (xo := 0) (xe := 0) h
                  clear HT' HS' hG hcn hq HNO HCN HCY HCV HLO HTK HN1 S1 S2 S3 HNS
                  go_wp2_with (first | ((with_reducible refine zaa ?_); refine zlb rfl hO rfl _ (by exact at6) ?_) | ((with_reducible refine zaa ?_); refine zlf rfl hO rfl _ (by exact at5) ?_) | fail)
                  refine (CO _ hO.below).mono ?_
                  rintro e u ⟨C1, C2, C3, C4, C5, d1, d2, d3, d4, d5, F, rfl, hvo, hb⟩
                  replace hO := hO.call hb
                  clear hb
                  simp only [zK, zL] at hO
                  go_wp2_with (first | ((with_reducible refine zac ?_); refine zal rfl hO rfl ?_; (refine nm 8 rfl ?_; clear hO; intro b8 u hO); simp only [zL, zK] at hO) | ((with_reducible refine zab ?_); refine zsc rfl hO rfl _ (by exact at8) ?_; clear hO; intro u hO; simp only [zC, zB] at hO) | fail)
                  refine J.wp_region_c (n := 110) [0, 1, 2, 3, 4, 5, 6, 7, 8, 9] [] (deps := fun i => [[], [0], [0, 1], [0, 1, 2], [0, 1, 2, 3], [0, 1, 2], [0, 1, 2, 5], [0, 1, 2, 3, 4, 5, 6], [0, 1, 2, 3, 4, 5, 6, 7], [0, 1, 2, 3, 4, 5, 6, 7, 8]].getD i []) (fun _ _ _ => True) (r := 0) (lst := #[true, true, true, true, true, true, true, true, true, true]) (by kernel_rfl) (by kernel_rfl) (by kernel_rfl) rfl (by decide) (by kernel_rfl) hO ?_
                  refine zcp (h := ?_)
                  refine zcp (h := ?_)
                  refine zcp (h := ?_)
                  refine zck (h := ?_)
                  refine zck (h := ?_)
                  refine zck (h := ?_)
                  refine zck (h := ?_)
                  refine zck (h := ?_)
                  refine zck (h := ?_)
                  refine zcp (h := ?_)
                  refine J.Chain.nil ⟨?_, ?_⟩
                  · exact J.Each.nil
                  intro vs u hO hF
                  clear hF
                  simp only [List.flatMap_cons, List.flatMap_nil, List.append_nil, zL, zK] at hO
                  simp only [J.putL]
                  clear vs
                  refine wpAny_done (by kernel_rfl) ?_ _
                  go_wp2_with (first | (with_reducible refine zao ?_) | ((with_reducible refine zab ?_); refine zsc rfl hO rfl _ (by exact at5) ?_; clear hO; intro u hO; simp only [zC, zB] at hO) | fail)
                  obtain ⟨F0, hvo0, hF⟩ := Own.vec0 u 0
                  exact ⟨zap rfl hO rfl 5 at5 rfl rfl rfl ⟨_, _, by rw [HG.out]; rfl, by rw [HF.out]; exact hvo0, (hO.call hF).pick [0] (by decide)⟩⟩
                | true =>
                  have hcy := HCY.out hq
                  obtain ⟨hcf, hcl⟩ := HCV.out hq
                  rw [hcy, hq] at CO
                  obtain ⟨CI, hCI⟩ : ∃ q, (cvT K (.mk xk xi xp xn xc xl xo xe)).items = q := ⟨_, rfl⟩
                  obtain ⟨CP, hCP⟩ : ∃ q, (cvT K (.mk xk xi xp xn xc xl xo xe)).parts = q := ⟨_, rfl⟩
                  rw [hCI, hCP] at hcf hcl
                  rw [hCI] at S1
                  rw [hCP] at S2
                  rw [hcf] at CO
                  replace CO := fun u hb => (CO u hb).mono fun e' w' h => RetVB.exC (xk := K) (xi := CI) (xp := CP) (xn := xn) (xc := []) (xl := []) (xo := 0) (xe := 0) h
                  have HCO : Hid (∀ p ∈ ps.take (m + 1), coB K p = true) := Lib.hid (by
                    rw [HTK.out]
                    intro p hp
                    rcases List.mem_append.1 hp with hp | hp
                    · exact hco.out p hp
                    · rw [List.mem_singleton.1 hp]; exact hq)
                  obtain ⟨lIP, lN⟩ := HLN'.out
                  have LA1 := fun u => impl_length K A1 A2 I.length P.length c1 c2 (.slice A3 N.length c3) (.slice none 0 0) (.slice none 0 0) (.int .i64 0) (.int .i64 0) u (by omega)
                  rw [show lenN K I.length P.length = a from by unfold lenN; rw [if_neg (by omega)]; exact lIP] at LA1
                  have LA2 := fun (C1 C2 C3 C4 C5 : Option Addr) (d1 d2 d3 d4 d5 : Nat) u => impl_length K C1 C2 CI.length CP.length d1 d2 (.slice C3 xn.length d3) (.slice C4 0 d4) (.slice C5 0 d5) (.int .i64 0) (.int .i64 0) u (by omega)
                  rw [show lenN K CI.length CP.length = n from by unfold lenN; rw [if_neg (by omega)]; exact hcl] at LA2
                  have HCL := Lib.hid hcl
                  clear hcy hcf hCI hCP hq HNO HCN HCY HCV HTK lIP lN hcl
                  by_cases g : 40 < a + n
                  · have hG := HLO.out g
                    have HF : Hid (X = vecI 0 []) := Lib.hid (by rw [HT'.out, hG]; rfl)
                    have HG : Hid (Y = bigS) := Lib.hid (by rw [HS'.out, hG]; rfl)
                    have g2 : (40 : Int) < (a : Int) + (n : Int) := by omega
                    clear HT' HS' hG HLO HN1 S1 S2 S3 HNS HCO g
                    go_wp2_with (first | ((with_reducible refine zaa ?_); refine zlb rfl hO rfl _ (by exact at6) ?_) | ((with_reducible refine zaa ?_); refine zlf rfl hO rfl _ (by exact at5) ?_) | fail)
                    refine (CO _ hO.below).mono ?_
                    rintro e u ⟨C1, C2, C3, C4, C5, d1, d2, d3, d4, d5, F, rfl, hvo, hb⟩
                    replace hO := hO.call hb
                    clear hb
                    simp only [zK, zL] at hO
                    go_wp2_with (first | ((with_reducible refine zac ?_); refine zal rfl hO rfl ?_; (refine nm 8 rfl ?_; clear hO; intro b8 u hO); simp only [zL, zK] at hO) | ((with_reducible refine zab ?_); refine zsc rfl hO rfl _ (by exact at8) ?_; clear hO; intro u hO; simp only [zC, zB] at hO) | fail)
                    refine J.wp_region_c (n := 110) [0, 1, 2, 3, 4, 5, 6, 7, 8, 9] [] (deps := fun i => [[], [0], [0, 1], [0, 1, 2], [0, 1, 2, 3], [0, 1, 2], [0, 1, 2, 5], [0, 1, 2, 3, 4, 5, 6], [0, 1, 2, 3, 4, 5, 6, 7], [0, 1, 2, 3, 4, 5, 6, 7, 8]].getD i []) (fun _ _ _ => True) (r := 0) (lst := #[true, true, true, true, true, true, true, true, true, true]) (by kernel_rfl) (by kernel_rfl) (by kernel_rfl) rfl (by decide) (by kernel_rfl) hO ?_
                    refine zcp (h := ?_)
                    refine zcp (h := ?_)
                    refine zcp (h := ?_)
                    refine zcc (f := fun M u hO K hK => by (exact zah hO rfl rfl _ (by exact at6) (by rfl) (by rfl) (hK _ hO))) (h := ?_)
                    refine zcc (f := fun M u hO K hK => by (simp only [wp_at_zero, wp_at_succ]; go_step; refine (LA1 _).mono ?_; rintro e u ⟨rfl, hb⟩; exact hK _ (hO.step hb))) (h := ?_)
                    refine zcc (f := fun M u hO K hK => by (exact zah hO rfl rfl _ (by exact at8) (by rfl) (by rfl) (hK _ hO))) (h := ?_)
                    refine zcc (f := fun M u hO K hK => by (simp only [wp_at_zero, wp_at_succ]; go_step; refine (LA2 C1 C2 C3 C4 C5 d1 d2 d3 d4 d5 _).mono ?_; rintro e u ⟨rfl, hb⟩; exact hK _ (hO.step hb))) (h := ?_)
                    refine zcp (h := ?_)
                    refine zcp (h := ?_)
                    refine zcp (h := ?_)
                    refine J.Chain.nil ⟨?_, ?_⟩
                    · exact J.Each.nil
                    intro vs u hO hF
                    clear hF
                    simp only [List.flatMap_cons, List.flatMap_nil, List.append_nil, zL, zK] at hO
                    simp only [J.putL]
                    clear vs
                    refine wpAny_done (by kernel_rfl) ?_ _
                    go_wp2_with (first | (with_reducible refine zao ?_) | ((with_reducible refine zab ?_); refine zsc rfl hO rfl _ (by exact at5) ?_; clear hO; intro u hO; simp only [zC, zB] at hO) | fail)
                    obtain ⟨F0, hvo0, hF⟩ := Own.vec0 u 0
                    exact ⟨zap rfl hO rfl 5 at5 rfl rfl rfl ⟨_, _, by rw [HG.out]; rfl, by rw [HF.out]; exact hvo0, (hO.call hF).pick [0] (by decide)⟩⟩
                  · have g2 : ¬ (40 : Int) < (a : Int) + (n : Int) := by omega
                    have HL41 : Hid (cbL ps (m + 1) ≤ 40) := Lib.hid (by rw [HN1.out]; omega)
                    clear HLO
                    go_wp2_with (first | ((with_reducible refine zaa ?_); refine zlb rfl hO rfl _ (by exact at6) ?_) | ((with_reducible refine zaa ?_); refine zlf rfl hO rfl _ (by exact at5) ?_) | fail)
                    refine (CO _ hO.below).mono ?_
                    rintro e u ⟨C1, C2, C3, C4, C5, d1, d2, d3, d4, d5, F, rfl, hvo, hb⟩
                    replace hO := hO.call hb
                    clear hb
                    simp only [zK, zL] at hO
                    replace LA2 := LA2 C1 C2 C3 C4 C5 d1 d2 d3 d4 d5
                    go_wp2_with (first | ((with_reducible refine zac ?_); refine zal rfl hO rfl ?_; (refine nm 8 rfl ?_; clear hO; intro b8 u hO); simp only [zL, zK] at hO) | ((with_reducible refine zab ?_); refine zsc rfl hO rfl _ (by exact at8) ?_; clear hO; intro u hO; simp only [zC, zB] at hO) | fail)
                    refine J.wp_region_c (n := 110) [0, 1, 2, 3, 4, 5, 6, 7, 8, 9] [] (deps := fun i => [[], [0], [0, 1], [0, 1, 2], [0, 1, 2, 3], [0, 1, 2], [0, 1, 2, 5], [0, 1, 2, 3, 4, 5, 6], [0, 1, 2, 3, 4, 5, 6, 7], [0, 1, 2, 3, 4, 5, 6, 7, 8]].getD i []) (fun _ _ _ => True) (r := 0) (lst := #[true, true, true, true, true, true, true, true, true, true]) (by kernel_rfl) (by kernel_rfl) (by kernel_rfl) rfl (by decide) (by kernel_rfl) hO ?_
                    refine zcp (h := ?_)
                    refine zcp (h := ?_)
                    refine zcp (h := ?_)
                    refine zcc (f := fun M u hO K hK => by (exact zah hO rfl rfl _ (by exact at6) (by rfl) (by rfl) (hK _ hO))) (h := ?_)
                    refine zcc (f := fun M u hO K hK => by (simp only [wp_at_zero, wp_at_succ]; go_step; refine (LA1 _).mono ?_; rintro e u ⟨rfl, hb⟩; exact hK _ (hO.step hb))) (h := ?_)
                    refine zcc (f := fun M u hO K hK => by (exact zah hO rfl rfl _ (by exact at8) (by rfl) (by rfl) (hK _ hO))) (h := ?_)
                    refine zcc (f := fun M u hO K hK => by (simp only [wp_at_zero, wp_at_succ]; go_step; refine (LA2 _).mono ?_; rintro e u ⟨rfl, hb⟩; exact hK _ (hO.step hb))) (h := ?_)
                    refine zcp (h := ?_)
                    refine zcp (h := ?_)
                    refine zcp (h := ?_)
                    refine J.Chain.nil ⟨?_, ?_⟩
                    · exact J.Each.nil
                    intro vs u hO hF
                    clear hF
                    simp only [List.flatMap_cons, List.flatMap_nil, List.append_nil, zL, zK] at hO
                    simp only [J.putL]
                    clear vs
                    refine wpAny_done (by kernel_rfl) ?_ _
                    go_wp2_with fail
                    have hX := hO.openV hvo
                    clear hO hvo
                    obtain ⟨pvs1, Ls1, hvl1, hO⟩ := hX
                    replace hO := hO.pick [6, 5, 0, 1, 7, 8, 9, 10, 11, 12, 13] (by decide)
                    simp only [zN, zO, zE, zD] at hO
                    replace hO := hO.merge
                    have hrn := hrd.sln
                    have e00 : N ++ cbM lab xn n 0 = N := by simp [cbM]
                    go_loopw [14] (fun i u => ∃ (j : Nat) (A3' : Option Addr) (c3' : Nat), j ≤ n ∧ i = .int .i64 j ∧ Own w [pack (Ls.flatten ++ Ls1.flatten), row 83 3 (.slice C1 CI.length d1) CI.length (itc CI), row 29 8 (.slice C2 CP.length d2) CP.length pvs1.flatten, row 83 3 (.slice A1 I.length c1) I.length (itc I), row 29 8 (.slice A2 P.length c2) P.length pvs.flatten, row 9 1 (.slice A3' (N ++ cbM lab xn n j).length c3') (N ++ cbM lab xn n j).length (stc (N ++ cbM lab xn n j)), box b0 29 [.int .i64 0, .slice none 0 0, .slice none 0 0, .slice none 0 0, .slice none 0 0, .slice none 0 0, .int .i64 0, .int .i64 0], box b1 29 [.int .i64 K, .slice A1 I.length c1, .slice A2 P.length c2, .slice A3' (N ++ cbM lab xn n j).length c3', .slice none 0 0, .slice none 0 0, .int .i64 0, .int .i64 0], box b6 29 [.int .i64 xk, .slice Bi xi.length di, .slice Bp xp.length dp, .slice Bn xn.length dn, .slice Bc xc.length dc, .slice Bl xl.length dl, .int .i64 xo, .int .i64 xe], box b8 29 [.int .i64 K, .slice C1 CI.length d1, .slice C2 CP.length d2, .slice C3 xn.length d3, .slice C4 0 d4, .slice C5 0 d5, .int .i64 0, .int .i64 0]] u) (fun i _ => n - (intOf i).toNat)
                    case atStart => exact ⟨0, A3, c3, Nat.zero_le _, rfl, by rw [e00]; exact hO⟩
                    case round =>
                      clear hO e00
                      obtain ⟨j, A3', c3', hj, rfl, hO⟩ := hrel
                      have HML : Hid ((N ++ cbM lab xn n j).length ≤ 100) := Lib.hid (by rw [List.length_append, cbM_len]; have := HLN'.out.2; omega)
                      by_cases hjn : j < n
                      · have i1 : (j : Int) < (n : Int) := by omega
                        have HM : Hid (N ++ cbM lab xn n (j + 1) = N ++ cbM lab xn n j ++ [nmC lab xn n j]) := Lib.hid (by rw [cbM_succ, List.append_assoc])
                        have CN := fun u (hb : Below w.heap.size w u) => impl_cname xk Bi Bp Bn xi.length xp.length di dp dn (.slice Bc xc.length dc) (.slice Bl xl.length dl) (.int .i64 xo) (.int .i64 xe) xn lab j n u (hrn.below hb) hxn (getD_len (fun s hs => Nat.le_trans (HNS.out s hs) (by decide))) hlabz (by omega) HL1.out xlen
                        obtain ⟨nm, hnm⟩ : ∃ q, nmC lab xn n j = q := ⟨_, rfl⟩
                        rw [hnm] at CN HM
                        obtain ⟨M, hM⟩ : ∃ q, N ++ cbM lab xn n j = q := ⟨_, rfl⟩
                        rw [hM] at hO HM HML
                        have lM := HML.out
                        clear hM hnm
                        go_wp2_with (first | ((with_reducible refine (LA2 _).mono ?_); rintro e u ⟨rfl, hb⟩; (replace hO := hO.step hb; clear hb)) | ((with_reducible refine zaa ?_); refine zlb rfl hO rfl _ (by exact at9) ?_) | fail)
                        refine J.wp_region_c (n := 110) [0, 1, 2, 3, 4, 5] [6] (deps := fun i => [[], [0], [], [], [], [2, 3, 4], [2, 3, 4, 5], [], [], []].getD i []) (fun _ _ => (J.freshS 9 [.string nm])) (r := 3) (lst := #[true, true, true, true, true, true, true, false, false, false]) (by kernel_rfl) (by kernel_rfl) (by kernel_rfl) rfl (by decide) (by kernel_rfl) hO ?_
                        refine zcp (h := ?_)
                        refine zcc (f := fun M u hO K hK => by (exact zad hO rfl rfl _ (by exact at7) (by rfl) (by rfl) (hK _ hO))) (h := ?_)
                        refine zcc (f := fun M u hO K hK => by (exact zah hO rfl rfl _ (by exact at8) (by rfl) (by rfl) (hK _ hO))) (h := ?_)
                        refine zcp (h := ?_)
                        refine zcp (h := ?_)
                        refine zcc (f := fun M u hO K hK => by (simp only [wp_at_zero, wp_at_succ]; go_step; refine (CN _ hO.below).mono ?_; rintro e u ⟨rfl, hb⟩; exact hK _ (hO.step hb))) (h := ?_)
                        refine J.Chain.nil ⟨?_, ?_⟩
                        · refine J.Each.cons (by rfl) ?_ ?_; exact ⟨rfl, fun vs M u hO _ K hK => by (refine zax (cs := [.string nm]) hO rfl (by simp only [Act.eval, zJ, zP, J.putL, zI, zG, zH, J.dstOf, zF, zD, zE, zS, zQ, zR, Act.put, zA, zB, zC]; rfl) rfl rfl (zM rfl) rfl fun b u hO => ?_; exact hK _ _ _ (show (J.freshS 9 [.string nm]) _ from ⟨b, rfl⟩) hO)⟩; exact J.Each.nil
                        intro vs u hO hF
                        obtain ⟨b5, h6⟩ : J.freshS _ _ (vs 6) := hF 6 (by decide)
                        clear hF
                        simp only [List.flatMap_cons, List.flatMap_nil, h6, List.append_nil, zL, zK] at hO
                        simp only [h6, J.putL, zI, zG, zH, J.dstOf, zF, zD, zE, zS, zQ, zR, Act.put, zA, zB, zC]
                        clear h6 vs
                        refine J.wpAny_one (i := 7) (by kernel_rfl) (by rfl) rfl fun K hK => ?_
                        refine zaw hO rfl rfl rfl _ (by exact at5) _ (by exact at10) (by rfl) (by simp [Value.oneCell']) (by omega) (by omega) rfl ?_
                        clear hO
                        intro A' c' u hO
                        simp only [zC, zB] at hO
                        simp only [Act.put, zA, zB, zC]
                        refine hK _ _ ?_
                        clear hK K
                        refine J.wpAny_one (i := 8) (by kernel_rfl) (by rfl) rfl fun K hK => ?_
                        simp only [wp_at_zero, wp_at_succ]
                        go_step
                        refine hK _ _ ?_
                        clear hK K
                        refine J.wpAny_one (i := 9) (by kernel_rfl) (by rfl) rfl fun K hK => ?_
                        (refine zau hO rfl rfl _ (by exact at7) (zM rfl) (by simp only [Act.eval, zJ, zF, zD, zE, zP]; rfl) (by rfl) (by rfl) (by rfl) ?_; clear hO; intro u hO; simp only [zC, zB] at hO; refine hK _ _ ?_; clear hK K)
                        refine wpAny_done (by kernel_rfl) ?_ _
                        go_wp2_with fail
                        replace hO := hO.pick [0, 1, 2, 3, 4, 5, 6, 7, 8, 9] (by decide)
                        simp only [zN, zO, zE, zD] at hO
                        have L1 : (N ++ cbM lab xn n (j + 1)).length = M.length + 1 := by rw [HM.out, List.length_append]; rfl
                        have E1 : stc (N ++ cbM lab xn n (j + 1)) = stc M ++ [.string nm] := by rw [HM.out, stc_app]; rfl
                        rw [← L1, ← E1] at hO
                        go_roundw
                        case rel => exact ⟨j + 1, _, _, by omega, by go_num, hO⟩
                        case measure => simp [intOf]; omega
                      · have hjn2 : j = n := by omega
                        subst hjn2
                        have lI := HLN'.out.1
                        have lC := HCL.out
                        have l1 : I.length ≤ 100 := by omega
                        have l2 : P.length ≤ 100 := by omega
                        have l3 : CI.length ≤ 100 := by omega
                        have l4 : CP.length ≤ 100 := by omega
                        obtain ⟨M, hM⟩ : ∃ q, N ++ cbM lab xn j j = q := ⟨_, rfl⟩
                        rw [hM] at hO S3
                        clear hM lI lC
                        go_wp2_with (first | ((with_reducible refine (LA2 _).mono ?_); rintro e u ⟨rfl, hb⟩; (replace hO := hO.step hb; clear hb)) | ((with_reducible refine zaa ?_); refine zlb rfl hO rfl _ (by exact at9) ?_) | ((with_reducible refine zaa ?_); refine zlf rfl hO rfl _ (by (first | exact at7 | exact at9 | fail)) ?_) | ((with_reducible refine zab ?_); refine zsf rfl hO rfl _ (by exact at7) (zM rfl) ?_; clear hO; intro u hO; simp only [zC, zB] at hO) | ((with_reducible refine zaq ?_); refine zar hO rfl (by rfl) rfl rfl _ (by (first | exact at3 | exact at4 | fail)) ((hO.row_sl 1 rfl)) (itc_one _) (by omega) (by omega) rfl (fun A' c' => by simp only [Act.put, zA, zB, zC]; rfl) ?_; clear hO; intro A' c' u hO; simp only [zC, zB, Nat.zero_add, zL] at hO; (try simp only [Nat.zero_add])) | ((with_reducible refine zaq ?_); refine zar hO rfl (by rfl) rfl rfl _ (by exact at4) ((hO.row_sl 2 rfl)) (hvl1.oneC) (by omega) (by omega) rfl (fun A' c' => by simp only [Act.put, zA, zB, zC]; rfl) ?_; clear hO; intro A' c' u hO; simp only [zC, zB, Nat.zero_add, zL] at hO; (try simp only [Nat.zero_add])) | fail)
                        replace hO := hO.pick [0, 3, 4, 5, 6, 7] (by decide)
                        simp only [zN, zO, zE, zD] at hO
                        have L1 : (cbI K ps (m + 1)).length = I.length + CI.length := by rw [S1.out, List.length_append]
                        have L2 : (cbP K ps (m + 1)).length = P.length + CP.length := by rw [S2.out, List.length_append]
                        rw [← L1, ← L2, ← List.flatten_append, ← List.flatten_append, ← itc_app, ← S1.out, ← S3.out] at hO
                        go_roundw
                        case rel => exact ⟨m + 1, _, _, _, _, _, _, _, _, by omega, by go_num, HCO, HL41, by rw [S2.out]; exact hvl.appC hvl1, hO⟩
                        case measure => simp [intOf]; omega
            · have hmn : m = ps.length := by omega
              subst hmn
              rw [List.take_length] at hco
              have HGy : cbG K ps = true := cbG_yes h40.out hco.out
              have hsz : szV (cbV K ps ls) ≤ 268435456 := cbV_sz hco.out h40.out HZ.out
              have HX : Hid (X = if isV (cbV K ps ls) then cbV K ps ls else vecI 0 []) := Lib.hid (by rw [HT'.out, HGy]; rfl)
              have HY : Hid (Y = if isV (cbV K ps ls) then ⟨#[]⟩ else bigS) := Lib.hid (by rw [HS'.out, HGy]; rfl)
              have CF : ∀ (vs : List Value) (u : World), RdV u (cbV K ps ls) vs → Calls Try.prog 66 #[.agg vs.toArray] u fun e' w' => e' = .returned (.tuple #[.agg (if isV (cbV K ps ls) then vs else zero8).toArray, .string (if isV (cbV K ps ls) then ⟨#[]⟩ else bigS)]) ∧ Below u.heap.size u w' := fun vs u h => impl_fitsG (cbV K ps ls) vs u h hsz
              have HV : Hid (cbV K ps ls = .mk K (cbI K ps ps.length) (cbP K ps ps.length) (tdN (cbN ls ps ps.length)) [] [] 0 0) := Lib.hid rfl
              have hln := HLN.out.2
              have hl40 := h40.out
              obtain ⟨q, hq⟩ : ∃ q, isV (cbV K ps ls) = q := ⟨_, rfl⟩
              rw [hq] at CF HX HY
              rw [HV.out] at CF HX
              obtain ⟨I, hI⟩ : ∃ I, cbI K ps ps.length = I := ⟨_, rfl⟩
              obtain ⟨P, hP⟩ : ∃ P, cbP K ps ps.length = P := ⟨_, rfl⟩
              obtain ⟨N, hN⟩ : ∃ N, cbN ls ps ps.length = N := ⟨_, rfl⟩
              rw [hI] at hO CF HX
              rw [hP] at hO CF HX hvl
              rw [hN] at hO CF HX hln
              have lN : N.length ≤ 1048576 := by omega
              clear hI hP hN hln hl40 hq HV HGy hsz HT' HS' HLN h40 hco hlt hm HLB HLS
              go_wp2_with (first | ((with_reducible refine zaa ?_); refine zlb rfl hO rfl _ (by exact at5) ?_) | fail)
              refine (impl_tidy K A1 A2 A3 none none I.length c1 P.length c2 c3 0 0 0 0 0 0 N _ (hO.row_sl 3 rfl) lN).mono ?_
              rintro e9 u ⟨T', t', rfl, hb⟩
              replace hO := hO.front 3 rfl
              simp only [List.eraseIdx_cons_zero, List.eraseIdx_cons_succ] at hO
              replace hO := hO.tidy hb
              clear hb
              replace hO := (hO.addNil 9 1).addNil 9 1
              simp only [List.cons_append, List.nil_append] at hO
              replace hO := hO.pick [2, 3, 0, 6, 7, 1, 4, 5] (by decide)
              simp only [zN, zO, zE, zD] at hO
              have hX : ∃ F, VO (.mk K I P (tdN N) [] [] 0 0) [.int .i64 K, .slice A1 I.length c1, .slice A2 P.length c2, .slice T' (tdN N).length t', .slice none 0 0, .slice none 0 0, .int .i64 0, .int .i64 0] F ∧ Own w (pack F :: [box b0 29 [.int .i64 0, .slice none 0 0, .slice none 0 0, .slice none 0 0, .slice none 0 0, .slice none 0 0, .int .i64 0, .int .i64 0], box b1 29 [.int .i64 K, .slice A1 I.length c1, .slice A2 P.length c2, .slice A3 N.length c3, .slice none 0 0, .slice none 0 0, .int .i64 0, .int .i64 0]]) u := ⟨_, VO.close (cs := []) (ls := []) hvl, Own.packs' [_, _, _, _, _] hO⟩
              clear hO hvl
              obtain ⟨F, hvo, hO⟩ := hX
              cases q with
              | true =>
                have HF : Hid (X = .mk K I P (tdN N) [] [] 0 0) := Lib.hid (by rw [HX.out, if_pos rfl])
                have HG : Hid (Y = ⟨#[]⟩) := Lib.hid (by rw [HY.out, if_pos rfl])
                simp only [if_true] at CF
                clear HX HY
                go_wp2_with (first | ((with_reducible refine (CF _ _ (hO.rdp 0 rfl hvo)).mono ?_); rintro e u ⟨rfl, hb⟩; (replace hO := hO.step hb; clear hb)) | (with_reducible refine zao ?_) | ((with_reducible refine zab ?_); refine zsc rfl hO rfl _ (by exact at1) ?_; clear hO; intro u hO; simp only [zC, zB] at hO) | fail)
                exact ⟨zap rfl hO rfl 1 at1 rfl rfl rfl ⟨_, _, by rw [HG.out]; rfl, by rw [HF.out]; exact hvo, hO.pick [0] (by decide)⟩⟩
              | false =>
                have HF : Hid (X = vecI 0 []) := Lib.hid (by rw [HX.out]; rfl)
                have HG : Hid (Y = bigS) := Lib.hid (by rw [HY.out]; rfl)
                simp only [Bool.false_eq_true, if_false] at CF
                clear HX HY
                go_wp2_with (first | ((with_reducible refine (CF _ _ (hO.rdp 0 rfl hvo)).mono ?_); rintro e u ⟨rfl, hb⟩; (replace hO := hO.step hb; clear hb)) | (with_reducible refine zao ?_) | ((with_reducible refine zab ?_); refine zsc rfl hO rfl _ (by exact at1) ?_; clear hO; intro u hO; simp only [zC, zB] at hO) | fail)
                obtain ⟨F0, hvo0, hF⟩ := Own.vec0 u 0
                exact ⟨zap rfl hO rfl 1 at1 rfl rfl rfl ⟨_, _, by rw [HG.out]; rfl, by rw [HF.out]; exact hvo0, (hO.call hF).pick [0] (by decide)⟩⟩

end Go.Proofs.Ytmofcbpabdbjlaa
