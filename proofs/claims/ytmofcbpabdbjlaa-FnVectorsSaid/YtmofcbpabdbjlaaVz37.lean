/-
  What is proved: what EqualVectors (of the program and of the reference) returns, and the statement on it; when a vector of items is valid. No program in sight; a tree is the same as itself. No program in sight; plain facts on combined vectors of one kind: combining is associative. No program in sight.
  Condition: trees of size at most 1048576; one of the kinds 1 to 3; valid vectors of one of the kinds 1 to 3.
-/
import Derived.Deep.DrawnRows
import Derived.Test.YtmofcbpabdbjlaaVz5
import Derived.Test.YtmofcbpabdbjlaaVz6
import Derived.Test.YtmofcbpabdbjlaaVz8
import Derived.Test.YtmofcbpabdbjlaaVz11
import Derived.Test.YtmofcbpabdbjlaaVz15
import Derived.Test.YtmofcbpabdbjlaaVz19
import Derived.Test.YtmofcbpabdbjlaaVz24
import Derived.Test.YtmofcbpabdbjlaaVz34
import Derived.Test.YtmofcbpabdbjlaaVz36
namespace Go.Proofs.Ytmofcbpabdbjlaa

set_option maxRecDepth 8000

open Go.RowKit Go.ChangeShapes Go.WideShapes Go.Deep

set_option linter.unusedVariables false

set_option linter.unusedSimpArgs false

set_option maxRecDepth 20000 in
set_option maxHeartbeats 1000000 in
theorem spec_eqVecs (t t' : VT) (vs vs' : List Value) (w : World) (hv : RdV w t vs) (hv' : RdV w t' vs') (hz : szV t ≤ 1048576) (hz' : szV t' ≤ 1048576) : Calls Try.prog 57 #[.agg vs.toArray, .agg vs'.toArray] w fun e w' => e = .returned (.bool (isV t && isV t' && eqV t t')) ∧ Below w.heap.size w w' := by
  obtain ⟨W1, W2, W3, W4, W5, d1, d2, d3, d4, d5, rfl⟩ := hv.ex
  obtain ⟨V1, V2, V3, V4, V5, e1, e2, e3, e4, e5, rfl⟩ := hv'.ex
  have CA := fun u (hb : Below w.heap.size w u) => spec_isVec t _ u (hv.grow hb) hz
  have CB := fun u (hb : Below w.heap.size w u) => spec_isVec t' _ u (hv'.grow hb) hz'
  have CE := fun u (hb : Below w.heap.size w u) => spec_same t t' _ _ u (hv.grow hb) (hv'.grow hb) hz hz'
  obtain ⟨p, hp⟩ : ∃ p, isV t = p := ⟨_, rfl⟩
  obtain ⟨q, hq⟩ : ∃ q, isV t' = q := ⟨_, rfl⟩
  obtain ⟨r, hr⟩ : ∃ r, eqV t t' = r := ⟨_, rfl⟩
  rw [hp] at CA ⊢
  rw [hq] at CB ⊢
  rw [hr] at CE ⊢
  clear hp hq hr hz hz'
  cases p with
  | false =>
    go_enter Try.func57, Try.ntmps57
    have hO := Own.nil w
    go_wp2_with (first | ((with_reducible refine (CA _ hO.below).mono ?_); rintro e u ⟨rfl, hb⟩; (replace hO := hO.step hb; clear hb)) | ((with_reducible refine zaf ?_); refine zbx rfl hO rfl rfl ?_; (first | (refine nm 0 rfl ?_; clear hO; intro b0 u hO) | (refine nm 1 rfl ?_; clear hO; intro b1 u hO) | fail); simp only [zL, zK] at hO) | ((with_reducible refine zaa ?_); refine zlb rfl hO rfl _ (by exact at0) ?_) | fail)
    go_ret
    exact ⟨rfl, hO.below⟩
  | true =>
  cases q with
  | false =>
    go_enter Try.func57, Try.ntmps57
    have hO := Own.nil w
    go_wp2_with (first | ((with_reducible refine (CA _ hO.below).mono ?_); rintro e u ⟨rfl, hb⟩; (replace hO := hO.step hb; clear hb)) | ((with_reducible refine (CB _ hO.below).mono ?_); rintro e u ⟨rfl, hb⟩; (replace hO := hO.step hb; clear hb)) | ((with_reducible refine zaf ?_); refine zbx rfl hO rfl rfl ?_; (first | (refine nm 0 rfl ?_; clear hO; intro b0 u hO) | (refine nm 1 rfl ?_; clear hO; intro b1 u hO) | fail); simp only [zL, zK] at hO) | ((with_reducible refine zaa ?_); refine zlb rfl hO rfl _ (by (first | exact at0 | exact at1 | fail)) ?_) | fail)
    go_ret
    exact ⟨rfl, hO.below⟩
  | true =>
    go_enter Try.func57, Try.ntmps57
    have hO := Own.nil w
    go_wp2_with (first | ((with_reducible refine (CA _ hO.below).mono ?_); rintro e u ⟨rfl, hb⟩; (replace hO := hO.step hb; clear hb)) | ((with_reducible refine (CB _ hO.below).mono ?_); rintro e u ⟨rfl, hb⟩; (replace hO := hO.step hb; clear hb)) | ((with_reducible refine (CE _ hO.below).mono ?_); rintro e u ⟨rfl, hb⟩; (replace hO := hO.step hb; clear hb)) | ((with_reducible refine zaf ?_); refine zbx rfl hO rfl rfl ?_; (first | (refine nm 0 rfl ?_; clear hO; intro b0 u hO) | (refine nm 1 rfl ?_; clear hO; intro b1 u hO) | fail); simp only [zL, zK] at hO) | ((with_reducible refine zaa ?_); refine zlb rfl hO rfl _ (by (first | exact at0 | exact at1 | fail)) ?_) | fail)
    go_ret
    exact ⟨by cases r <;> rfl, hO.below⟩

end Go.Proofs.Ytmofcbpabdbjlaa

namespace Go.Proofs.Ytmofcbpabdbjlaa

set_option maxRecDepth 8000

set_option linter.unusedVariables false

set_option linter.unusedSimpArgs false

/-- a valid vector of items of kind k -/
structure AtV (k : Int) (t : VT) : Prop where
  ok : isV t = true
  kind : t.kind = k

theorem AtV.form {k : Int} {t : VT} (h : AtV k t) (h1 : 1 ≤ k) (h3 : k ≤ 3) : t.parts = [] ∧ lenV t = t.items.length ∧ t.items.length ≤ 40 ∧ (t.names = [] ∨ t.names.length = t.items.length ∧ allE t.names = false) ∧ za1 t.names = true ∧ (∀ x ∈ t.items, itemB k x = true) := by
  obtain ⟨hv, hk⟩ := h
  obtain ⟨k', is, ps, ns, cs, ls, c, e⟩ := t
  have hk : k' = k := hk
  subst hk
  have hf := node_facts (isV_node hv)
  have hi : ∀ x ∈ is, itemB k' x = true := fun x hx => by
    have h3 := hf.2.2.2.2.2.2.1 x hx
    unfold itB at h3
    simp only [Bool.and_eq_true] at h3
    exact h3.1.2
  have hp : ps = [] := by
    rcases hf.2.2.2.2.2.2.2.1 with h | h
    · exact List.length_eq_zero_iff.1 h
    · omega
  subst hp
  have e1 : lenN k' is.length 0 = is.length := by unfold lenN; rw [if_neg (by omega)]; rfl
  have hl : lenV (.mk k' is [] ns cs ls c e) = is.length := e1
  rw [show ([] : List VT).length = 0 from rfl, e1] at hf
  refine ⟨rfl, hl, hf.2.1, ?_, hf.2.2.2.2.2.1, hi⟩
  rcases hf.2.2.1 with h | h
  · exact .inl (List.length_eq_zero_iff.1 h)
  · exact .inr h

theorem isV_vecN {k : Int} {is : List It} {ns : List ByteArray} (h1 : 1 ≤ k) (h3 : k ≤ 3) (hl : is.length ≤ 40) (hi : ∀ x ∈ is, itemB k x = true) (hn : ns = [] ∨ ns.length = is.length ∧ allE ns = false) (hs : za1 ns = true) : isV (vecN k is ns) = true := by
  have hn' : (decide (ns.length = 0) || (decide (ns.length = is.length) && !allE ns)) = true := by
    rcases hn with rfl | ⟨a, b⟩
    · rfl
    · rw [a, b]; simp
  have k5 : ¬ k = 5 := by omega
  have k0 : ¬ k = 0 := by omega
  have hl' : lenV (vecN k is ns) = is.length := by
    show (if k = 5 then 1 else is.length + 0) = _
    rw [if_neg k5]
    rfl
  have hA : headB is.length k is [] ns [] [] 0 0 = true := by
    unfold headB
    rw [hn', hs]
    simp [k5, k0, labB, goodN, hl]
    omega
  have hB : is.all (itB k []) = true := by
    rw [List.all_eq_true]
    intro x hx
    unfold itB levB
    rw [hi x hx]
    simp [h1, h3]
  have hN : nodeB (vecN k is ns) = true := by
    show (headB (lenV (vecN k is ns)) k is [] ns [] [] 0 0 && is.all (itB k [])) = true
    rw [hl', hA, hB]
    rfl
  have hC : cellsV (vecN k is ns) = is.length := by
    show lenV (vecN k is ns) + 0 = _
    rw [hl']
    rfl
  unfold isV
  rw [hC, decide_eq_true (by omega : is.length ≤ 200), Bool.and_true]
  show (nodeB (vecN k is ns) && lL 3 []) = true
  rw [hN]
  rfl

end Go.Proofs.Ytmofcbpabdbjlaa

namespace Go.Proofs.Ytmofcbpabdbjlaa

set_option maxRecDepth 8000

set_option linter.unusedVariables false

set_option linter.unusedSimpArgs false

theorem eqSS_refl (l : List ByteArray) : eqSS l l = true := by
  unfold eqSS
  induction l with
  | nil => simp [eqL]
  | cons x l ih => simp only [eqL, eqB, beq_self_eq_true, Bool.true_and] at ih ⊢; exact ih

theorem eqV_refl (t : VT) : eqV t t = true := by
  induction t using VT.ind with
  | _ k is ps ns cs ls c e ih =>
    have h1 : eqVL ps ps = true := by
      induction ps with
      | nil => simp [eqVL]
      | cons p ps ih2 =>
        simp only [eqVL]
        rw [ih p (List.mem_cons_self), ih2 (fun q hq => ih q (List.mem_cons_of_mem _ hq))]
        rfl
    have h2 : eqL eqI is is = true := by
      clear ih h1
      induction is with
      | nil => simp [eqL]
      | cons x l ih => simp [eqL, eqI] at ih ⊢; exact ih
    simp [eqV, eqSS_refl, h1, h2]

end Go.Proofs.Ytmofcbpabdbjlaa

namespace Go.Proofs.Ytmofcbpabdbjlaa

set_option maxRecDepth 8000

set_option linter.unusedVariables false

set_option linter.unusedSimpArgs false

theorem ba_zero {s : ByteArray} (h : za0 s = true) : s = ⟨#[]⟩ := by
  have h1 := zay.1 h
  rw [ByteArray.toList_eq] at h1
  exact ByteArray.ext (Array.toList_inj.1 (by simpa using h1))

/-- the names of the elements, all spelled -/
def nmF (t : VT) : List ByteArray := if t.names = [] then List.replicate t.items.length ⟨#[]⟩ else t.names

theorem nmF_len {k : Int} {t : VT} (h : AtV k t) (h1 : 1 ≤ k) (h3 : k ≤ 3) : (nmF t).length = t.items.length := by
  have hf := (h.form h1 h3).2.2.2.1
  unfold nmF
  split
  · simp
  · rename_i hn
    rcases hf with hf | hf
    · exact absurd hf hn
    · exact hf.1

theorem shortB_app (a b : List ByteArray) : za1 (a ++ b) = (za1 a && za1 b) := by simp [za1]

theorem za8 {k : Int} {t : VT} (h : AtV k t) (h1 : 1 ≤ k) (h3 : k ≤ 3) : za1 (nmF t) = true := by
  unfold nmF
  split
  · unfold za1
    rw [List.all_eq_true]
    intro s hs
    rw [List.eq_of_mem_replicate hs]
    rfl
  · exact (h.form h1 h3).2.2.2.2.1

theorem allE_rep {l : List ByteArray} (h : allE l = true) : l = List.replicate l.length ⟨#[]⟩ := by
  rw [List.eq_replicate_iff]
  refine ⟨rfl, fun s hs => ?_⟩
  unfold allE at h
  rw [List.all_eq_true] at h
  exact ba_zero (h s hs)

theorem nmF_td {k : Int} {is : List It} {ns : List ByteArray} (h : ns.length = is.length) : nmF (vecN k is (tdN ns)) = ns := by
  show (if tdN ns = [] then List.replicate is.length ⟨#[]⟩ else tdN ns) = ns
  unfold tdN
  cases ha : allE ns with
  | true =>
    rw [if_pos rfl, if_pos rfl, ← h]
    exact (allE_rep ha).symm
  | false =>
    simp only [Bool.false_eq_true, if_false]
    split
    · rename_i hn
      rw [hn] at ha
      exact absurd ha (by decide)
    · rfl

theorem cbM_nm {k : Int} {t : VT} (h : AtV k t) (h1 : 1 ≤ k) (h3 : k ≤ 3) : cbM ⟨#[]⟩ t.names (lenV t) (lenV t) = nmF t := by
  have hf := h.form h1 h3
  rw [hf.2.1]
  unfold cbM nmF
  have e : ∀ j, nmC ⟨#[]⟩ t.names t.items.length j = t.names.getD j ⟨#[]⟩ := fun j => by unfold nmC; rw [if_pos (by simp [za0])]
  apply List.ext_getElem
  · rw [List.length_map, List.length_range]
    split
    · simp
    · rename_i hn
      rcases hf.2.2.2.1 with hf | hf
      · exact absurd hf hn
      · exact hf.1.symm
  · intro i a b
    rw [List.getElem_map, List.getElem_range, e]
    split
    · rename_i hn
      simp [hn]
    · rename_i hn
      have hlt : i < t.names.length := by
        rcases hf.2.2.2.1 with hf | hf
        · exact absurd hf hn
        · rw [hf.1]; simpa using a
      simp [List.getD_eq_getElem?_getD, hlt]

theorem cvT_at {k : Int} {t : VT} (h : AtV k t) (h1 : 1 ≤ k) (h3 : k ≤ 3) : cvT k t = vecN k t.items t.names := by
  unfold cvT
  rw [h.kind, if_neg (by omega), if_neg (by omega), if_neg (by omega)]
  have : t.items.map (cvI k k) = t.items := by
    have e : ∀ x, cvI k k x = x := fun x => by unfold cvI; rw [if_pos (by simp)]
    have e2 : cvI k k = id := funext e
    rw [e2, List.map_id]
  rw [this]

theorem coB_at {k : Int} {t : VT} (h : AtV k t) (h1 : 1 ≤ k) (h3 : k ≤ 3) : coB k t = true := by
  have hf := h.form h1 h3
  unfold coB
  rw [h.ok, cvT_at h h1 h3, isV_vecN h1 h3 hf.2.2.1 hf.2.2.2.2.2 hf.2.2.2.1 hf.2.2.2.2.1]
  unfold cvB
  rw [h.kind, if_neg (by omega)]
  simp
  omega

def lenW (t : VT) : Nat := if isV t then lenV t else 0

/-- the names of combined vectors -/
def cbF (k : Int) (I : List It) (N : List ByteArray) : VT := if I.length ≤ 40 then vecN k I (tdN N) else vecI 0 []

def cbX (I : List It) : ByteArray := if I.length ≤ 40 then ⟨#[]⟩ else bigS

theorem cb_end {k : Int} {ps : List VT} {I : List It} {N : List ByteArray} (h1 : 1 ≤ k) (h3 : k ≤ 3) (ha : ∀ p ∈ ps, AtV k p) (hK : cbK ps ps.length = k) (hL : cbL ps ps.length = I.length) (hI : cbI k ps ps.length = I) (hP : cbP k ps ps.length = []) (hN : cbN [] ps ps.length = N) (hl : N.length = I.length) (hs : za1 N = true) (hi : ∀ x ∈ I, itemB k x = true) : cbT ps [] = cbF k I N ∧ cbS ps [] = cbX I := by
  have hv : ps.all isV = true := List.all_eq_true.2 (fun p hp => (ha p hp).ok)
  have hb : cbB ps [] = true := rfl
  have hV : cbV k ps [] = vecN k I (tdN N) := by
    unfold cbV
    rw [hI, hP, hN]
    rfl
  unfold cbT cbS cbF cbX
  rw [hv, hb, hK, hV]
  by_cases h40 : I.length ≤ 40
  · have hg : cbG k ps = true := cbG_yes (by omega) (fun p hp => coB_at (ha p hp) h1 h3)
    have hw : isV (vecN k I (tdN N)) = true := by
      refine isV_vecN h1 h3 h40 hi ?_ ?_
      · unfold tdN
        cases hA : allE N with
        | true => exact .inl rfl
        | false => exact .inr ⟨hl, hA⟩
      · unfold tdN
        split
        · rfl
        · exact hs
    rw [hg, hw, if_pos h40, if_pos h40]
    exact ⟨rfl, rfl⟩
  · have hg : cbG k ps = false := by
      unfold cbG
      rw [hL, decide_eq_false h40, Bool.false_and]
    rw [hg, if_neg h40, if_neg h40]
    exact ⟨rfl, rfl⟩

theorem cb_two {k : Int} {a b : VT} (h1 : 1 ≤ k) (h3 : k ≤ 3) (ha : AtV k a) (hb : AtV k b) : cbT [a, b] [] = cbF k (a.items ++ b.items) (nmF a ++ nmF b) ∧ cbS [a, b] [] = cbX (a.items ++ b.items) := by
  have fa := ha.form h1 h3
  have fb := hb.form h1 h3
  refine cb_end h1 h3 ?_ ?_ ?_ ?_ ?_ ?_ ?_ ?_ ?_
  · intro p hp
    simp only [List.mem_cons, List.not_mem_nil, or_false] at hp
    rcases hp with rfl | rfl <;> assumption
  · show max (max 0 (lkI a.kind)) (lkI b.kind) = k
    rw [ha.kind, hb.kind]
    unfold lkI
    rw [if_neg (by omega)]
    omega
  · show 0 + lenV a + lenV b = _
    rw [fa.2.1, fb.2.1, List.length_append, Nat.zero_add]
  · show [] ++ (cvT k a).items ++ (cvT k b).items = _
    rw [cvT_at ha h1 h3, cvT_at hb h1 h3]
    rfl
  · show [] ++ (cvT k a).parts ++ (cvT k b).parts = _
    rw [cvT_at ha h1 h3, cvT_at hb h1 h3]
    rfl
  · show [] ++ cbM ⟨#[]⟩ a.names (lenV a) (lenV a) ++ cbM ⟨#[]⟩ b.names (lenV b) (lenV b) = _
    rw [cbM_nm ha h1 h3, cbM_nm hb h1 h3]
    rfl
  · rw [List.length_append, List.length_append, nmF_len ha h1 h3, nmF_len hb h1 h3]
  · rw [shortB_app, za8 ha h1 h3, za8 hb h1 h3]
    rfl
  · intro x hx
    rcases List.mem_append.1 hx with hx | hx
    · exact fa.2.2.2.2.2 x hx
    · exact fb.2.2.2.2.2 x hx

theorem cb_three {k : Int} {a b c : VT} (h1 : 1 ≤ k) (h3 : k ≤ 3) (ha : AtV k a) (hb : AtV k b) (hc : AtV k c) : cbT [a, b, c] [] = cbF k (a.items ++ b.items ++ c.items) (nmF a ++ nmF b ++ nmF c) ∧ cbS [a, b, c] [] = cbX (a.items ++ b.items ++ c.items) := by
  have fa := ha.form h1 h3
  have fb := hb.form h1 h3
  have fc := hc.form h1 h3
  refine cb_end h1 h3 ?_ ?_ ?_ ?_ ?_ ?_ ?_ ?_ ?_
  · intro p hp
    simp only [List.mem_cons, List.not_mem_nil, or_false] at hp
    rcases hp with rfl | rfl | rfl <;> assumption
  · show max (max (max 0 (lkI a.kind)) (lkI b.kind)) (lkI c.kind) = k
    rw [ha.kind, hb.kind, hc.kind]
    unfold lkI
    rw [if_neg (by omega)]
    omega
  · show 0 + lenV a + lenV b + lenV c = _
    rw [fa.2.1, fb.2.1, fc.2.1, List.length_append, List.length_append, Nat.zero_add]
  · show [] ++ (cvT k a).items ++ (cvT k b).items ++ (cvT k c).items = _
    rw [cvT_at ha h1 h3, cvT_at hb h1 h3, cvT_at hc h1 h3]
    rfl
  · show [] ++ (cvT k a).parts ++ (cvT k b).parts ++ (cvT k c).parts = _
    rw [cvT_at ha h1 h3, cvT_at hb h1 h3, cvT_at hc h1 h3]
    rfl
  · show [] ++ cbM ⟨#[]⟩ a.names (lenV a) (lenV a) ++ cbM ⟨#[]⟩ b.names (lenV b) (lenV b) ++ cbM ⟨#[]⟩ c.names (lenV c) (lenV c) = _
    rw [cbM_nm ha h1 h3, cbM_nm hb h1 h3, cbM_nm hc h1 h3]
    rfl
  · simp only [List.length_append]
    rw [nmF_len ha h1 h3, nmF_len hb h1 h3, nmF_len hc h1 h3]
  · rw [shortB_app, shortB_app, za8 ha h1 h3, za8 hb h1 h3, za8 hc h1 h3]
    rfl
  · intro x hx
    rcases List.mem_append.1 hx with hx | hx
    · rcases List.mem_append.1 hx with hx | hx
      · exact fa.2.2.2.2.2 x hx
      · exact fb.2.2.2.2.2 x hx
    · exact fc.2.2.2.2.2 x hx

theorem cbX_nil {I : List It} (h : cbX I = ⟨#[]⟩) : I.length ≤ 40 := by
  unfold cbX at h
  split at h
  · assumption
  · exact absurd h (by decide)

theorem cb_at {k : Int} {I : List It} {N : List ByteArray} (h1 : 1 ≤ k) (h3 : k ≤ 3) (h40 : I.length ≤ 40) (hl : N.length = I.length) (hs : za1 N = true) (hi : ∀ x ∈ I, itemB k x = true) : AtV k (cbF k I N) ∧ (cbF k I N).items = I ∧ nmF (cbF k I N) = N := by
  unfold cbF
  rw [if_pos h40]
  refine ⟨⟨?_, rfl⟩, rfl, nmF_td hl⟩
  refine isV_vecN h1 h3 h40 hi ?_ ?_
  · unfold tdN
    cases hA : allE N with
    | true => exact .inl rfl
    | false => exact .inr ⟨hl, hA⟩
  · unfold tdN
    split
    · rfl
    · exact hs

theorem cb_ok (ps : List VT) (ls : List ByteArray) : isV (cbT ps ls) = true := by
  unfold cbT
  repeat' split
  all_goals first | assumption | decide

theorem co_ok (k : Int) (t : VT) : isV (coT k t) = true := by
  cases h : coB k t with
  | false => rw [co_no h]; decide
  | true =>
    rw [co_yes h]
    unfold coB at h
    simp only [Bool.and_eq_true] at h
    exact h.2

/-- combining is associative, and adds the lengths -/
theorem cb_assoc {k : Int} {a b c : VT} (h1 : 1 ≤ k) (h3 : k ≤ 3) (ha : AtV k a) (hb : AtV k b) (hc : AtV k c) (p : cbS [a, b] [] = ⟨#[]⟩) (q : cbS [b, c] [] = ⟨#[]⟩) :
    cbT [cbT [a, b] [], c] [] = cbT [a, b, c] [] ∧ cbT [a, cbT [b, c] []] [] = cbT [a, b, c] [] ∧ cbS [cbT [a, b] [], c] [] = cbS [a, b, c] [] ∧ cbS [a, cbT [b, c] []] [] = cbS [a, b, c] [] ∧ (cbS [a, b, c] [] = ⟨#[]⟩ → lenW (cbT [a, b, c] []) = lenW a + lenW b + lenW c) := by
  obtain ⟨e1, s1⟩ := cb_two h1 h3 ha hb
  obtain ⟨e2, s2⟩ := cb_two h1 h3 hb hc
  obtain ⟨e3, s3⟩ := cb_three h1 h3 ha hb hc
  have fa := ha.form h1 h3
  have fb := hb.form h1 h3
  have fc := hc.form h1 h3
  rw [s1] at p
  rw [s2] at q
  have X := cb_at (N := nmF a ++ nmF b) h1 h3 (cbX_nil p) (by rw [List.length_append, List.length_append, nmF_len ha h1 h3, nmF_len hb h1 h3]) (by rw [shortB_app, za8 ha h1 h3, za8 hb h1 h3]; rfl) (fun x hx => by
    rcases List.mem_append.1 hx with hx | hx
    · exact fa.2.2.2.2.2 x hx
    · exact fb.2.2.2.2.2 x hx)
  have Y := cb_at (N := nmF b ++ nmF c) h1 h3 (cbX_nil q) (by rw [List.length_append, List.length_append, nmF_len hb h1 h3, nmF_len hc h1 h3]) (by rw [shortB_app, za8 hb h1 h3, za8 hc h1 h3]; rfl) (fun x hx => by
    rcases List.mem_append.1 hx with hx | hx
    · exact fb.2.2.2.2.2 x hx
    · exact fc.2.2.2.2.2 x hx)
  rw [e1, e2, e3, s3]
  obtain ⟨e4, s4⟩ := cb_two h1 h3 X.1 hc
  obtain ⟨e5, s5⟩ := cb_two h1 h3 ha Y.1
  rw [e4, e5, s4, s5, X.2.1, X.2.2, Y.2.1, Y.2.2, List.append_assoc, List.append_assoc]
  refine ⟨rfl, rfl, rfl, rfl, fun hz => ?_⟩
  have hz := cbX_nil hz
  unfold cbF
  rw [if_pos hz]
  have Z := cb_at (N := nmF a ++ (nmF b ++ nmF c)) (I := a.items ++ (b.items ++ c.items)) h1 h3 hz (by simp only [List.length_append]; rw [nmF_len ha h1 h3, nmF_len hb h1 h3, nmF_len hc h1 h3]) (by rw [shortB_app, shortB_app, za8 ha h1 h3, za8 hb h1 h3, za8 hc h1 h3]; rfl) (fun x hx => by
    rcases List.mem_append.1 hx with hx | hx
    · exact fa.2.2.2.2.2 x hx
    · rcases List.mem_append.1 hx with hx | hx
      · exact fb.2.2.2.2.2 x hx
      · exact fc.2.2.2.2.2 x hx)
  have zf := Z.1.form h1 h3
  rw [Z.2.1] at zf
  unfold cbF at Z zf
  rw [if_pos hz] at Z zf
  unfold lenW
  rw [Z.1.ok, ha.ok, hb.ok, hc.ok, if_pos rfl, if_pos rfl, if_pos rfl, if_pos rfl, zf.2.1, fa.2.1, fb.2.1, fc.2.1]
  simp only [List.length_append]
  omega

end Go.Proofs.Ytmofcbpabdbjlaa
