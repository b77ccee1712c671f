/-
  What is proved: what the program's test of a vector's node returns.
  Condition: vectors of size at most 1048576.
-/
import Derived.Test.YtmofcbpabdbjlaaShapeA
namespace Go.Proofs.Ytmofcbpabdbjlaa
set_option maxRecDepth 8000
open Go.RowKit Go.ChangeShapes Go.WideShapes
set_option linter.unusedVariables false
set_option linter.unusedSimpArgs false

theorem Sl.txn {w u : World} {A : Option Addr} {l : List ByteArray} {n : Nat} (h : Sl w 1 A n (stc l)) (hb : Below w.heap.size w u) {i : Nat} (hn : i < n) (hi : i < l.length) :
    ∃ b off, A = some ⟨b, off, none⟩ ∧ b < w.heap.size ∧ u.cell? ⟨b, off + i, none⟩ = some (.string (l[i]'hi)) := by
  have hln : l.length = n := by have := h.len; simpa [stc] using this
  subst hln
  exact h.tx hb hi rfl
theorem Sl.itn {w u : World} {A : Option Addr} {l : List It} {n : Nat} (h : Sl w 3 A n (itc l)) (hb : Below w.heap.size w u) {i : Nat} (hn : i < n) (hi : i < l.length) {x : It} (hx : l[i]'hi = x) :
    ∃ b off, A = some ⟨b, off, none⟩ ∧ b < w.heap.size ∧ u.cell? ⟨b, off + i * 3, none⟩ = some (.int .i64 x.num) ∧ u.cell? ⟨b, off + i * 3 + 1, none⟩ = some (.int .i64 x.den) ∧ u.cell? ⟨b, off + i * 3 + 2, none⟩ = some (.string x.text) := by
  have hln : l.length = n := by have := h.len; rw [itc_len] at this; omega
  subst hln
  exact h.it hb hi hx

theorem nodeB_eq (k : Int) (is : List It) (ps : List VT) (ns cs ls : List ByteArray) (c e : Int) : nodeB (.mk k is ps ns cs ls c e) = (headB (lenN k is.length ps.length) k is ps ns cs ls c e && is.all (itB k ls)) := rfl
theorem dec_not {p q : Prop} [Decidable p] [Decidable q] (h : p ↔ ¬ q) : decide p = !decide q := by rw [← decide_not]; exact decide_eq_decide.2 h
theorem headB_split (n : Nat) (k : Int) (is : List It) (ps : List VT) (ns cs ls : List ByteArray) (c e : Int) {ni np nn nc nl : Nat} (hni : is.length = ni) (hnp : ps.length = np) (hnn : ns.length = nn) (hnc : cs.length = nc) (hnl : ls.length = nl) {q2 q4 q12 q14 q16 q18 : Bool}
    (h2 : q2 = (!(decide (0 ≤ k ∧ k ≤ 5) && decide (n ≤ 40) && labB 3 cs && labB 20 ls))) (h4 : q4 = (decide (0 < nn) && (!decide (nn = n) || allE ns))) (h12 : q12 = ((decide (0 < nl) && !decide (k = 2)) || (decide (0 < np) && !decide (k = 4))))
    (h14 : q14 = (!decide (k = 5) && (!decide (c = 0) || !decide (e = 0)))) (h16 : q16 = (decide (k = 5) && (decide (0 < ni) || decide (0 < nn) || decide (c < -999) || decide (99999 < c) || decide (e < 0) || decide (99999 < e))))
    (h18 : q18 = (decide (k = 0) && (decide (0 < ni) || decide (0 < nc)))) :
    headB n k is ps ns cs ls c e = (!q2 && !q4 && shortB ns && !q12 && !q14 && !q16 && !q18) := by
  subst hni hnp hnn hnc hnl
  unfold headB
  rw [h2, h4, h12, h14, h16, h18]
  have z : ∀ m : Nat, decide (0 < m) = !decide (m = 0) := fun m => dec_not (by omega)
  have zc : (decide (c < -999) || decide (99999 < c)) = !decide (-999 ≤ c ∧ c ≤ 99999) := by rw [← Bool.decide_or]; exact dec_not (by omega)
  have ze : (decide (e < 0) || decide (99999 < e)) = !decide (0 ≤ e ∧ e ≤ 99999) := by rw [← Bool.decide_or]; exact dec_not (by omega)
  have r16 : ∀ a b c' d e' f : Bool, (a || b || c' || d || e' || f) = (a || b || (c' || d) || (e' || f)) := by decide
  rw [r16, zc, ze, z, z, z, z, z]
  generalize decide (0 ≤ k ∧ k ≤ 5) = a1
  generalize decide (n ≤ 40) = a2
  generalize labB 3 cs = a3
  generalize labB 20 ls = a4
  generalize decide (ns.length = 0) = a5
  generalize decide (ns.length = n) = a6
  generalize allE ns = a7
  generalize shortB ns = a8
  generalize decide (ls.length = 0) = a9
  generalize decide (ps.length = 0) = b1
  generalize decide (k = 2) = b2
  generalize decide (k = 4) = b3
  generalize decide (k = 5) = b4
  generalize decide (c = 0) = b5
  generalize decide (e = 0) = b6
  generalize decide (is.length = 0) = b7
  generalize decide (-999 ≤ c ∧ c ≤ 99999) = b8
  generalize decide (0 ≤ e ∧ e ≤ 99999) = b9
  generalize decide (k = 0) = c1
  generalize decide (cs.length = 0) = c2
  simp [Bool.not_and, Bool.not_or, Bool.and_assoc, Bool.or_assoc]

theorem itB_split (k : Int) (ls : List ByteArray) (x : It) {nl : Nat} (hnl : ls.length = nl) {q23 q25 : Bool} (h23 : q23 = (!(decide (1 ≤ k ∧ k ≤ 3) && itemB k x))) (h25 : q25 = (decide (0 < nl) && !misB x && (!decide (x.den = 1) || decide (x.num < 1) || decide ((nl : Int) < x.num)))) :
    itB k ls x = (!q23 && !q25) := by
  subst hnl
  unfold itB levB
  rw [h23, h25]
  have z : decide (0 < ls.length) = !decide (ls.length = 0) := dec_not (by omega)
  have z1 : decide (x.num < 1) = !decide (1 ≤ x.num) := dec_not (by omega)
  have z2 : decide ((ls.length : Int) < x.num) = !decide (x.num ≤ ls.length) := dec_not (by omega)
  rw [z, z1, z2]
  generalize decide (ls.length = 0) = a1
  generalize decide (x.den = 1) = a2
  generalize decide (1 ≤ x.num) = a3
  generalize decide (x.num ≤ (ls.length : Int)) = a4
  simp [Bool.not_and, Bool.not_or, Bool.and_assoc, Bool.or_assoc]
theorem all_take {α : Type} {f : α → Bool} {l : List α} {k : Nat} (h : k < l.length) : (l.take (k + 1)).all f = ((l.take k).all f && f l[k]) := by rw [take_snoc' h, List.all_append]; simp
theorem all_false {α : Type} {f : α → Bool} {l : List α} {k : Nat} (h : k < l.length) (he : f l[k] = false) : l.all f = false := by
  rw [List.all_eq_false]
  exact ⟨_, List.getElem_mem h, by simp [he]⟩

set_option maxRecDepth 100000 in
set_option maxHeartbeats 4000000 in
theorem impl_shape (k : Int) (is : List It) (ps : List VT) (ns cs ls : List ByteArray) (c e : Int) (vs : List Value) (w : World) (hv : RdV w (.mk k is ps ns cs ls c e) vs) (hz : szV (.mk k is ps ns cs ls c e) ≤ 1048576) :
    Calls Try.prog 187 #[.agg vs.toArray] w fun e' w' => e' = .returned (.bool (nodeB (.mk k is ps ns cs ls c e))) ∧ Below w.heap.size w w' := by
  obtain ⟨Ai, Ap, An, Ac, Al, ci, cp, cn, cc, cl, pvs, rfl, h1, h2, h3, h4, h5⟩ := hv.open
  have hcap := hv.caps
  have HT : szV (.mk k is ps ns cs ls c e) = szI is + szL ps + szS ns + szS cs + szS ls := rfl
  have hz' := szL_eq ps
  unfold szI szS at HT
  have z1 : is.length + ps.length ≤ 1048576 := by omega
  have z2 : itz is ≤ 1048576 := by omega
  have z3 : ns.length ≤ 1048576 := by omega
  have z4 : cs.length ≤ 1048576 := by omega
  have z5 : ls.length ≤ 1048576 := by omega
  have c4 := hcap.2.2.2.1
  have c5 := hcap.2.2.2.2
  clear HT hv hz hz' hcap
  rw [nodeB_eq]
  have C4 : ∀ u, Below w.heap.size w u → Calls Try.prog 209 #[.slice Ac cs.length cc, .int .i64 3] u fun e w' => e = .returned (.bool (labB 3 cs)) ∧ u = w' := fun u hb => impl_labels 3 (by omega) Ac cc cs u (h4.below hb) (by omega) c4
  have C5 : ∀ u, Below w.heap.size w u → Calls Try.prog 209 #[.slice Al ls.length cl, .int .i64 20] u fun e w' => e = .returned (.bool (labB 20 ls)) ∧ u = w' := fun u hb => impl_labels 20 (by omega) Al cl ls u (h5.below hb) (by omega) c5
  have C3 := fun u (hb : Below w.heap.size w u) => impl_allEmpty An cn ns u (h3.below hb) (by omega)
  obtain ⟨n, hn⟩ : ∃ n, lenN k is.length ps.length = n := ⟨_, rfl⟩
  have CL := fun u => impl_length k Ai Ap is.length ps.length ci cp (.slice An ns.length cn) (.slice Ac cs.length cc) (.slice Al ls.length cl) (.int .i64 c) (.int .i64 e) u (by omega)
  rw [hn] at CL ⊢
  have hn2 : n ≤ 1048577 := by rw [← hn]; unfold lenN; split <;> omega
  clear hn c4 c5
  obtain ⟨ni, hni⟩ : ∃ q, is.length = q := ⟨_, rfl⟩
  obtain ⟨np, hnp⟩ : ∃ q, ps.length = q := ⟨_, rfl⟩
  obtain ⟨nn, hnn⟩ : ∃ q, ns.length = q := ⟨_, rfl⟩
  obtain ⟨nc, hnc⟩ : ∃ q, cs.length = q := ⟨_, rfl⟩
  obtain ⟨nl, hnl⟩ : ∃ q, ls.length = q := ⟨_, rfl⟩
  have HQ := fun (q2 q4 q12 q14 q16 q18 : Bool) h2 h4 h12 h14 h16 h18 => headB_split n k is ps ns cs ls c e hni hnp hnn hnc hnl (q2 := q2) (q4 := q4) (q12 := q12) (q14 := q14) (q16 := q16) (q18 := q18) h2 h4 h12 h14 h16 h18
  have HIT := fun x (q23 q25 : Bool) h23 h25 => itB_split k ls x hnl (q23 := q23) (q25 := q25) h23 h25
  rw [hni, hnp, hnn, hnc, hnl] at CL
  rw [hnn] at C3 h3 z3
  rw [hnc] at C4 h4 z4
  rw [hnl] at C5 h5 z5
  rw [hni] at h1 z1
  rw [hnp] at z1
  rw [hni, hnp, hnn, hnc, hnl]
  have HLi := Lib.hid hni
  have HLn := Lib.hid hnn
  clear hni hnp hnn hnc hnl h2
  have HQ' := Lib.hid HQ
  have HIT' := Lib.hid HIT
  clear HQ HIT
  obtain ⟨hB, hhB⟩ : ∃ q, headB n k is ps ns cs ls c e = q := ⟨_, rfl⟩
  rw [hhB] at HQ' ⊢
  clear hhB
  have FIN : ∀ u, Below w.heap.size w u → hB = false → Ending.returned (Value.bool false) = Ending.returned (Value.bool (hB && is.all (itB k ls))) ∧ Below w.heap.size w u := fun u hb h => ⟨by rw [h]; rfl, hb⟩
  go_enter Try.func187, Try.ntmps187
  have hO := Own.nil w
  go_upto_region 2 with (first
    | ((with_reducible refine (CL _).mono ?_); rintro e u ⟨rfl, hb⟩; (replace hO := hO.step hb; clear hb))
    | ((with_reducible refine wpl_box ?_); refine wpList_box_own rfl (by rfl) hO rfl rfl (fun b => by simp only [Act.put, zA, zB, zC]; rfl) ?_; (refine nm 0 rfl ?_; clear hO; intro b0 u hO); simp only [zL, zK] at hO)
    | ((with_reducible refine wpl_load ?_); refine wpList_load_box rfl (by rfl) hO rfl _ (by exact at0) (by rfl) (by simp only [Act.put, zA, zB, zC]; rfl) ?_)
    | fail)
  refine shape_r2 C4 C5 (by omega) hO ?_
  clear hO
  intro c' x10 x11 x12 x13 x14 x15 x16 x17 x18 x19 x20 x21 x22 x23 x24 x25 x26 x27 x28 x29 x30 x31 x32 u hc' hO
  have H2 := Lib.hid hc'
  clear hc' C4 C5
  cases c' with
  | true =>
    have HR := Lib.hid (HQ'.out _ _ _ _ _ _ H2.out rfl rfl rfl rfl rfl)
    go_wp2_with (first
      | ((with_reducible refine wpl_alloc ?_); refine wpList_alloc_own rfl (by rfl) hO rfl (fun b => by simp only [Act.put, zA, zB, zC]; rfl) ?_; (first | (refine nm 0 rfl ?_; clear hO; intro b0 u hO) | (refine nm 1 rfl ?_; clear hO; intro b1 u hO)); simp only [zL, zK] at hO)
      | ((with_reducible refine wpl_box ?_); refine wpList_box_own rfl (by rfl) hO rfl rfl (fun b => by simp only [Act.put, zA, zB, zC]; rfl) ?_; (first | (refine nm 0 rfl ?_; clear hO; intro b0 u hO) | (refine nm 1 rfl ?_; clear hO; intro b1 u hO)); simp only [zL, zK] at hO)
      | ((with_reducible refine wpl_load ?_); refine wpList_load_box rfl (by (first | rfl | (simp only [Region.wanted, yielded, *]; go_simp; done) | (simp [Region.wanted, yielded, *]; done) | fail)) hO rfl _ (by (first | exact at0 | exact at1)) (by rfl) (by simp only [Act.put, zA, zB, zC]; rfl) ?_)
      | ((with_reducible refine wpl_load ?_); refine wpList_load_field rfl (by (first | rfl | (simp only [Region.wanted, yielded, *]; go_simp; done) | (simp [Region.wanted, yielded, *]; done) | fail)) hO rfl _ (by (first | exact at0 | exact at1)) (by rfl) (by simp only [Act.put, zA, zB, zC]; rfl) ?_)
      | ((with_reducible refine wpl_store ?_); refine wpList_store_box rfl (by rfl) hO rfl _ (by (first | exact at0 | exact at1)) rfl (by rfl) (by rfl) (by rfl) (by rfl) (by rfl) ?_; clear hO; intro u hO; simp only [zC, zB] at hO)
      | ((with_reducible refine wpl_store ?_); refine wpList_store_field rfl (by rfl) hO rfl _ (by (first | exact at0 | exact at1)) (zM rfl) (by simp only [Act.eval, zJ, zF, zD, zE, zP]; rfl) (by rfl) (by rfl) (by rfl) ?_; clear hO; intro u hO; simp only [zC, zB] at hO)
      | fail)
    go_ret
    exact FIN _ hO.below (by rw [HR.out]; rfl)
  | false =>
  go_upto_region 4 with (first
    | ((with_reducible refine wpl_alloc ?_); refine wpList_alloc_own rfl (by rfl) hO rfl (fun b => by simp only [Act.put, zA, zB, zC]; rfl) ?_; (first | (refine nm 0 rfl ?_; clear hO; intro b0 u hO) | (refine nm 1 rfl ?_; clear hO; intro b1 u hO)); simp only [zL, zK] at hO)
    | ((with_reducible refine wpl_box ?_); refine wpList_box_own rfl (by rfl) hO rfl rfl (fun b => by simp only [Act.put, zA, zB, zC]; rfl) ?_; (first | (refine nm 0 rfl ?_; clear hO; intro b0 u hO) | (refine nm 1 rfl ?_; clear hO; intro b1 u hO)); simp only [zL, zK] at hO)
    | ((with_reducible refine wpl_load ?_); refine wpList_load_box rfl (by (first | rfl | (simp only [Region.wanted, yielded, *]; go_simp; done) | (simp [Region.wanted, yielded, *]; done) | fail)) hO rfl _ (by (first | exact at0 | exact at1)) (by rfl) (by simp only [Act.put, zA, zB, zC]; rfl) ?_)
    | ((with_reducible refine wpl_load ?_); refine wpList_load_field rfl (by (first | rfl | (simp only [Region.wanted, yielded, *]; go_simp; done) | (simp [Region.wanted, yielded, *]; done) | fail)) hO rfl _ (by (first | exact at0 | exact at1)) (by rfl) (by simp only [Act.put, zA, zB, zC]; rfl) ?_)
    | ((with_reducible refine wpl_store ?_); refine wpList_store_box rfl (by rfl) hO rfl _ (by (first | exact at0 | exact at1)) rfl (by rfl) (by rfl) (by rfl) (by rfl) (by rfl) ?_; clear hO; intro u hO; simp only [zC, zB] at hO)
    | ((with_reducible refine wpl_store ?_); refine wpList_store_field rfl (by rfl) hO rfl _ (by (first | exact at0 | exact at1)) (zM rfl) (by simp only [Act.eval, zJ, zF, zD, zE, zP]; rfl) (by rfl) (by rfl) (by rfl) ?_; clear hO; intro u hO; simp only [zC, zB] at hO)
    | fail)
  refine shape_r4 C3 hO ?_
  clear hO
  intro c' x34 x35 x36 x37 x38 x39 x40 x41 x42 x43 x44 x45 x46 x47 x48 u hc' hO
  have H4 := Lib.hid hc'
  clear hc' C3
  cases c' with
  | true =>
    have HR := Lib.hid (HQ'.out _ _ _ _ _ _ H2.out H4.out rfl rfl rfl rfl)
    go_wp2_with (first
      | ((with_reducible refine wpl_alloc ?_); refine wpList_alloc_own rfl (by rfl) hO rfl (fun b => by simp only [Act.put, zA, zB, zC]; rfl) ?_; (first | (refine nm 0 rfl ?_; clear hO; intro b0 u hO) | (refine nm 1 rfl ?_; clear hO; intro b1 u hO)); simp only [zL, zK] at hO)
      | ((with_reducible refine wpl_box ?_); refine wpList_box_own rfl (by rfl) hO rfl rfl (fun b => by simp only [Act.put, zA, zB, zC]; rfl) ?_; (first | (refine nm 0 rfl ?_; clear hO; intro b0 u hO) | (refine nm 1 rfl ?_; clear hO; intro b1 u hO)); simp only [zL, zK] at hO)
      | ((with_reducible refine wpl_load ?_); refine wpList_load_box rfl (by (first | rfl | (simp only [Region.wanted, yielded, *]; go_simp; done) | (simp [Region.wanted, yielded, *]; done) | fail)) hO rfl _ (by (first | exact at0 | exact at1)) (by rfl) (by simp only [Act.put, zA, zB, zC]; rfl) ?_)
      | ((with_reducible refine wpl_load ?_); refine wpList_load_field rfl (by (first | rfl | (simp only [Region.wanted, yielded, *]; go_simp; done) | (simp [Region.wanted, yielded, *]; done) | fail)) hO rfl _ (by (first | exact at0 | exact at1)) (by rfl) (by simp only [Act.put, zA, zB, zC]; rfl) ?_)
      | ((with_reducible refine wpl_store ?_); refine wpList_store_box rfl (by rfl) hO rfl _ (by (first | exact at0 | exact at1)) rfl (by rfl) (by rfl) (by rfl) (by rfl) (by rfl) ?_; clear hO; intro u hO; simp only [zC, zB] at hO)
      | ((with_reducible refine wpl_store ?_); refine wpList_store_field rfl (by rfl) hO rfl _ (by (first | exact at0 | exact at1)) (zM rfl) (by simp only [Act.eval, zJ, zF, zD, zE, zP]; rfl) (by rfl) (by rfl) (by rfl) ?_; clear hO; intro u hO; simp only [zC, zB] at hO)
      | fail)
    go_ret
    exact FIN _ hO.below (by rw [HR.out]; rfl)
  | false =>
  go_wp2_with (first
    | ((with_reducible refine wpl_load ?_); refine wpList_load_field rfl (by rfl) hO rfl _ (by exact at0) (by rfl) (by simp only [Act.put, zA, zB, zC]; rfl) ?_)
    | fail)
  go_loopw [53] (fun i u => ∃ m : Nat, m ≤ nn ∧ i = .int .i64 m ∧ Hid (shortB (ns.take m) = true) ∧ Own w [box b0 29 [.int .i64 k, .slice Ai ni ci, .slice Ap np cp, .slice An nn cn, .slice Ac nc cc, .slice Al nl cl, .int .i64 c, .int .i64 e]] u) (fun i _ => nn - (intOf i).toNat)
  case atStart => exact ⟨0, Nat.zero_le _, rfl, rfl, hO⟩
  case round =>
    clear hO
    obtain ⟨m, hm, rfl, hsh, hO⟩ := hrel
    by_cases hlt : m < nn
    · have hml : m < ns.length := by rw [HLn.out]; exact hlt
      obtain ⟨g, off, rfl, hg, hc⟩ := Sl.txn h3 hO.below hlt hml
      have HT := Lib.hid (shortB_take hml)
      have HF := Lib.hid (fun he => shortB_false (l := ns) hml he)
      obtain ⟨x, hx⟩ : ∃ x, ns[m]'hml = x := ⟨_, rfl⟩
      rw [hx] at hc HT HF
      clear hx hml
      by_cases e2 : 60 < x.size
      · have HR := Lib.hid (HQ'.out _ _ _ _ _ _ H2.out H4.out rfl rfl rfl rfl)
        have HS := Lib.hid (HF.out e2)
        go_wp2_with fail
        go_ret
        exact FIN _ hO.below (by rw [HR.out, HS.out]; simp)
      · have HD := Lib.hid (decide_eq_true (show x.size ≤ 60 by omega))
        go_wp2_with fail
        go_roundw
        case rel => exact ⟨m + 1, by omega, by go_num, by show _ = _; rw [HT.out, hsh.out, HD.out]; rfl, hO⟩
        case measure => simp [intOf]; omega
    · have hmn : m = nn := by omega
      have HS : Hid (shortB ns = true) := Lib.hid (by rw [← hsh.out, List.take_of_length_le (by rw [HLn.out]; omega)])
      clear hsh h3
      obtain rfl : nn = m := hmn.symm
      clear hmn
      go_upto_region 12 with (first
        | ((with_reducible refine wpl_alloc ?_); refine wpList_alloc_own rfl (by rfl) hO rfl (fun b => by simp only [Act.put, zA, zB, zC]; rfl) ?_; (first | (refine nm 0 rfl ?_; clear hO; intro b0 u hO) | (refine nm 1 rfl ?_; clear hO; intro b1 u hO)); simp only [zL, zK] at hO)
        | ((with_reducible refine wpl_box ?_); refine wpList_box_own rfl (by rfl) hO rfl rfl (fun b => by simp only [Act.put, zA, zB, zC]; rfl) ?_; (first | (refine nm 0 rfl ?_; clear hO; intro b0 u hO) | (refine nm 1 rfl ?_; clear hO; intro b1 u hO)); simp only [zL, zK] at hO)
        | ((with_reducible refine wpl_load ?_); refine wpList_load_box rfl (by (first | rfl | (simp only [Region.wanted, yielded, *]; go_simp; done) | (simp [Region.wanted, yielded, *]; done) | fail)) hO rfl _ (by (first | exact at0 | exact at1)) (by rfl) (by simp only [Act.put, zA, zB, zC]; rfl) ?_)
        | ((with_reducible refine wpl_load ?_); refine wpList_load_field rfl (by (first | rfl | (simp only [Region.wanted, yielded, *]; go_simp; done) | (simp [Region.wanted, yielded, *]; done) | fail)) hO rfl _ (by (first | exact at0 | exact at1)) (by rfl) (by simp only [Act.put, zA, zB, zC]; rfl) ?_)
        | ((with_reducible refine wpl_store ?_); refine wpList_store_box rfl (by rfl) hO rfl _ (by (first | exact at0 | exact at1)) rfl (by rfl) (by rfl) (by rfl) (by rfl) (by rfl) ?_; clear hO; intro u hO; simp only [zC, zB] at hO)
        | ((with_reducible refine wpl_store ?_); refine wpList_store_field rfl (by rfl) hO rfl _ (by (first | exact at0 | exact at1)) (zM rfl) (by simp only [Act.eval, zJ, zF, zD, zE, zP]; rfl) (by rfl) (by rfl) (by rfl) ?_; clear hO; intro u hO; simp only [zC, zB] at hO)
        | fail)
      refine shape_r12 hO ?_
      clear hO
      intro c' x61 x62 x63 x64 x65 x66 x67 x68 x69 x70 x71 x72 x73 x74 x75 x76 x77 x78 x79 u hc' hO
      have H12 := Lib.hid hc'
      clear hc'
      cases c' with
      | true =>
        have HR := Lib.hid (HQ'.out _ _ _ _ _ _ H2.out H4.out H12.out rfl rfl rfl)
        go_wp2_with (first
          | ((with_reducible refine wpl_alloc ?_); refine wpList_alloc_own rfl (by rfl) hO rfl (fun b => by simp only [Act.put, zA, zB, zC]; rfl) ?_; (first | (refine nm 0 rfl ?_; clear hO; intro b0 u hO) | (refine nm 1 rfl ?_; clear hO; intro b1 u hO)); simp only [zL, zK] at hO)
          | ((with_reducible refine wpl_box ?_); refine wpList_box_own rfl (by rfl) hO rfl rfl (fun b => by simp only [Act.put, zA, zB, zC]; rfl) ?_; (first | (refine nm 0 rfl ?_; clear hO; intro b0 u hO) | (refine nm 1 rfl ?_; clear hO; intro b1 u hO)); simp only [zL, zK] at hO)
          | ((with_reducible refine wpl_load ?_); refine wpList_load_box rfl (by (first | rfl | (simp only [Region.wanted, yielded, *]; go_simp; done) | (simp [Region.wanted, yielded, *]; done) | fail)) hO rfl _ (by (first | exact at0 | exact at1)) (by rfl) (by simp only [Act.put, zA, zB, zC]; rfl) ?_)
          | ((with_reducible refine wpl_load ?_); refine wpList_load_field rfl (by (first | rfl | (simp only [Region.wanted, yielded, *]; go_simp; done) | (simp [Region.wanted, yielded, *]; done) | fail)) hO rfl _ (by (first | exact at0 | exact at1)) (by rfl) (by simp only [Act.put, zA, zB, zC]; rfl) ?_)
          | ((with_reducible refine wpl_store ?_); refine wpList_store_box rfl (by rfl) hO rfl _ (by (first | exact at0 | exact at1)) rfl (by rfl) (by rfl) (by rfl) (by rfl) (by rfl) ?_; clear hO; intro u hO; simp only [zC, zB] at hO)
          | ((with_reducible refine wpl_store ?_); refine wpList_store_field rfl (by rfl) hO rfl _ (by (first | exact at0 | exact at1)) (zM rfl) (by simp only [Act.eval, zJ, zF, zD, zE, zP]; rfl) (by rfl) (by rfl) (by rfl) ?_; clear hO; intro u hO; simp only [zC, zB] at hO)
          | fail)
        go_ret
        exact FIN _ hO.below (by rw [HR.out]; simp)
      | false =>
      go_upto_region 14 with (first
        | ((with_reducible refine wpl_alloc ?_); refine wpList_alloc_own rfl (by rfl) hO rfl (fun b => by simp only [Act.put, zA, zB, zC]; rfl) ?_; (first | (refine nm 0 rfl ?_; clear hO; intro b0 u hO) | (refine nm 1 rfl ?_; clear hO; intro b1 u hO)); simp only [zL, zK] at hO)
        | ((with_reducible refine wpl_box ?_); refine wpList_box_own rfl (by rfl) hO rfl rfl (fun b => by simp only [Act.put, zA, zB, zC]; rfl) ?_; (first | (refine nm 0 rfl ?_; clear hO; intro b0 u hO) | (refine nm 1 rfl ?_; clear hO; intro b1 u hO)); simp only [zL, zK] at hO)
        | ((with_reducible refine wpl_load ?_); refine wpList_load_box rfl (by (first | rfl | (simp only [Region.wanted, yielded, *]; go_simp; done) | (simp [Region.wanted, yielded, *]; done) | fail)) hO rfl _ (by (first | exact at0 | exact at1)) (by rfl) (by simp only [Act.put, zA, zB, zC]; rfl) ?_)
        | ((with_reducible refine wpl_load ?_); refine wpList_load_field rfl (by (first | rfl | (simp only [Region.wanted, yielded, *]; go_simp; done) | (simp [Region.wanted, yielded, *]; done) | fail)) hO rfl _ (by (first | exact at0 | exact at1)) (by rfl) (by simp only [Act.put, zA, zB, zC]; rfl) ?_)
        | ((with_reducible refine wpl_store ?_); refine wpList_store_box rfl (by rfl) hO rfl _ (by (first | exact at0 | exact at1)) rfl (by rfl) (by rfl) (by rfl) (by rfl) (by rfl) ?_; clear hO; intro u hO; simp only [zC, zB] at hO)
        | ((with_reducible refine wpl_store ?_); refine wpList_store_field rfl (by rfl) hO rfl _ (by (first | exact at0 | exact at1)) (zM rfl) (by simp only [Act.eval, zJ, zF, zD, zE, zP]; rfl) (by rfl) (by rfl) (by rfl) ?_; clear hO; intro u hO; simp only [zC, zB] at hO)
        | fail)
      refine shape_r14 hO ?_
      clear hO
      intro c' x81 x82 x83 x84 x85 x86 x87 x88 x89 x90 x91 x92 u hc' hO
      have H14 := Lib.hid hc'
      clear hc'
      cases c' with
      | true =>
        have HR := Lib.hid (HQ'.out _ _ _ _ _ _ H2.out H4.out H12.out H14.out rfl rfl)
        go_wp2_with (first
          | ((with_reducible refine wpl_alloc ?_); refine wpList_alloc_own rfl (by rfl) hO rfl (fun b => by simp only [Act.put, zA, zB, zC]; rfl) ?_; (first | (refine nm 0 rfl ?_; clear hO; intro b0 u hO) | (refine nm 1 rfl ?_; clear hO; intro b1 u hO)); simp only [zL, zK] at hO)
          | ((with_reducible refine wpl_box ?_); refine wpList_box_own rfl (by rfl) hO rfl rfl (fun b => by simp only [Act.put, zA, zB, zC]; rfl) ?_; (first | (refine nm 0 rfl ?_; clear hO; intro b0 u hO) | (refine nm 1 rfl ?_; clear hO; intro b1 u hO)); simp only [zL, zK] at hO)
          | ((with_reducible refine wpl_load ?_); refine wpList_load_box rfl (by (first | rfl | (simp only [Region.wanted, yielded, *]; go_simp; done) | (simp [Region.wanted, yielded, *]; done) | fail)) hO rfl _ (by (first | exact at0 | exact at1)) (by rfl) (by simp only [Act.put, zA, zB, zC]; rfl) ?_)
          | ((with_reducible refine wpl_load ?_); refine wpList_load_field rfl (by (first | rfl | (simp only [Region.wanted, yielded, *]; go_simp; done) | (simp [Region.wanted, yielded, *]; done) | fail)) hO rfl _ (by (first | exact at0 | exact at1)) (by rfl) (by simp only [Act.put, zA, zB, zC]; rfl) ?_)
          | ((with_reducible refine wpl_store ?_); refine wpList_store_box rfl (by rfl) hO rfl _ (by (first | exact at0 | exact at1)) rfl (by rfl) (by rfl) (by rfl) (by rfl) (by rfl) ?_; clear hO; intro u hO; simp only [zC, zB] at hO)
          | ((with_reducible refine wpl_store ?_); refine wpList_store_field rfl (by rfl) hO rfl _ (by (first | exact at0 | exact at1)) (zM rfl) (by simp only [Act.eval, zJ, zF, zD, zE, zP]; rfl) (by rfl) (by rfl) (by rfl) ?_; clear hO; intro u hO; simp only [zC, zB] at hO)
          | fail)
        go_ret
        exact FIN _ hO.below (by rw [HR.out]; simp)
      | false =>
      go_upto_region 16 with (first
        | ((with_reducible refine wpl_alloc ?_); refine wpList_alloc_own rfl (by rfl) hO rfl (fun b => by simp only [Act.put, zA, zB, zC]; rfl) ?_; (first | (refine nm 0 rfl ?_; clear hO; intro b0 u hO) | (refine nm 1 rfl ?_; clear hO; intro b1 u hO)); simp only [zL, zK] at hO)
        | ((with_reducible refine wpl_box ?_); refine wpList_box_own rfl (by rfl) hO rfl rfl (fun b => by simp only [Act.put, zA, zB, zC]; rfl) ?_; (first | (refine nm 0 rfl ?_; clear hO; intro b0 u hO) | (refine nm 1 rfl ?_; clear hO; intro b1 u hO)); simp only [zL, zK] at hO)
        | ((with_reducible refine wpl_load ?_); refine wpList_load_box rfl (by (first | rfl | (simp only [Region.wanted, yielded, *]; go_simp; done) | (simp [Region.wanted, yielded, *]; done) | fail)) hO rfl _ (by (first | exact at0 | exact at1)) (by rfl) (by simp only [Act.put, zA, zB, zC]; rfl) ?_)
        | ((with_reducible refine wpl_load ?_); refine wpList_load_field rfl (by (first | rfl | (simp only [Region.wanted, yielded, *]; go_simp; done) | (simp [Region.wanted, yielded, *]; done) | fail)) hO rfl _ (by (first | exact at0 | exact at1)) (by rfl) (by simp only [Act.put, zA, zB, zC]; rfl) ?_)
        | ((with_reducible refine wpl_store ?_); refine wpList_store_box rfl (by rfl) hO rfl _ (by (first | exact at0 | exact at1)) rfl (by rfl) (by rfl) (by rfl) (by rfl) (by rfl) ?_; clear hO; intro u hO; simp only [zC, zB] at hO)
        | ((with_reducible refine wpl_store ?_); refine wpList_store_field rfl (by rfl) hO rfl _ (by (first | exact at0 | exact at1)) (zM rfl) (by simp only [Act.eval, zJ, zF, zD, zE, zP]; rfl) (by rfl) (by rfl) (by rfl) ?_; clear hO; intro u hO; simp only [zC, zB] at hO)
        | fail)
      refine shape_r16 hO ?_
      clear hO
      intro c' x94 x95 x96 x97 x98 x99 x100 x101 x102 x103 x104 x105 x106 x107 x108 x109 x110 x111 x112 x113 x114 x115 x116 x117 x118 x119 x120 x121 x122 x123 x124 x125 x126 x127 u hc' hO
      have H16 := Lib.hid hc'
      clear hc'
      cases c' with
      | true =>
        have HR := Lib.hid (HQ'.out _ _ _ _ _ _ H2.out H4.out H12.out H14.out H16.out rfl)
        go_wp2_with (first
          | ((with_reducible refine wpl_alloc ?_); refine wpList_alloc_own rfl (by rfl) hO rfl (fun b => by simp only [Act.put, zA, zB, zC]; rfl) ?_; (first | (refine nm 0 rfl ?_; clear hO; intro b0 u hO) | (refine nm 1 rfl ?_; clear hO; intro b1 u hO)); simp only [zL, zK] at hO)
          | ((with_reducible refine wpl_box ?_); refine wpList_box_own rfl (by rfl) hO rfl rfl (fun b => by simp only [Act.put, zA, zB, zC]; rfl) ?_; (first | (refine nm 0 rfl ?_; clear hO; intro b0 u hO) | (refine nm 1 rfl ?_; clear hO; intro b1 u hO)); simp only [zL, zK] at hO)
          | ((with_reducible refine wpl_load ?_); refine wpList_load_box rfl (by (first | rfl | (simp only [Region.wanted, yielded, *]; go_simp; done) | (simp [Region.wanted, yielded, *]; done) | fail)) hO rfl _ (by (first | exact at0 | exact at1)) (by rfl) (by simp only [Act.put, zA, zB, zC]; rfl) ?_)
          | ((with_reducible refine wpl_load ?_); refine wpList_load_field rfl (by (first | rfl | (simp only [Region.wanted, yielded, *]; go_simp; done) | (simp [Region.wanted, yielded, *]; done) | fail)) hO rfl _ (by (first | exact at0 | exact at1)) (by rfl) (by simp only [Act.put, zA, zB, zC]; rfl) ?_)
          | ((with_reducible refine wpl_store ?_); refine wpList_store_box rfl (by rfl) hO rfl _ (by (first | exact at0 | exact at1)) rfl (by rfl) (by rfl) (by rfl) (by rfl) (by rfl) ?_; clear hO; intro u hO; simp only [zC, zB] at hO)
          | ((with_reducible refine wpl_store ?_); refine wpList_store_field rfl (by rfl) hO rfl _ (by (first | exact at0 | exact at1)) (zM rfl) (by simp only [Act.eval, zJ, zF, zD, zE, zP]; rfl) (by rfl) (by rfl) (by rfl) ?_; clear hO; intro u hO; simp only [zC, zB] at hO)
          | fail)
        go_ret
        exact FIN _ hO.below (by rw [HR.out]; simp)
      | false =>
      go_upto_region 18 with (first
        | ((with_reducible refine wpl_alloc ?_); refine wpList_alloc_own rfl (by rfl) hO rfl (fun b => by simp only [Act.put, zA, zB, zC]; rfl) ?_; (first | (refine nm 0 rfl ?_; clear hO; intro b0 u hO) | (refine nm 1 rfl ?_; clear hO; intro b1 u hO)); simp only [zL, zK] at hO)
        | ((with_reducible refine wpl_box ?_); refine wpList_box_own rfl (by rfl) hO rfl rfl (fun b => by simp only [Act.put, zA, zB, zC]; rfl) ?_; (first | (refine nm 0 rfl ?_; clear hO; intro b0 u hO) | (refine nm 1 rfl ?_; clear hO; intro b1 u hO)); simp only [zL, zK] at hO)
        | ((with_reducible refine wpl_load ?_); refine wpList_load_box rfl (by (first | rfl | (simp only [Region.wanted, yielded, *]; go_simp; done) | (simp [Region.wanted, yielded, *]; done) | fail)) hO rfl _ (by (first | exact at0 | exact at1)) (by rfl) (by simp only [Act.put, zA, zB, zC]; rfl) ?_)
        | ((with_reducible refine wpl_load ?_); refine wpList_load_field rfl (by (first | rfl | (simp only [Region.wanted, yielded, *]; go_simp; done) | (simp [Region.wanted, yielded, *]; done) | fail)) hO rfl _ (by (first | exact at0 | exact at1)) (by rfl) (by simp only [Act.put, zA, zB, zC]; rfl) ?_)
        | ((with_reducible refine wpl_store ?_); refine wpList_store_box rfl (by rfl) hO rfl _ (by (first | exact at0 | exact at1)) rfl (by rfl) (by rfl) (by rfl) (by rfl) (by rfl) ?_; clear hO; intro u hO; simp only [zC, zB] at hO)
        | ((with_reducible refine wpl_store ?_); refine wpList_store_field rfl (by rfl) hO rfl _ (by (first | exact at0 | exact at1)) (zM rfl) (by simp only [Act.eval, zJ, zF, zD, zE, zP]; rfl) (by rfl) (by rfl) (by rfl) ?_; clear hO; intro u hO; simp only [zC, zB] at hO)
        | fail)
      refine shape_r18 hO ?_
      clear hO
      intro c' x129 x130 x131 x132 x133 x134 x135 x136 x137 x138 x139 x140 x141 x142 u hc' hO
      have H18 := Lib.hid hc'
      clear hc'
      cases c' with
      | true =>
        have HR := Lib.hid (HQ'.out _ _ _ _ _ _ H2.out H4.out H12.out H14.out H16.out H18.out)
        go_wp2_with (first
          | ((with_reducible refine wpl_alloc ?_); refine wpList_alloc_own rfl (by rfl) hO rfl (fun b => by simp only [Act.put, zA, zB, zC]; rfl) ?_; (first | (refine nm 0 rfl ?_; clear hO; intro b0 u hO) | (refine nm 1 rfl ?_; clear hO; intro b1 u hO)); simp only [zL, zK] at hO)
          | ((with_reducible refine wpl_box ?_); refine wpList_box_own rfl (by rfl) hO rfl rfl (fun b => by simp only [Act.put, zA, zB, zC]; rfl) ?_; (first | (refine nm 0 rfl ?_; clear hO; intro b0 u hO) | (refine nm 1 rfl ?_; clear hO; intro b1 u hO)); simp only [zL, zK] at hO)
          | ((with_reducible refine wpl_load ?_); refine wpList_load_box rfl (by (first | rfl | (simp only [Region.wanted, yielded, *]; go_simp; done) | (simp [Region.wanted, yielded, *]; done) | fail)) hO rfl _ (by (first | exact at0 | exact at1)) (by rfl) (by simp only [Act.put, zA, zB, zC]; rfl) ?_)
          | ((with_reducible refine wpl_load ?_); refine wpList_load_field rfl (by (first | rfl | (simp only [Region.wanted, yielded, *]; go_simp; done) | (simp [Region.wanted, yielded, *]; done) | fail)) hO rfl _ (by (first | exact at0 | exact at1)) (by rfl) (by simp only [Act.put, zA, zB, zC]; rfl) ?_)
          | ((with_reducible refine wpl_store ?_); refine wpList_store_box rfl (by rfl) hO rfl _ (by (first | exact at0 | exact at1)) rfl (by rfl) (by rfl) (by rfl) (by rfl) (by rfl) ?_; clear hO; intro u hO; simp only [zC, zB] at hO)
          | ((with_reducible refine wpl_store ?_); refine wpList_store_field rfl (by rfl) hO rfl _ (by (first | exact at0 | exact at1)) (zM rfl) (by simp only [Act.eval, zJ, zF, zD, zE, zP]; rfl) (by rfl) (by rfl) (by rfl) ?_; clear hO; intro u hO; simp only [zC, zB] at hO)
          | fail)
        go_ret
        exact FIN _ hO.below (by rw [HR.out]; simp)
      | false =>
      have HB : Hid (hB = true) := Lib.hid (by rw [HQ'.out _ _ _ _ _ _ H2.out H4.out H12.out H14.out H16.out H18.out, HS.out]; rfl)
      clear HQ' H2 H4 H12 H14 H16 H18 HS FIN
      have CA := fun u => impl_isAtomic k (.slice Ai ni ci) (.slice Ap np cp) (.slice An nn cn) (.slice Ac nc cc) (.slice Al nl cl) (.int .i64 c) (.int .i64 e) u
      obtain ⟨qa, hqa⟩ : ∃ q, decide (1 ≤ k ∧ k ≤ 3) = q := ⟨_, rfl⟩
      rw [hqa] at CA
      have HA := Lib.hid hqa
      clear hqa
      go_wp2_with (first
        | ((with_reducible refine wpl_load ?_); refine wpList_load_field rfl (by rfl) hO rfl _ (by exact at0) (by rfl) (by simp only [Act.put, zA, zB, zC]; rfl) ?_)
        | fail)
      go_loopw [147] (fun i u => ∃ m : Nat, m ≤ ni ∧ i = .int .i64 m ∧ Hid ((is.take m).all (itB k ls) = true) ∧ Own w [box b0 29 [.int .i64 k, .slice Ai ni ci, .slice Ap np cp, .slice An nn cn, .slice Ac nc cc, .slice Al nl cl, .int .i64 c, .int .i64 e]] u) (fun i _ => ni - (intOf i).toNat)
      case atStart => exact ⟨0, Nat.zero_le _, rfl, rfl, hO⟩
      case round =>
        clear hO
        obtain ⟨m, hm, rfl, hal, hO⟩ := hrel
        by_cases hlt : m < ni
        · have hml : m < is.length := by rw [HLi.out]; exact hlt
          have hsz := Nat.le_trans (itz_mem hml) z2
          obtain ⟨x, hx⟩ : ∃ x, is[m]'hml = x := ⟨_, rfl⟩
          obtain ⟨g, off, rfl, hg, d0, d1, d2⟩ := Sl.itn h1 hO.below hlt hml hx
          have HT := Lib.hid (all_take (f := itB k ls) hml)
          have HF := Lib.hid (fun he => all_false (f := itB k ls) hml he)
          rw [hx] at HT HF hsz
          clear hx hml
          have HI := Lib.hid (HIT'.out x)
          have CI := fun u => impl_itemValid k x.num x.den x.text u (by unfold maxLen; omega)
          have CM := fun u => impl_isMissing x.num x.den x.text u
          obtain ⟨xn, xd, xt⟩ := x
          simp only at d0 d1 d2 CI CM
          obtain ⟨qb, hqb⟩ : ∃ q, itemB k ⟨xn, xd, xt⟩ = q := ⟨_, rfl⟩
          obtain ⟨qm, hqm⟩ : ∃ q, misB ⟨xn, xd, xt⟩ = q := ⟨_, rfl⟩
          rw [HA.out, hqb, hqm] at HI
          rw [hqb] at CI
          rw [hqm] at CM
          clear hqb hqm hsz
          go_upto_region 23 with (first
            | ((with_reducible refine wpl_alloc ?_); refine wpList_alloc_own rfl (by rfl) hO rfl (fun b => by simp only [Act.put, zA, zB, zC]; rfl) ?_; (refine nm 1 rfl ?_; clear hO; intro b1 u hO); simp only [zL, zK] at hO)
            | ((with_reducible refine wpl_store ?_); refine wpList_store_box rfl (by rfl) hO rfl _ (by exact at1) rfl (by rfl) (by rfl) (by rfl) (by rfl) (by rfl) ?_; clear hO; intro u hO; simp only [zC, zB] at hO)
            | fail)
          clear d0 d1 d2
          refine shape_r23 CA CI hO ?_
          clear hO
          intro c' x151 x152 x153 x154 x155 x156 x157 x158 x159 u hc' hO
          have H23 := Lib.hid hc'
          clear hc'
          cases c' with
          | true =>
            have HR := Lib.hid (HF.out (by rw [HI.out _ _ H23.out rfl]; rfl))
            go_wp2_with (first
              | ((with_reducible refine wpl_alloc ?_); refine wpList_alloc_own rfl (by rfl) hO rfl (fun b => by simp only [Act.put, zA, zB, zC]; rfl) ?_; (first | (refine nm 0 rfl ?_; clear hO; intro b0 u hO) | (refine nm 1 rfl ?_; clear hO; intro b1 u hO)); simp only [zL, zK] at hO)
              | ((with_reducible refine wpl_box ?_); refine wpList_box_own rfl (by rfl) hO rfl rfl (fun b => by simp only [Act.put, zA, zB, zC]; rfl) ?_; (first | (refine nm 0 rfl ?_; clear hO; intro b0 u hO) | (refine nm 1 rfl ?_; clear hO; intro b1 u hO)); simp only [zL, zK] at hO)
              | ((with_reducible refine wpl_load ?_); refine wpList_load_box rfl (by (first | rfl | (simp only [Region.wanted, yielded, *]; go_simp; done) | (simp [Region.wanted, yielded, *]; done) | fail)) hO rfl _ (by (first | exact at0 | exact at1)) (by rfl) (by simp only [Act.put, zA, zB, zC]; rfl) ?_)
              | ((with_reducible refine wpl_load ?_); refine wpList_load_field rfl (by (first | rfl | (simp only [Region.wanted, yielded, *]; go_simp; done) | (simp [Region.wanted, yielded, *]; done) | fail)) hO rfl _ (by (first | exact at0 | exact at1)) (by rfl) (by simp only [Act.put, zA, zB, zC]; rfl) ?_)
              | ((with_reducible refine wpl_store ?_); refine wpList_store_box rfl (by rfl) hO rfl _ (by (first | exact at0 | exact at1)) rfl (by rfl) (by rfl) (by rfl) (by rfl) (by rfl) ?_; clear hO; intro u hO; simp only [zC, zB] at hO)
              | ((with_reducible refine wpl_store ?_); refine wpList_store_field rfl (by rfl) hO rfl _ (by (first | exact at0 | exact at1)) (zM rfl) (by simp only [Act.eval, zJ, zF, zD, zE, zP]; rfl) (by rfl) (by rfl) (by rfl) ?_; clear hO; intro u hO; simp only [zC, zB] at hO)
              | fail)
            go_ret
            exact ⟨ret_bool (by rw [HR.out, Bool.and_false]), hO.below⟩
          | false =>
          go_upto_region 25 with (first
            | ((with_reducible refine wpl_alloc ?_); refine wpList_alloc_own rfl (by rfl) hO rfl (fun b => by simp only [Act.put, zA, zB, zC]; rfl) ?_; (first | (refine nm 0 rfl ?_; clear hO; intro b0 u hO) | (refine nm 1 rfl ?_; clear hO; intro b1 u hO)); simp only [zL, zK] at hO)
            | ((with_reducible refine wpl_box ?_); refine wpList_box_own rfl (by rfl) hO rfl rfl (fun b => by simp only [Act.put, zA, zB, zC]; rfl) ?_; (first | (refine nm 0 rfl ?_; clear hO; intro b0 u hO) | (refine nm 1 rfl ?_; clear hO; intro b1 u hO)); simp only [zL, zK] at hO)
            | ((with_reducible refine wpl_load ?_); refine wpList_load_box rfl (by (first | rfl | (simp only [Region.wanted, yielded, *]; go_simp; done) | (simp [Region.wanted, yielded, *]; done) | fail)) hO rfl _ (by (first | exact at0 | exact at1)) (by rfl) (by simp only [Act.put, zA, zB, zC]; rfl) ?_)
            | ((with_reducible refine wpl_load ?_); refine wpList_load_field rfl (by (first | rfl | (simp only [Region.wanted, yielded, *]; go_simp; done) | (simp [Region.wanted, yielded, *]; done) | fail)) hO rfl _ (by (first | exact at0 | exact at1)) (by rfl) (by simp only [Act.put, zA, zB, zC]; rfl) ?_)
            | ((with_reducible refine wpl_store ?_); refine wpList_store_box rfl (by rfl) hO rfl _ (by (first | exact at0 | exact at1)) rfl (by rfl) (by rfl) (by rfl) (by rfl) (by rfl) ?_; clear hO; intro u hO; simp only [zC, zB] at hO)
            | ((with_reducible refine wpl_store ?_); refine wpList_store_field rfl (by rfl) hO rfl _ (by (first | exact at0 | exact at1)) (zM rfl) (by simp only [Act.eval, zJ, zF, zD, zE, zP]; rfl) (by rfl) (by rfl) (by rfl) ?_; clear hO; intro u hO; simp only [zC, zB] at hO)
            | fail)
          refine shape_r25 CM hO ?_
          clear hO
          intro c' x161 x162 x163 x164 x165 x166 x167 x168 x169 x170 x171 x172 x173 x174 x175 x176 x177 x178 x179 x180 x181 x182 x183 x184 x185 x186 u hc' hO
          have H25 := Lib.hid hc'
          clear hc'
          cases c' with
          | true =>
            have HR := Lib.hid (HF.out (by rw [HI.out _ _ H23.out H25.out]; rfl))
            go_wp2_with (first
              | ((with_reducible refine wpl_alloc ?_); refine wpList_alloc_own rfl (by rfl) hO rfl (fun b => by simp only [Act.put, zA, zB, zC]; rfl) ?_; (first | (refine nm 0 rfl ?_; clear hO; intro b0 u hO) | (refine nm 1 rfl ?_; clear hO; intro b1 u hO)); simp only [zL, zK] at hO)
              | ((with_reducible refine wpl_box ?_); refine wpList_box_own rfl (by rfl) hO rfl rfl (fun b => by simp only [Act.put, zA, zB, zC]; rfl) ?_; (first | (refine nm 0 rfl ?_; clear hO; intro b0 u hO) | (refine nm 1 rfl ?_; clear hO; intro b1 u hO)); simp only [zL, zK] at hO)
              | ((with_reducible refine wpl_load ?_); refine wpList_load_box rfl (by (first | rfl | (simp only [Region.wanted, yielded, *]; go_simp; done) | (simp [Region.wanted, yielded, *]; done) | fail)) hO rfl _ (by (first | exact at0 | exact at1)) (by rfl) (by simp only [Act.put, zA, zB, zC]; rfl) ?_)
              | ((with_reducible refine wpl_load ?_); refine wpList_load_field rfl (by (first | rfl | (simp only [Region.wanted, yielded, *]; go_simp; done) | (simp [Region.wanted, yielded, *]; done) | fail)) hO rfl _ (by (first | exact at0 | exact at1)) (by rfl) (by simp only [Act.put, zA, zB, zC]; rfl) ?_)
              | ((with_reducible refine wpl_store ?_); refine wpList_store_box rfl (by rfl) hO rfl _ (by (first | exact at0 | exact at1)) rfl (by rfl) (by rfl) (by rfl) (by rfl) (by rfl) ?_; clear hO; intro u hO; simp only [zC, zB] at hO)
              | ((with_reducible refine wpl_store ?_); refine wpList_store_field rfl (by rfl) hO rfl _ (by (first | exact at0 | exact at1)) (zM rfl) (by simp only [Act.eval, zJ, zF, zD, zE, zP]; rfl) (by rfl) (by rfl) (by rfl) ?_; clear hO; intro u hO; simp only [zC, zB] at hO)
              | fail)
            go_ret
            exact ⟨ret_bool (by rw [HR.out, Bool.and_false]), hO.below⟩
          | false =>
          have HR := Lib.hid (HI.out _ _ H23.out H25.out)
          replace hO := hO.pick [0] (by decide)
          simp only [zN, zO, zE, zD] at hO
          go_wp2_with (first
            | ((with_reducible refine wpl_alloc ?_); refine wpList_alloc_own rfl (by rfl) hO rfl (fun b => by simp only [Act.put, zA, zB, zC]; rfl) ?_; (first | (refine nm 0 rfl ?_; clear hO; intro b0 u hO) | (refine nm 1 rfl ?_; clear hO; intro b1 u hO)); simp only [zL, zK] at hO)
            | ((with_reducible refine wpl_box ?_); refine wpList_box_own rfl (by rfl) hO rfl rfl (fun b => by simp only [Act.put, zA, zB, zC]; rfl) ?_; (first | (refine nm 0 rfl ?_; clear hO; intro b0 u hO) | (refine nm 1 rfl ?_; clear hO; intro b1 u hO)); simp only [zL, zK] at hO)
            | ((with_reducible refine wpl_load ?_); refine wpList_load_box rfl (by (first | rfl | (simp only [Region.wanted, yielded, *]; go_simp; done) | (simp [Region.wanted, yielded, *]; done) | fail)) hO rfl _ (by (first | exact at0 | exact at1)) (by rfl) (by simp only [Act.put, zA, zB, zC]; rfl) ?_)
            | ((with_reducible refine wpl_load ?_); refine wpList_load_field rfl (by (first | rfl | (simp only [Region.wanted, yielded, *]; go_simp; done) | (simp [Region.wanted, yielded, *]; done) | fail)) hO rfl _ (by (first | exact at0 | exact at1)) (by rfl) (by simp only [Act.put, zA, zB, zC]; rfl) ?_)
            | ((with_reducible refine wpl_store ?_); refine wpList_store_box rfl (by rfl) hO rfl _ (by (first | exact at0 | exact at1)) rfl (by rfl) (by rfl) (by rfl) (by rfl) (by rfl) ?_; clear hO; intro u hO; simp only [zC, zB] at hO)
            | ((with_reducible refine wpl_store ?_); refine wpList_store_field rfl (by rfl) hO rfl _ (by (first | exact at0 | exact at1)) (zM rfl) (by simp only [Act.eval, zJ, zF, zD, zE, zP]; rfl) (by rfl) (by rfl) (by rfl) ?_; clear hO; intro u hO; simp only [zC, zB] at hO)
            | fail)
          go_roundw
          case rel => exact ⟨m + 1, by omega, by go_num, by show _ = _; rw [HT.out, hal.out, HR.out]; rfl, hO⟩
          case measure => simp [intOf]; omega
        · have hmn : m = ni := by omega
          have HS : Hid (is.all (itB k ls) = true) := Lib.hid (by rw [← hal.out, List.take_of_length_le (by rw [HLi.out]; omega)])
          clear hal h1
          obtain rfl : ni = m := hmn.symm
          go_wp2_with (first
            | ((with_reducible refine wpl_alloc ?_); refine wpList_alloc_own rfl (by rfl) hO rfl (fun b => by simp only [Act.put, zA, zB, zC]; rfl) ?_; (first | (refine nm 0 rfl ?_; clear hO; intro b0 u hO) | (refine nm 1 rfl ?_; clear hO; intro b1 u hO)); simp only [zL, zK] at hO)
            | ((with_reducible refine wpl_box ?_); refine wpList_box_own rfl (by rfl) hO rfl rfl (fun b => by simp only [Act.put, zA, zB, zC]; rfl) ?_; (first | (refine nm 0 rfl ?_; clear hO; intro b0 u hO) | (refine nm 1 rfl ?_; clear hO; intro b1 u hO)); simp only [zL, zK] at hO)
            | ((with_reducible refine wpl_load ?_); refine wpList_load_box rfl (by (first | rfl | (simp only [Region.wanted, yielded, *]; go_simp; done) | (simp [Region.wanted, yielded, *]; done) | fail)) hO rfl _ (by (first | exact at0 | exact at1)) (by rfl) (by simp only [Act.put, zA, zB, zC]; rfl) ?_)
            | ((with_reducible refine wpl_load ?_); refine wpList_load_field rfl (by (first | rfl | (simp only [Region.wanted, yielded, *]; go_simp; done) | (simp [Region.wanted, yielded, *]; done) | fail)) hO rfl _ (by (first | exact at0 | exact at1)) (by rfl) (by simp only [Act.put, zA, zB, zC]; rfl) ?_)
            | ((with_reducible refine wpl_store ?_); refine wpList_store_box rfl (by rfl) hO rfl _ (by (first | exact at0 | exact at1)) rfl (by rfl) (by rfl) (by rfl) (by rfl) (by rfl) ?_; clear hO; intro u hO; simp only [zC, zB] at hO)
            | ((with_reducible refine wpl_store ?_); refine wpList_store_field rfl (by rfl) hO rfl _ (by (first | exact at0 | exact at1)) (zM rfl) (by simp only [Act.eval, zJ, zF, zD, zE, zP]; rfl) (by rfl) (by rfl) (by rfl) ?_; clear hO; intro u hO; simp only [zC, zB] at hO)
            | fail)
          go_ret
          exact ⟨ret_bool (by rw [HB.out, HS.out]; rfl), hO.below⟩
end Go.Proofs.Ytmofcbpabdbjlaa
