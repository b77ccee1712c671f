/-
  What is proved: whether a vector is valid: what the reference's functions return.
  Condition: vectors of size at most 1048576.
-/
import Derived.Test.YtmofcbpabdbjlaaLisA
import Derived.Test.YtmofcbpabdbjlaaVc
namespace Go.Proofs.Ytmofcbpabdbjlaa
set_option maxRecDepth 8000
open Go.RowKit Go.ChangeShapes Go.WideShapes
set_option linter.unusedVariables false
set_option linter.unusedSimpArgs false

theorem item_den {k : Int} {x : It} (h : itemB k x = true) : misB x = decide (x.den = 0) := by
  unfold itemB at h
  cases hm : misB x with
  | true =>
    unfold misB at hm
    simp only [Bool.and_eq_true, decide_eq_true_eq] at hm
    simp [hm.1.2]
  | false =>
    rw [hm, Bool.false_or] at h
    symm
    rw [decide_eq_false_iff_not]
    intro h0
    split at h
    · simp [h0] at h
    · split at h
      · unfold isNumI Nm.isNum at h
        simp [h0] at h
      · split at h
        · simp [h0] at h
        · cases h

theorem itB_lis (k : Int) (ls : List ByteArray) (x : It) (hk : 1 ≤ k ∧ k ≤ 3) {nl : Nat} (hnl : ls.length = nl) {q : Bool}
    (hq : q = (!itemB k x || (decide (0 < nl) && !decide (x.den = 0) && (!decide (x.den = 1) || !inI x.num 1 nl)))) : itB k ls x = !q := by
  subst hnl
  unfold itB
  rw [hq, decide_eq_true hk, Bool.true_and]
  cases hi : itemB k x with
  | false => simp
  | true =>
    unfold levB
    rw [item_den hi, inI_eq]
    have z : decide (0 < ls.length) = !decide (ls.length = 0) := dec_not (by omega)
    rw [z]
    generalize decide (ls.length = 0) = a1
    generalize decide (x.den = 1) = a2
    generalize decide (x.den = 0) = a3
    generalize decide (1 ≤ x.num) = a4
    generalize decide (x.num ≤ (ls.length : Int)) = a5
    simp [Bool.not_and, Bool.not_or, Bool.and_assoc, Bool.or_assoc]

theorem lis_head (k : Int) (is : List It) (ps : List VT) (ns cs ls : List ByteArray) (c e : Int) {n ni np nn nc nl : Nat} (hn : lenN k ni np = n) (hni : is.length = ni) (hnp : ps.length = np) (hnn : ns.length = nn) (hnc : cs.length = nc) (hnl : ls.length = nl) {q2 q4 : Bool}
    (h2 : q2 = (!(inI k 0 5 && decide (n ≤ 40) && (decide (nn = 0) || decide (nn = n)) && namedB ns && labB 3 cs && labB 20 ls)))
    (h4 : q4 = ((!decide (k = 5) && (!decide (c = 0) || !decide (e = 0))) || ((!decide (k = 2) && decide (0 < nl)) || (!decide (k = 4) && decide (0 < np))))) :
    headB n k is ps ns cs ls c e = (!q2 && !q4 && (!decide (k = 5) || (decide (ni = 0) && decide (nn = 0) && inI c (-999) 99999 && inI e 0 99999)) && (!decide (k = 0) || (decide (n = 0) && decide (nc = 0)))) := by
  have h0 : k = 0 → q4 = false → decide (n = 0) = decide (ni = 0) := by
    intro hk hq
    subst hk
    rw [h4] at hq
    simp at hq
    have : np = 0 := hq.2.2
    subst this
    unfold lenN at hn
    simp at hn
    rw [← hn]
  subst hni hnp hnn hnc hnl
  unfold headB
  cases q4 with
  | true =>
    have z : ∀ m : Nat, decide (0 < m) = !decide (m = 0) := fun m => dec_not (by omega)
    rw [z, z] at h4
    rw [h2]
    revert h4
    clear h0
    generalize decide (ls.length = 0) = a9
    generalize decide (ps.length = 0) = b1
    generalize decide (k = 2) = b2
    generalize decide (k = 4) = b3
    generalize decide (k = 5) = b4
    generalize decide (c = 0) = b5
    generalize decide (e = 0) = b6
    intro h4
    have hx : ((a9 || b2) && (b1 || b3) && (b4 || b5 && b6)) = false := by
      revert h4
      revert a9 b1 b2 b3 b4 b5 b6
      decide
    have hr : ∀ x1 x2 x3 x4 x5 x6 y1 y2 y3 z1 z2 : Bool, (y1 && y2 && y3) = false → (x1 && x2 && x3 && x4 && x5 && x6 && y1 && y2 && y3 && z1 && z2) = false := by decide
    rw [hr _ _ _ _ _ _ _ _ _ _ _ hx]
    simp
  | false =>
    have z : ∀ m : Nat, decide (0 < m) = !decide (m = 0) := fun m => dec_not (by omega)
    rw [z, z] at h4
    rw [h2, inI_eq, inI_eq, inI_eq]
    unfold namedB
    have e1 : decide (0 ≤ k ∧ k ≤ 5) = (decide (0 ≤ k) && decide (k ≤ 5)) := Bool.decide_and ..
    have e2 : decide (-999 ≤ c ∧ c ≤ 99999) = (decide (-999 ≤ c) && decide (c ≤ 99999)) := Bool.decide_and ..
    have e3 : decide (0 ≤ e ∧ e ≤ 99999) = (decide (0 ≤ e) && decide (e ≤ 99999)) := Bool.decide_and ..
    rw [e1, e2, e3]
    have hk0 : (!decide (k = 0) || (decide (n = 0) && decide (cs.length = 0))) = (!decide (k = 0) || (decide (is.length = 0) && decide (cs.length = 0))) := by
      by_cases hk : k = 0
      · rw [h0 hk rfl]
      · simp [hk]
    rw [hk0]
    clear hk0 h0 hn h2 e1 e2 e3
    revert h4
    generalize decide (ls.length = 0) = a9
    generalize decide (ps.length = 0) = b1
    generalize decide (k = 2) = b2
    generalize decide (k = 4) = b3
    generalize decide (k = 5) = b4
    generalize decide (c = 0) = b5
    generalize decide (e = 0) = b6
    intro h4
    have hx : ((a9 || b2) && (b1 || b3) && (b4 || b5 && b6)) = true := by
      revert h4
      revert a9 b1 b2 b3 b4 b5 b6
      decide
    simp only [Bool.and_eq_true] at hx
    rw [hx.1.1, hx.1.2, hx.2]
    generalize decide (0 ≤ k) = a1
    generalize decide (k ≤ 5) = c9
    generalize decide (n ≤ 40) = a2
    generalize labB 3 cs = a3
    generalize labB 20 ls = a4
    generalize decide (ns.length = 0) = a5
    generalize decide (ns.length = n) = a6
    generalize allE ns = a7
    generalize shortB ns = a8
    generalize (!decide (k = 0) || (decide (is.length = 0) && decide (cs.length = 0))) = c1
    generalize (!b4 || (decide (is.length = 0) && a5 && (decide (-999 ≤ c) && decide (c ≤ 99999)) && (decide (0 ≤ e) && decide (e ≤ 99999)))) = c2
    clear hx h4
    revert a1 c9 a2 a3 a4 a5 a6 a7 a8 c1 c2
    decide

def PLis (t : VT) : Prop := ∀ (vs : List Value) (q : Nat) (w : World), q ≤ 3 → RdV w t vs → szV t ≤ 1048576 → Calls Try.prog 129 #[.agg vs.toArray, .int .i64 (q : Int)] w fun e w' => e = .returned (.bool (lB q t)) ∧ Below w.heap.size w w'

set_option maxRecDepth 100000 in
set_option maxHeartbeats 4000000 in
theorem spec_lis (t : VT) : PLis t := by
  induction t using VT.ind with
  | _ k is ps ns cs ls c e ih =>
  intro vs q w hq hv hz
  obtain ⟨hzp, hzn⟩ := szV_parts hz
  obtain ⟨Ai, Ap, An, Ac, Al, ci, cp, cn, cc, cl, pvs, rfl, h1, h2, h3, h4, h5⟩ := hv.open
  have HT : szV (.mk k is ps ns cs ls c e) = szI is + szL ps + szS ns + szS cs + szS ls := rfl
  have hz' := szL_eq ps
  unfold szI szS at HT
  have z2 : itz is ≤ 1048576 := by omega
  have z3 : ns.length ≤ 1048576 := by omega
  have z4 : cs.length ≤ 1048576 := by omega
  have z5 : ls.length ≤ 1048576 := by omega
  clear HT hv hz hz'
  have HE : Hid (lB q (.mk k is ps ns cs ls c e) = (headB (lenN k is.length ps.length) k is ps ns cs ls c e && is.all (itB k ls) && lL q ps)) := Lib.hid (by simp only [lB]; rw [nodeB_eq])
  have C4 : ∀ u, Below w.heap.size w u → Calls Try.prog 185 #[.slice Ac cs.length cc, .int .i64 3] u fun e w' => e = .returned (.bool (labB 3 cs)) ∧ u = w' := fun u hb => spec_labels 3 (by omega) Ac cc cs u (h4.below hb) (by omega)
  have C5 : ∀ u, Below w.heap.size w u → Calls Try.prog 185 #[.slice Al ls.length cl, .int .i64 20] u fun e w' => e = .returned (.bool (labB 20 ls)) ∧ u = w' := fun u hb => spec_labels 20 (by omega) Al cl ls u (h5.below hb) (by omega)
  have C3 := fun u (hb : Below w.heap.size w u) => spec_named An cn ns u (h3.below hb) (by omega)
  obtain ⟨n, hn⟩ : ∃ n, lenN k is.length ps.length = n := ⟨_, rfl⟩
  have CL := fun u => spec_len k Ai Ap is.length ps.length ci cp (.slice An ns.length cn) (.slice Ac cs.length cc) (.slice Al ls.length cl) (.int .i64 c) (.int .i64 e) u (by omega)
  rw [hn] at CL HE
  have hn2 : n ≤ 1048577 := by rw [← hn]; unfold lenN; split <;> omega
  obtain ⟨ni, hni⟩ : ∃ m, is.length = m := ⟨_, rfl⟩
  obtain ⟨np, hnp⟩ : ∃ m, ps.length = m := ⟨_, rfl⟩
  obtain ⟨nn, hnn⟩ : ∃ m, ns.length = m := ⟨_, rfl⟩
  obtain ⟨nc, hnc⟩ : ∃ m, cs.length = m := ⟨_, rfl⟩
  obtain ⟨nl, hnl⟩ : ∃ m, ls.length = m := ⟨_, rfl⟩
  have HQ := Lib.hid (fun (q2 q4 : Bool) h2 h4 => lis_head k is ps ns cs ls c e (n := n) (by rw [← hni, ← hnp]; exact hn) hni hnp hnn hnc hnl (q2 := q2) (q4 := q4) h2 h4)
  have HIT := Lib.hid (fun x (hk : 1 ≤ k ∧ k ≤ 3) (q16 : Bool) h16 => itB_lis k ls x hk hnl (q := q16) h16)
  rw [hni, hnp, hnn, hnc, hnl] at CL
  rw [hnn] at C3 h3 z3
  rw [hnc] at C4 h4 z4
  rw [hnl] at C5 h5 z5
  rw [hni] at h1 hzn
  rw [hnp] at hzn
  rw [hni, hnp, hnn, hnc, hnl]
  have HLi := Lib.hid hni
  have HLp := Lib.hid hnp
  have HNN : Hid (lenN k ni np = n) := Lib.hid (by rw [← hni, ← hnp]; exact hn)
  clear hni hnp hnn hnc hnl hn
  obtain ⟨hB, hhB⟩ : ∃ m, headB n k is ps ns cs ls c e = m := ⟨_, rfl⟩
  rw [hhB] at HQ HE
  clear hhB
  go_enter Try.func129, Try.ntmps129
  have hO := Own.nil w
  go_upto_region 2 with (first
    | ((with_reducible refine (CL _).mono ?_); rintro e u ⟨rfl, hb⟩; (replace hO := hO.step hb; clear hb))
    | ((with_reducible refine wpl_box ?_); refine wpList_box_own rfl (by rfl) hO rfl rfl (fun b => by simp only [Act.put, zA, zB, zC]; rfl) ?_; (refine nm 0 rfl ?_; clear hO; intro b0 u hO); simp only [zL, zK] at hO)
    | ((with_reducible refine wpl_load ?_); refine wpList_load_box rfl (by rfl) hO rfl _ (by exact at0) (by rfl) (by simp only [Act.put, zA, zB, zC]; rfl) ?_)
    | fail)
  refine lis_r2 C4 C5 C3 (by omega) hO ?_
  clear hO
  intro c' x11 x12 x13 x14 x15 x16 x17 x18 x19 x20 x21 x22 x23 x24 x25 x26 x27 x28 x29 x30 x31 x32 x33 x34 x35 x36 x37 x38 x39 x40 x41 x42 x43 x44 x45 x46 x47 x48 u hc' hO
  have H2 := Lib.hid hc'
  clear hc' C4 C5 C3
  cases c' with
  | true =>
    have HR := Lib.hid (HQ.out _ _ H2.out rfl)
    go_wp2_with (first
      | ((with_reducible refine wpl_alloc ?_); refine wpList_alloc_own rfl (by rfl) hO rfl (fun b => by simp only [Act.put, zA, zB, zC]; rfl) ?_; (first | (refine nm 0 rfl ?_; clear hO; intro b0 u hO) | (refine nm 1 rfl ?_; clear hO; intro b1 u hO)); simp only [zL, zK] at hO)
      | ((with_reducible refine wpl_box ?_); refine wpList_box_own rfl (by rfl) hO rfl rfl (fun b => by simp only [Act.put, zA, zB, zC]; rfl) ?_; (first | (refine nm 0 rfl ?_; clear hO; intro b0 u hO) | (refine nm 1 rfl ?_; clear hO; intro b1 u hO)); simp only [zL, zK] at hO)
      | ((with_reducible refine wpl_load ?_); refine wpList_load_box rfl (by (first | rfl | (simp only [Region.wanted, yielded, *]; go_simp; done) | (simp [Region.wanted, yielded, *]; done) | fail)) hO rfl _ (by (first | exact at0 | exact at1)) (by rfl) (by simp only [Act.put, zA, zB, zC]; rfl) ?_)
      | ((with_reducible refine wpl_load ?_); refine wpList_load_field rfl (by (first | rfl | (simp only [Region.wanted, yielded, *]; go_simp; done) | (simp [Region.wanted, yielded, *]; done) | fail)) hO rfl _ (by (first | exact at0 | exact at1)) (by rfl) (by simp only [Act.put, zA, zB, zC]; rfl) ?_)
      | ((with_reducible refine wpl_store ?_); refine wpList_store_box rfl (by rfl) hO rfl _ (by (first | exact at0 | exact at1)) rfl (by rfl) (by rfl) (by rfl) (by rfl) (by rfl) ?_; clear hO; intro u hO; simp only [zC, zB] at hO)
      | ((with_reducible refine wpl_store ?_); refine wpList_store_field rfl (by rfl) hO rfl _ (by (first | exact at0 | exact at1)) (zM rfl) (by simp only [Act.eval, zJ, zF, zD, zE, zP]; rfl) (by rfl) (by rfl) (by rfl) ?_; clear hO; intro u hO; simp only [zC, zB] at hO)
      | fail)
    go_ret
    exact ⟨ret_bool (by rw [HE.out, HR.out]; rfl), hO.below⟩
  | false =>
  go_upto_region 4 with (first
    | ((with_reducible refine wpl_alloc ?_); refine wpList_alloc_own rfl (by rfl) hO rfl (fun b => by simp only [Act.put, zA, zB, zC]; rfl) ?_; (first | (refine nm 0 rfl ?_; clear hO; intro b0 u hO) | (refine nm 1 rfl ?_; clear hO; intro b1 u hO)); simp only [zL, zK] at hO)
    | ((with_reducible refine wpl_box ?_); refine wpList_box_own rfl (by rfl) hO rfl rfl (fun b => by simp only [Act.put, zA, zB, zC]; rfl) ?_; (first | (refine nm 0 rfl ?_; clear hO; intro b0 u hO) | (refine nm 1 rfl ?_; clear hO; intro b1 u hO)); simp only [zL, zK] at hO)
    | ((with_reducible refine wpl_load ?_); refine wpList_load_box rfl (by (first | rfl | (simp only [Region.wanted, yielded, *]; go_simp; done) | (simp [Region.wanted, yielded, *]; done) | fail)) hO rfl _ (by (first | exact at0 | exact at1)) (by rfl) (by simp only [Act.put, zA, zB, zC]; rfl) ?_)
    | ((with_reducible refine wpl_load ?_); refine wpList_load_field rfl (by (first | rfl | (simp only [Region.wanted, yielded, *]; go_simp; done) | (simp [Region.wanted, yielded, *]; done) | fail)) hO rfl _ (by (first | exact at0 | exact at1)) (by rfl) (by simp only [Act.put, zA, zB, zC]; rfl) ?_)
    | ((with_reducible refine wpl_store ?_); refine wpList_store_box rfl (by rfl) hO rfl _ (by (first | exact at0 | exact at1)) rfl (by rfl) (by rfl) (by rfl) (by rfl) (by rfl) ?_; clear hO; intro u hO; simp only [zC, zB] at hO)
    | ((with_reducible refine wpl_store ?_); refine wpList_store_field rfl (by rfl) hO rfl _ (by (first | exact at0 | exact at1)) (zM rfl) (by simp only [Act.eval, zJ, zF, zD, zE, zP]; rfl) (by rfl) (by rfl) (by rfl) ?_; clear hO; intro u hO; simp only [zC, zB] at hO)
    | fail)
  refine lis_r4 hO ?_
  clear hO
  intro c' x50 x51 x52 x53 x54 x55 x56 x57 x58 x59 x60 x61 x62 x63 x64 x65 x66 x67 x68 x69 x70 x71 x72 x73 x74 x75 x76 x77 x78 x79 x80 x81 x82 x83 u hc' hO
  have H4 := Lib.hid hc'
  clear hc'
  have HR := Lib.hid (HQ.out _ _ H2.out H4.out)
  have HK : Hid (0 ≤ k ∧ k ≤ 5) := Lib.hid (by have h := H2.out; rw [inI_eq] at h; simp at h; omega)
  clear HQ H2
  cases c' with
  | true =>
    go_wp2_with (first
      | ((with_reducible refine wpl_alloc ?_); refine wpList_alloc_own rfl (by rfl) hO rfl (fun b => by simp only [Act.put, zA, zB, zC]; rfl) ?_; (first | (refine nm 0 rfl ?_; clear hO; intro b0 u hO) | (refine nm 1 rfl ?_; clear hO; intro b1 u hO)); simp only [zL, zK] at hO)
      | ((with_reducible refine wpl_box ?_); refine wpList_box_own rfl (by rfl) hO rfl rfl (fun b => by simp only [Act.put, zA, zB, zC]; rfl) ?_; (first | (refine nm 0 rfl ?_; clear hO; intro b0 u hO) | (refine nm 1 rfl ?_; clear hO; intro b1 u hO)); simp only [zL, zK] at hO)
      | ((with_reducible refine wpl_load ?_); refine wpList_load_box rfl (by (first | rfl | (simp only [Region.wanted, yielded, *]; go_simp; done) | (simp [Region.wanted, yielded, *]; done) | fail)) hO rfl _ (by (first | exact at0 | exact at1)) (by rfl) (by simp only [Act.put, zA, zB, zC]; rfl) ?_)
      | ((with_reducible refine wpl_load ?_); refine wpList_load_field rfl (by (first | rfl | (simp only [Region.wanted, yielded, *]; go_simp; done) | (simp [Region.wanted, yielded, *]; done) | fail)) hO rfl _ (by (first | exact at0 | exact at1)) (by rfl) (by simp only [Act.put, zA, zB, zC]; rfl) ?_)
      | ((with_reducible refine wpl_store ?_); refine wpList_store_box rfl (by rfl) hO rfl _ (by (first | exact at0 | exact at1)) rfl (by rfl) (by rfl) (by rfl) (by rfl) (by rfl) ?_; clear hO; intro u hO; simp only [zC, zB] at hO)
      | ((with_reducible refine wpl_store ?_); refine wpList_store_field rfl (by rfl) hO rfl _ (by (first | exact at0 | exact at1)) (zM rfl) (by simp only [Act.eval, zJ, zF, zD, zE, zP]; rfl) (by rfl) (by rfl) (by rfl) ?_; clear hO; intro u hO; simp only [zC, zB] at hO)
      | fail)
    go_ret
    exact ⟨ret_bool (by rw [HE.out, HR.out]; rfl), hO.below⟩
  | false =>
  by_cases k5 : k = 5
  · have k5' : (k == 5) = true := by simp [k5]
    have HNP : Hid (np = 0) := Lib.hid (by have := H4.out; rw [k5] at this; first | (simp at this; done) | (simp at this; omega))
    have K5 := Lib.hid k5
    clear k5
    go_upto_region 7 with (first
      | ((with_reducible refine wpl_load ?_); refine wpList_load_field rfl (by rfl) hO rfl _ (by exact at0) (by rfl) (by simp only [Act.put, zA, zB, zC]; rfl) ?_)
      | fail)
    refine lis_r7 hO ?_
    clear hO
    intro c' x88 x89 x90 x91 x92 x93 x94 x95 x96 x97 x98 x99 x100 x101 x102 x103 x104 x105 x106 x107 u hc' hO
    go_wp2_with (first
      | ((with_reducible refine wpl_alloc ?_); refine wpList_alloc_own rfl (by rfl) hO rfl (fun b => by simp only [Act.put, zA, zB, zC]; rfl) ?_; (first | (refine nm 0 rfl ?_; clear hO; intro b0 u hO) | (refine nm 1 rfl ?_; clear hO; intro b1 u hO)); simp only [zL, zK] at hO)
      | ((with_reducible refine wpl_box ?_); refine wpList_box_own rfl (by rfl) hO rfl rfl (fun b => by simp only [Act.put, zA, zB, zC]; rfl) ?_; (first | (refine nm 0 rfl ?_; clear hO; intro b0 u hO) | (refine nm 1 rfl ?_; clear hO; intro b1 u hO)); simp only [zL, zK] at hO)
      | ((with_reducible refine wpl_load ?_); refine wpList_load_box rfl (by (first | rfl | (simp only [Region.wanted, yielded, *]; go_simp; done) | (simp [Region.wanted, yielded, *]; done) | fail)) hO rfl _ (by (first | exact at0 | exact at1)) (by rfl) (by simp only [Act.put, zA, zB, zC]; rfl) ?_)
      | ((with_reducible refine wpl_load ?_); refine wpList_load_field rfl (by (first | rfl | (simp only [Region.wanted, yielded, *]; go_simp; done) | (simp [Region.wanted, yielded, *]; done) | fail)) hO rfl _ (by (first | exact at0 | exact at1)) (by rfl) (by simp only [Act.put, zA, zB, zC]; rfl) ?_)
      | ((with_reducible refine wpl_store ?_); refine wpList_store_box rfl (by rfl) hO rfl _ (by (first | exact at0 | exact at1)) rfl (by rfl) (by rfl) (by rfl) (by rfl) (by rfl) ?_; clear hO; intro u hO; simp only [zC, zB] at hO)
      | ((with_reducible refine wpl_store ?_); refine wpList_store_field rfl (by rfl) hO rfl _ (by (first | exact at0 | exact at1)) (zM rfl) (by simp only [Act.eval, zJ, zF, zD, zE, zP]; rfl) (by rfl) (by rfl) (by rfl) ?_; clear hO; intro u hO; simp only [zC, zB] at hO)
      | fail)
    go_ret
    refine ⟨ret_bool ?_, hO.below⟩
    rw [hc', HE.out, HR.out, K5.out]
    have hps : ps = [] := List.length_eq_zero_iff.1 (by rw [HLp.out]; exact HNP.out)
    rw [hps]
    by_cases h0 : ni = 0
    · have his : is = [] := List.length_eq_zero_iff.1 (by rw [HLi.out]; exact h0)
      rw [his]
      simp [lL]
    · simp [h0]
  · have k5' : (k == 5) = false := by simp [k5]
    have K5 := Lib.hid k5
    clear k5
    by_cases k0 : k = 0
    · have k0' : (k == 0) = true := by simp [k0]
      have HNP : Hid (np = 0) := Lib.hid (by have := H4.out; rw [k0] at this; first | (simp at this; done) | (simp at this; omega))
      have K0 := Lib.hid k0
      clear k0
      go_upto_region 9 with (first
        | ((with_reducible refine wpl_load ?_); refine wpList_load_field rfl (by rfl) hO rfl _ (by exact at0) (by rfl) (by simp only [Act.put, zA, zB, zC]; rfl) ?_)
        | fail)
      refine lis_r9 hO ?_
      clear hO
      intro c' x111 x112 x113 x114 x115 x116 x117 x118 u hc' hO
      go_wp2_with (first
        | ((with_reducible refine wpl_alloc ?_); refine wpList_alloc_own rfl (by rfl) hO rfl (fun b => by simp only [Act.put, zA, zB, zC]; rfl) ?_; (first | (refine nm 0 rfl ?_; clear hO; intro b0 u hO) | (refine nm 1 rfl ?_; clear hO; intro b1 u hO)); simp only [zL, zK] at hO)
        | ((with_reducible refine wpl_box ?_); refine wpList_box_own rfl (by rfl) hO rfl rfl (fun b => by simp only [Act.put, zA, zB, zC]; rfl) ?_; (first | (refine nm 0 rfl ?_; clear hO; intro b0 u hO) | (refine nm 1 rfl ?_; clear hO; intro b1 u hO)); simp only [zL, zK] at hO)
        | ((with_reducible refine wpl_load ?_); refine wpList_load_box rfl (by (first | rfl | (simp only [Region.wanted, yielded, *]; go_simp; done) | (simp [Region.wanted, yielded, *]; done) | fail)) hO rfl _ (by (first | exact at0 | exact at1)) (by rfl) (by simp only [Act.put, zA, zB, zC]; rfl) ?_)
        | ((with_reducible refine wpl_load ?_); refine wpList_load_field rfl (by (first | rfl | (simp only [Region.wanted, yielded, *]; go_simp; done) | (simp [Region.wanted, yielded, *]; done) | fail)) hO rfl _ (by (first | exact at0 | exact at1)) (by rfl) (by simp only [Act.put, zA, zB, zC]; rfl) ?_)
        | ((with_reducible refine wpl_store ?_); refine wpList_store_box rfl (by rfl) hO rfl _ (by (first | exact at0 | exact at1)) rfl (by rfl) (by rfl) (by rfl) (by rfl) (by rfl) ?_; clear hO; intro u hO; simp only [zC, zB] at hO)
        | ((with_reducible refine wpl_store ?_); refine wpList_store_field rfl (by rfl) hO rfl _ (by (first | exact at0 | exact at1)) (zM rfl) (by simp only [Act.eval, zJ, zF, zD, zE, zP]; rfl) (by rfl) (by rfl) (by rfl) ?_; clear hO; intro u hO; simp only [zC, zB] at hO)
        | fail)
      go_ret
      refine ⟨ret_bool ?_, hO.below⟩
      rw [hc', HE.out, HR.out, K0.out]
      have hps : ps = [] := List.length_eq_zero_iff.1 (by rw [HLp.out]; exact HNP.out)
      rw [hps]
      by_cases h0 : n = 0
      · by_cases h9 : nc = 0
        · have hni : ni = 0 := by
            have h7 := HNN.out
            rw [K0.out] at h7
            unfold lenN at h7
            simp at h7
            omega
          have his : is = [] := List.length_eq_zero_iff.1 (by rw [HLi.out]; exact hni)
          rw [his]
          simp [lL, h0, h9]
        · simp [h9]
      · simp [h0]
    · have k0' : (k == 0) = false := by simp [k0]
      have HB : Hid (hB = true) := Lib.hid (by rw [HR.out, decide_eq_false K5.out, decide_eq_false k0]; rfl)
      have K0 := Lib.hid k0
      clear k0 HR
      go_upto_region 10 with (first
        | ((with_reducible refine wpl_load ?_); refine wpList_load_field rfl (by rfl) hO rfl _ (by exact at0) (by rfl) (by simp only [Act.put, zA, zB, zC]; rfl) ?_)
        | fail)
      refine lis_r10 hO ?_
      clear hO
      intro c' x119 x120 x121 x122 x123 x124 x125 x126 u hc' hO
      have H10 := Lib.hid hc'
      clear hc'
      cases c' with
      | true =>
        have hk4 : k = 4 ∧ 0 < ni := by have := H10.out; simp at this; exact this
        have HA : Hid (is.all (itB k ls) = false) := Lib.hid (by
          have hlt : 0 < is.length := by rw [HLi.out]; exact hk4.2
          refine all_false hlt ?_
          unfold itB
          rw [hk4.1]
          rfl)
        clear hk4
        go_wp2_with (first
          | ((with_reducible refine wpl_alloc ?_); refine wpList_alloc_own rfl (by rfl) hO rfl (fun b => by simp only [Act.put, zA, zB, zC]; rfl) ?_; (first | (refine nm 0 rfl ?_; clear hO; intro b0 u hO) | (refine nm 1 rfl ?_; clear hO; intro b1 u hO)); simp only [zL, zK] at hO)
          | ((with_reducible refine wpl_box ?_); refine wpList_box_own rfl (by rfl) hO rfl rfl (fun b => by simp only [Act.put, zA, zB, zC]; rfl) ?_; (first | (refine nm 0 rfl ?_; clear hO; intro b0 u hO) | (refine nm 1 rfl ?_; clear hO; intro b1 u hO)); simp only [zL, zK] at hO)
          | ((with_reducible refine wpl_load ?_); refine wpList_load_box rfl (by (first | rfl | (simp only [Region.wanted, yielded, *]; go_simp; done) | (simp [Region.wanted, yielded, *]; done) | fail)) hO rfl _ (by (first | exact at0 | exact at1)) (by rfl) (by simp only [Act.put, zA, zB, zC]; rfl) ?_)
          | ((with_reducible refine wpl_load ?_); refine wpList_load_field rfl (by (first | rfl | (simp only [Region.wanted, yielded, *]; go_simp; done) | (simp [Region.wanted, yielded, *]; done) | fail)) hO rfl _ (by (first | exact at0 | exact at1)) (by rfl) (by simp only [Act.put, zA, zB, zC]; rfl) ?_)
          | ((with_reducible refine wpl_store ?_); refine wpList_store_box rfl (by rfl) hO rfl _ (by (first | exact at0 | exact at1)) rfl (by rfl) (by rfl) (by rfl) (by rfl) (by rfl) ?_; clear hO; intro u hO; simp only [zC, zB] at hO)
          | ((with_reducible refine wpl_store ?_); refine wpList_store_field rfl (by rfl) hO rfl _ (by (first | exact at0 | exact at1)) (zM rfl) (by simp only [Act.eval, zJ, zF, zD, zE, zP]; rfl) (by rfl) (by rfl) (by rfl) ?_; clear hO; intro u hO; simp only [zC, zB] at hO)
          | fail)
        go_ret
        exact ⟨ret_bool (by rw [HE.out, HA.out, Bool.and_false]; rfl), hO.below⟩
      | false =>
      go_wp2_with (first
        | ((with_reducible refine wpl_alloc ?_); refine wpList_alloc_own rfl (by rfl) hO rfl (fun b => by simp only [Act.put, zA, zB, zC]; rfl) ?_; (first | (refine nm 0 rfl ?_; clear hO; intro b0 u hO) | (refine nm 1 rfl ?_; clear hO; intro b1 u hO)); simp only [zL, zK] at hO)
        | ((with_reducible refine wpl_box ?_); refine wpList_box_own rfl (by rfl) hO rfl rfl (fun b => by simp only [Act.put, zA, zB, zC]; rfl) ?_; (first | (refine nm 0 rfl ?_; clear hO; intro b0 u hO) | (refine nm 1 rfl ?_; clear hO; intro b1 u hO)); simp only [zL, zK] at hO)
        | ((with_reducible refine wpl_load ?_); refine wpList_load_box rfl (by (first | rfl | (simp only [Region.wanted, yielded, *]; go_simp; done) | (simp [Region.wanted, yielded, *]; done) | fail)) hO rfl _ (by (first | exact at0 | exact at1)) (by rfl) (by simp only [Act.put, zA, zB, zC]; rfl) ?_)
        | ((with_reducible refine wpl_load ?_); refine wpList_load_field rfl (by (first | rfl | (simp only [Region.wanted, yielded, *]; go_simp; done) | (simp [Region.wanted, yielded, *]; done) | fail)) hO rfl _ (by (first | exact at0 | exact at1)) (by rfl) (by simp only [Act.put, zA, zB, zC]; rfl) ?_)
        | ((with_reducible refine wpl_store ?_); refine wpList_store_box rfl (by rfl) hO rfl _ (by (first | exact at0 | exact at1)) rfl (by rfl) (by rfl) (by rfl) (by rfl) (by rfl) ?_; clear hO; intro u hO; simp only [zC, zB] at hO)
        | ((with_reducible refine wpl_store ?_); refine wpList_store_field rfl (by rfl) hO rfl _ (by (first | exact at0 | exact at1)) (zM rfl) (by simp only [Act.eval, zJ, zF, zD, zE, zP]; rfl) (by rfl) (by rfl) (by rfl) ?_; clear hO; intro u hO; simp only [zC, zB] at hO)
        | fail)
      go_loopw [6] (fun i u => ∃ m : Nat, m ≤ ni ∧ i = .int .i64 m ∧ Hid ((is.take m).all (itB k ls) = true) ∧ Own w [box b0 29 [.int .i64 k, .slice Ai ni ci, .slice Ap np cp, .slice An nn cn, .slice Ac nc cc, .slice Al nl cl, .int .i64 c, .int .i64 e]] u) (fun i _ => ni - (intOf i).toNat)
      case atStart => exact ⟨0, Nat.zero_le _, rfl, rfl, hO⟩
      case round =>
        clear hO
        obtain ⟨m, hm, rfl, hal, hO⟩ := hrel
        by_cases hlt : m < ni
        · have hk3 : 1 ≤ k ∧ k ≤ 3 := by
            have hk4 : k ≠ 4 := by
              intro h
              have := H10.out
              rw [h] at this
              simp at this
              omega
            have := HK.out
            have := K5.out
            have := K0.out
            omega
          have hml : m < is.length := by rw [HLi.out]; exact hlt
          have hsz := Nat.le_trans (itz_mem hml) z2
          obtain ⟨x, hx⟩ : ∃ x, is[m]'hml = x := ⟨_, rfl⟩
          obtain ⟨g, off, rfl, hg, d0, d1, d2⟩ := Sl.itn h1 hO.below hlt hml hx
          have HT := Lib.hid (all_take (f := itB k ls) hml)
          have HF := Lib.hid (fun he => all_false (f := itB k ls) hml he)
          rw [hx] at HT HF hsz
          have HI := Lib.hid (HIT.out x hk3)
          clear hx hml hk3
          have CI := fun u => spec_item k x.num x.den x.text u (by unfold maxLen; omega)
          obtain ⟨xn, xd, xt⟩ := x
          simp only at d0 d1 d2 CI
          obtain ⟨qb, hqb⟩ : ∃ z, itemB k ⟨xn, xd, xt⟩ = z := ⟨_, rfl⟩
          rw [hqb] at HI CI
          clear hqb hsz
          go_upto_region 16 with (first
            | ((with_reducible refine wpl_alloc ?_); refine wpList_alloc_own rfl (by rfl) hO rfl (fun b => by simp only [Act.put, zA, zB, zC]; rfl) ?_; (refine nm 1 rfl ?_; clear hO; intro b1 u hO); simp only [zL, zK] at hO)
            | ((with_reducible refine wpl_load ?_); refine wpList_load_field rfl (by rfl) hO rfl _ (by exact at0) (by rfl) (by simp only [Act.put, zA, zB, zC]; rfl) ?_)
            | ((with_reducible refine wpl_store ?_); refine wpList_store_box rfl (by rfl) hO rfl _ (by exact at1) rfl (by rfl) (by rfl) (by rfl) (by rfl) (by rfl) ?_; clear hO; intro u hO; simp only [zC, zB] at hO)
            | fail)
          clear d0 d1 d2
          refine lis_r16 CI hO ?_
          clear hO
          intro c' x140 x141 x142 x143 x144 x145 x146 x147 x148 x149 x150 x151 x152 x153 x154 x155 x156 x157 x158 x159 x160 x161 x162 x163 x164 x165 x166 x167 x168 u hc' hO
          have HR := Lib.hid (HI.out _ hc')
          clear hc'
          cases c' with
          | true =>
            have HS := Lib.hid (HF.out (by rw [HR.out]; rfl))
            go_wp2_with (first
              | ((with_reducible refine wpl_alloc ?_); refine wpList_alloc_own rfl (by rfl) hO rfl (fun b => by simp only [Act.put, zA, zB, zC]; rfl) ?_; (first | (refine nm 0 rfl ?_; clear hO; intro b0 u hO) | (refine nm 1 rfl ?_; clear hO; intro b1 u hO)); simp only [zL, zK] at hO)
              | ((with_reducible refine wpl_box ?_); refine wpList_box_own rfl (by rfl) hO rfl rfl (fun b => by simp only [Act.put, zA, zB, zC]; rfl) ?_; (first | (refine nm 0 rfl ?_; clear hO; intro b0 u hO) | (refine nm 1 rfl ?_; clear hO; intro b1 u hO)); simp only [zL, zK] at hO)
              | ((with_reducible refine wpl_load ?_); refine wpList_load_box rfl (by (first | rfl | (simp only [Region.wanted, yielded, *]; go_simp; done) | (simp [Region.wanted, yielded, *]; done) | fail)) hO rfl _ (by (first | exact at0 | exact at1)) (by rfl) (by simp only [Act.put, zA, zB, zC]; rfl) ?_)
              | ((with_reducible refine wpl_load ?_); refine wpList_load_field rfl (by (first | rfl | (simp only [Region.wanted, yielded, *]; go_simp; done) | (simp [Region.wanted, yielded, *]; done) | fail)) hO rfl _ (by (first | exact at0 | exact at1)) (by rfl) (by simp only [Act.put, zA, zB, zC]; rfl) ?_)
              | ((with_reducible refine wpl_store ?_); refine wpList_store_box rfl (by rfl) hO rfl _ (by (first | exact at0 | exact at1)) rfl (by rfl) (by rfl) (by rfl) (by rfl) (by rfl) ?_; clear hO; intro u hO; simp only [zC, zB] at hO)
              | ((with_reducible refine wpl_store ?_); refine wpList_store_field rfl (by rfl) hO rfl _ (by (first | exact at0 | exact at1)) (zM rfl) (by simp only [Act.eval, zJ, zF, zD, zE, zP]; rfl) (by rfl) (by rfl) (by rfl) ?_; clear hO; intro u hO; simp only [zC, zB] at hO)
              | fail)
            go_ret
            exact ⟨ret_bool (by rw [HE.out, HS.out, Bool.and_false]; rfl), hO.below⟩
          | false =>
          replace hO := hO.pick [0] (by decide)
          simp only [zN, zO, zE, zD] at hO
          go_wp2_with (first
            | ((with_reducible refine wpl_alloc ?_); refine wpList_alloc_own rfl (by rfl) hO rfl (fun b => by simp only [Act.put, zA, zB, zC]; rfl) ?_; (first | (refine nm 0 rfl ?_; clear hO; intro b0 u hO) | (refine nm 1 rfl ?_; clear hO; intro b1 u hO)); simp only [zL, zK] at hO)
            | ((with_reducible refine wpl_box ?_); refine wpList_box_own rfl (by rfl) hO rfl rfl (fun b => by simp only [Act.put, zA, zB, zC]; rfl) ?_; (first | (refine nm 0 rfl ?_; clear hO; intro b0 u hO) | (refine nm 1 rfl ?_; clear hO; intro b1 u hO)); simp only [zL, zK] at hO)
            | ((with_reducible refine wpl_load ?_); refine wpList_load_box rfl (by (first | rfl | (simp only [Region.wanted, yielded, *]; go_simp; done) | (simp [Region.wanted, yielded, *]; done) | fail)) hO rfl _ (by (first | exact at0 | exact at1)) (by rfl) (by simp only [Act.put, zA, zB, zC]; rfl) ?_)
            | ((with_reducible refine wpl_load ?_); refine wpList_load_field rfl (by (first | rfl | (simp only [Region.wanted, yielded, *]; go_simp; done) | (simp [Region.wanted, yielded, *]; done) | fail)) hO rfl _ (by (first | exact at0 | exact at1)) (by rfl) (by simp only [Act.put, zA, zB, zC]; rfl) ?_)
            | ((with_reducible refine wpl_store ?_); refine wpList_store_box rfl (by rfl) hO rfl _ (by (first | exact at0 | exact at1)) rfl (by rfl) (by rfl) (by rfl) (by rfl) (by rfl) ?_; clear hO; intro u hO; simp only [zC, zB] at hO)
            | ((with_reducible refine wpl_store ?_); refine wpList_store_field rfl (by rfl) hO rfl _ (by (first | exact at0 | exact at1)) (zM rfl) (by simp only [Act.eval, zJ, zF, zD, zE, zP]; rfl) (by rfl) (by rfl) (by rfl) ?_; clear hO; intro u hO; simp only [zC, zB] at hO)
            | fail)
          go_roundw
          case rel => exact ⟨m + 1, by omega, by go_num, by show _ = _; rw [HT.out, hal.out, HR.out]; rfl, hO⟩
          case measure => simp [intOf]; omega
        · have hmn : m = ni := by omega
          have HS : Hid (is.all (itB k ls) = true) := Lib.hid (by rw [← hal.out, List.take_of_length_le (by rw [HLi.out]; omega)])
          clear hal h1
          obtain rfl : ni = m := hmn.symm
          clear hmn HIT
          go_wp2_with (first
            | ((with_reducible refine wpl_load ?_); refine wpList_load_field rfl (by rfl) hO rfl _ (by exact at0) (by rfl) (by simp only [Act.put, zA, zB, zC]; rfl) ?_)
            | fail)
          go_loopw [8] (fun i u => ∃ m : Nat, m ≤ np ∧ i = .int .i64 m ∧ Hid (lL q (ps.take m) = true) ∧ Own w [box b0 29 [.int .i64 k, .slice Ai ni ci, .slice Ap np cp, .slice An nn cn, .slice Ac nc cc, .slice Al nl cl, .int .i64 c, .int .i64 e]] u) (fun i _ => np - (intOf i).toNat)
          case atStart => exact ⟨0, Nat.zero_le _, rfl, rfl, hO⟩
          case round =>
            clear hO
            obtain ⟨m, hm, rfl, hal, hO⟩ := hrel
            by_cases hlt : m < np
            · have hml : m < ps.length := by rw [HLp.out]; exact hlt
              have hp := ih _ (List.getElem_mem hml)
              have hps := szL_mem hzp hml
              have HT := Lib.hid (lL_succ q hml)
              have HF := Lib.hid (fun he => lL_false (l := ps) (n := q) hml he)
              obtain ⟨x, hx⟩ : ∃ x, ps[m]'hml = x := ⟨_, rfl⟩
              obtain ⟨xk, xi, xp, xn, xc, xl, xo, xe⟩ := x
              obtain ⟨b, off, rfl, hb, Bi, Bp, Bn, Bc, Bl, di, dp, dn, dc, dl, hrd, d0, d1, d2, d3, d4, d5, d6, d7⟩ := h2.ptc hO.below hml hx
              rw [hx] at hp hps HT HF
              clear hx hml
              obtain ⟨pq, hpq⟩ : ∃ z, lB (q - 1) (.mk xk xi xp xn xc xl xo xe) = z := ⟨_, rfl⟩
              rw [hpq] at HT HF
              have CP : q ≠ 0 → ∀ u, Below w.heap.size w u → Calls Try.prog 129 #[.agg #[.int .i64 xk, .slice Bi xi.length di, .slice Bp xp.length dp, .slice Bn xn.length dn, .slice Bc xc.length dc, .slice Bl xl.length dl, .int .i64 xo, .int .i64 xe], .int .i64 ((q : Int) - 1)] u fun e w' => e = .returned (.bool pq) ∧ Below u.heap.size u w' := fun h0 u hu => by
                have h := hp _ (q - 1) u (by omega) (hrd.grow hu) hps
                rw [hpq, show (((q - 1 : Nat)) : Int) = (q : Int) - 1 by omega] at h
                exact h
              clear hpq hp hps hrd
              go_upto_region 21 with (first
                | ((with_reducible refine wpl_load ?_); refine wpList_load_field rfl (by rfl) hO rfl _ (by exact at0) (by rfl) (by simp only [Act.put, zA, zB, zC]; rfl) ?_)
                | fail)
              refine lis_r21 hlt hq CP d0 d1 d2 d3 d4 d5 d6 d7 hO ?_
              clear hO
              intro c' x177 x178 x179 x180 x181 x182 x183 x184 x185 x186 x187 x188 u hc' hO
              clear d0 d1 d2 d3 d4 d5 d6 d7 CP
              have HC := Lib.hid hc'
              clear hc'
              cases c' with
              | true =>
                have HR := Lib.hid (HF.out (by
                  have h := HC.out
                  cases pq with
                  | false => exact .inr rfl
                  | true => simp at h; exact .inl h))
                go_wp2_with (first
                  | ((with_reducible refine wpl_alloc ?_); refine wpList_alloc_own rfl (by rfl) hO rfl (fun b => by simp only [Act.put, zA, zB, zC]; rfl) ?_; (first | (refine nm 0 rfl ?_; clear hO; intro b0 u hO) | (refine nm 1 rfl ?_; clear hO; intro b1 u hO)); simp only [zL, zK] at hO)
                  | ((with_reducible refine wpl_box ?_); refine wpList_box_own rfl (by rfl) hO rfl rfl (fun b => by simp only [Act.put, zA, zB, zC]; rfl) ?_; (first | (refine nm 0 rfl ?_; clear hO; intro b0 u hO) | (refine nm 1 rfl ?_; clear hO; intro b1 u hO)); simp only [zL, zK] at hO)
                  | ((with_reducible refine wpl_load ?_); refine wpList_load_box rfl (by (first | rfl | (simp only [Region.wanted, yielded, *]; go_simp; done) | (simp [Region.wanted, yielded, *]; done) | fail)) hO rfl _ (by (first | exact at0 | exact at1)) (by rfl) (by simp only [Act.put, zA, zB, zC]; rfl) ?_)
                  | ((with_reducible refine wpl_load ?_); refine wpList_load_field rfl (by (first | rfl | (simp only [Region.wanted, yielded, *]; go_simp; done) | (simp [Region.wanted, yielded, *]; done) | fail)) hO rfl _ (by (first | exact at0 | exact at1)) (by rfl) (by simp only [Act.put, zA, zB, zC]; rfl) ?_)
                  | ((with_reducible refine wpl_store ?_); refine wpList_store_box rfl (by rfl) hO rfl _ (by (first | exact at0 | exact at1)) rfl (by rfl) (by rfl) (by rfl) (by rfl) (by rfl) ?_; clear hO; intro u hO; simp only [zC, zB] at hO)
                  | ((with_reducible refine wpl_store ?_); refine wpList_store_field rfl (by rfl) hO rfl _ (by (first | exact at0 | exact at1)) (zM rfl) (by simp only [Act.eval, zJ, zF, zD, zE, zP]; rfl) (by rfl) (by rfl) (by rfl) ?_; clear hO; intro u hO; simp only [zC, zB] at hO)
                  | fail)
                go_ret
                exact ⟨ret_bool (by rw [HE.out, HR.out, Bool.and_false]), hO.below⟩
              | false =>
                have HR : Hid (lL q (ps.take (m + 1)) = true) := Lib.hid (by
                  have h := HC.out
                  rw [HT.out, hal.out]
                  cases pq with
                  | false => simp at h
                  | true => simpa using h)
                go_wp2_with (first
                  | ((with_reducible refine wpl_alloc ?_); refine wpList_alloc_own rfl (by rfl) hO rfl (fun b => by simp only [Act.put, zA, zB, zC]; rfl) ?_; (first | (refine nm 0 rfl ?_; clear hO; intro b0 u hO) | (refine nm 1 rfl ?_; clear hO; intro b1 u hO)); simp only [zL, zK] at hO)
                  | ((with_reducible refine wpl_box ?_); refine wpList_box_own rfl (by rfl) hO rfl rfl (fun b => by simp only [Act.put, zA, zB, zC]; rfl) ?_; (first | (refine nm 0 rfl ?_; clear hO; intro b0 u hO) | (refine nm 1 rfl ?_; clear hO; intro b1 u hO)); simp only [zL, zK] at hO)
                  | ((with_reducible refine wpl_load ?_); refine wpList_load_box rfl (by (first | rfl | (simp only [Region.wanted, yielded, *]; go_simp; done) | (simp [Region.wanted, yielded, *]; done) | fail)) hO rfl _ (by (first | exact at0 | exact at1)) (by rfl) (by simp only [Act.put, zA, zB, zC]; rfl) ?_)
                  | ((with_reducible refine wpl_load ?_); refine wpList_load_field rfl (by (first | rfl | (simp only [Region.wanted, yielded, *]; go_simp; done) | (simp [Region.wanted, yielded, *]; done) | fail)) hO rfl _ (by (first | exact at0 | exact at1)) (by rfl) (by simp only [Act.put, zA, zB, zC]; rfl) ?_)
                  | ((with_reducible refine wpl_store ?_); refine wpList_store_box rfl (by rfl) hO rfl _ (by (first | exact at0 | exact at1)) rfl (by rfl) (by rfl) (by rfl) (by rfl) (by rfl) ?_; clear hO; intro u hO; simp only [zC, zB] at hO)
                  | ((with_reducible refine wpl_store ?_); refine wpList_store_field rfl (by rfl) hO rfl _ (by (first | exact at0 | exact at1)) (zM rfl) (by simp only [Act.eval, zJ, zF, zD, zE, zP]; rfl) (by rfl) (by rfl) (by rfl) ?_; clear hO; intro u hO; simp only [zC, zB] at hO)
                  | fail)
                go_roundw
                case rel => exact ⟨m + 1, by omega, by go_num, HR, hO⟩
                case measure => simp [intOf]; omega
            · have hmn : m = np := by omega
              have HS2 : Hid (lL q ps = true) := Lib.hid (by rw [← hal.out, List.take_of_length_le (by rw [HLp.out]; omega)])
              clear hal
              obtain rfl : np = m := hmn.symm
              go_wp2_with (first
                | ((with_reducible refine wpl_load ?_); refine wpList_load_field rfl (by rfl) hO rfl _ (by exact at0) (by rfl) (by simp only [Act.put, zA, zB, zC]; rfl) ?_)
                | fail)
              go_ret
              exact ⟨ret_bool (by rw [HE.out, HB.out, HS.out, HS2.out]; rfl), hO.below⟩
end Go.Proofs.Ytmofcbpabdbjlaa
