/-
  What is proved: two trees are the same; what equal (of the program) and l4Same (of the reference) return.
  Condition: trees of size at most 1048576.
-/
import Derived.Test.YtmofcbpabdbjlaaVz6
import Derived.Test.YtmofcbpabdbjlaaVz15
import Derived.Test.YtmofcbpabdbjlaaVz35
namespace Go.Proofs.Ytmofcbpabdbjlaa

set_option maxRecDepth 8000

open Go.RowKit Go.ChangeShapes Go.WideShapes Go.Deep

set_option linter.unusedVariables false

set_option linter.unusedSimpArgs false

def eqI (a b : It) : Bool := a.num == b.num && (a.den == b.den && a.text.toList == b.text.toList)

mutual
def eqV : VT → VT → Bool
  | .mk k is ps ns cs ls c e, .mk k2 js qs ms ds gs c2 e2 =>
    ((k == k2) && ((c == c2) && ((e == e2) && (eqSS ns ms && (eqSS cs ds && (eqSS ls gs && ((is.length == js.length) && (ps.length == qs.length)))))))) && (eqL eqI is js && eqVL ps qs)
def eqVL : List VT → List VT → Bool
  | [], [] => true
  | p :: ps, q :: qs => eqV p q && eqVL ps qs
  | [], _ :: _ => false
  | _ :: _, [] => false
end

theorem eqVL_eq : ∀ ps qs : List VT, eqVL ps qs = eqL eqV ps qs
  | [], [] => by rw [eqVL, eqL]
  | p :: ps, q :: qs => by rw [eqVL, eqL, eqVL_eq ps qs]
  | [], _ :: _ => by rw [eqVL, eqL]
  | _ :: _, [] => by rw [eqVL, eqL]

set_option maxRecDepth 20000 in
set_option maxHeartbeats 4000000 in
theorem spec_same (t : VT) : ∀ (t' : VT) (vs vs' : List Value) (w : World), RdV w t vs → RdV w t' vs' → szV t ≤ 1048576 → szV t' ≤ 1048576 → Calls Try.prog 134 #[.agg vs.toArray, .agg vs'.toArray] w fun e w' => e = .returned (.bool (eqV t t')) ∧ Below w.heap.size w w' := by
  induction t using VT.ind with
  | _ k is ps ns cs ls c e ih =>
    intro t' vs vs' w hv hv' hz hz'
    obtain ⟨k2, js, qs, ms, ds, gs, c2, e2⟩ := t'
    obtain ⟨Ai, Ap, An, Ac, Al, ci, cp, cn, cc, cl, pvs, rfl, h1, h2, h3, h4, h5⟩ := hv.open
    obtain ⟨Bi, Bp, Bn, Bc, Bl, di, dp, dn, dc, dl, qvs, rfl, g1, g2, g3, g4, g5⟩ := hv'.open
    have HT : szV (.mk k is ps ns cs ls c e) = szI is + szL ps + szS ns + szS cs + szS ls := rfl
    have HT' : szV (.mk k2 js qs ms ds gs c2 e2) = szI js + szL qs + szS ms + szS ds + szS gs := rfl
    unfold szI szS at HT HT'
    have Cn := fun u (hb : Below w.heap.size w u) => spec_strings An Bn ns.length ms.length cn dn ns ms u (h3.below hb) (g3.below hb) (by omega) (by omega)
    have Cc := fun u (hb : Below w.heap.size w u) => spec_strings Ac Bc cs.length ds.length cc dc cs ds u (h4.below hb) (g4.below hb) (by omega) (by omega)
    have Cl := fun u (hb : Below w.heap.size w u) => spec_strings Al Bl ls.length gs.length cl dl ls gs u (h5.below hb) (g5.below hb) (by omega) (by omega)
    obtain ⟨hd, hhd⟩ : ∃ hd, ((k == k2) && ((c == c2) && ((e == e2) && (eqSS ns ms && (eqSS cs ds && (eqSS ls gs && ((is.length == js.length) && (ps.length == qs.length)))))))) = hd := ⟨_, rfl⟩
    have HV : Hid (eqV (.mk k is ps ns cs ls c e) (.mk k2 js qs ms ds gs c2 e2) = (hd && (eqL eqI is js && eqL eqV ps qs))) := Lib.hid (by rw [eqV, hhd, eqVL_eq])
    have hzi : is.length ≤ 1048576 := by omega
    have hzp : ps.length ≤ 1048576 := by have := szL_eq ps; omega
    have hzz : szL ps ≤ 1048576 := by omega
    have hzz' : szL qs ≤ 1048576 := by omega
    clear HT HT' hv hv'
    go_enter Try.func134, Try.ntmps134
    have hO := Own.nil w
    go_upto_region 1 with (first | ((with_reducible refine zaf ?_); refine zbx rfl hO rfl rfl ?_; (first | (refine nm 0 rfl ?_; clear hO; intro b0 u hO) | (refine nm 1 rfl ?_; clear hO; intro b1 u hO) | fail); simp only [zL, zK] at hO) | fail)
    refine eq_s1 Cn Cc Cl hO ?_
    clear hO
    intro c' x7 x8 x9 x10 x11 x12 x13 x14 x15 x16 x17 x18 x19 x20 x21 x22 x23 x24 x25 x26 x27 x28 x29 x30 x31 x32 x33 x34 x35 x36 x37 x38 x39 x40 x41 x42 x43 x44 x45 x46 x47 x48 x49 x50 x51 x52 x53 x54 x55 x56 x57 x58 x59 x60 x61 x62 x63 x64 x65 x66 u hc' hO
    rw [hhd] at hc'
    subst hc'
    cases hd with
    | false =>
      have HF := Lib.hid (HV.out.trans (Bool.false_and _))
      go_wp2_with fail
      go_ret
      exact ⟨by rw [HF.out]; rfl, hO.below⟩
    | true =>
      have HL : Hid (is.length = js.length) := Lib.hid (by simp only [Bool.and_eq_true, beq_iff_eq] at hhd; exact hhd.2.2.2.2.2.2.1)
      have HM : Hid (ps.length = qs.length) := Lib.hid (by simp only [Bool.and_eq_true, beq_iff_eq] at hhd; exact hhd.2.2.2.2.2.2.2)
      have HV2 := Lib.hid (HV.out.trans (Bool.true_and _))
      clear hhd HV Cn Cc Cl
      go_wp2_with fail
      go_loopw [5] (fun i u => ∃ m : Nat, m ≤ is.length ∧ i = .int .i64 m ∧ Hid (eqL eqI is js = eqL eqI (is.drop m) (js.drop m)) ∧ Own w [box b0 29 [.int .i64 k, .slice Ai is.length ci, .slice Ap ps.length cp, .slice An ns.length cn, .slice Ac cs.length cc, .slice Al ls.length cl, .int .i64 c, .int .i64 e], box b1 29 [.int .i64 k2, .slice Bi js.length di, .slice Bp qs.length dp, .slice Bn ms.length dn, .slice Bc ds.length dc, .slice Bl gs.length dl, .int .i64 c2, .int .i64 e2]] u) (fun i _ => is.length - (intOf i).toNat)
      case atStart => exact ⟨0, Nat.zero_le _, rfl, Lib.hid rfl, hO⟩
      case round =>
        clear hO
        obtain ⟨m, hm, rfl, HE, hO⟩ := hrel
        by_cases hlt : m < is.length
        · have hlt' : m < js.length := by have := HL.out; omega
          obtain ⟨x, hx⟩ : ∃ x, is[m]'hlt = x := ⟨_, rfl⟩
          obtain ⟨y, hy⟩ : ∃ y, js[m]'hlt' = y := ⟨_, rfl⟩
          obtain ⟨b, off, rfl, hb, a0, a1, a2⟩ := h1.it (Below.refl _ _) hlt hx
          obtain ⟨b', off', rfl, hb', d0, d1, d2⟩ := g1.it (Below.refl _ _) hlt' hy
          have HD := Lib.hid (eqL_drop eqI hlt hlt')
          rw [hx, hy] at HD
          clear hx hy
          have i1 : (0 : Int) ≤ (m : Int) := by omega
          have i2 : (m : Int) < (is.length : Int) := by omega
          have i3 : (m : Int) < (js.length : Int) := by omega
          by_cases q : eqI x y = true
          · have HT : Hid (eqL eqI is js = eqL eqI (is.drop (m + 1)) (js.drop (m + 1))) := Lib.hid (by rw [HE.out, HD.out, q, Bool.true_and])
            simp only [eqI, Bool.and_eq_true, beq_iff_eq] at q
            obtain ⟨p1, p2, p3⟩ := q
            go_wp2_with (first | ((with_reducible refine zaa ?_); refine zlf rfl hO rfl _ (by exact at0) ?_) | fail)
            refine J.wp_region_c (n := 105) [0, 1, 2, 3, 4, 5, 6, 7, 8, 9, 10] [] (deps := fun i => [[], [0], [], [0, 1, 2], [0, 1, 2, 3], [], [5], [], [5, 6, 7], [5, 6, 7, 8], [0, 1, 2, 3, 4, 5, 6, 7, 8, 9]].getD i []) (fun _ _ _ => True) (r := 0) (lst := #[true, true, true, true, true, true, true, true, true, true, true]) (by kernel_rfl) (by kernel_rfl) (by kernel_rfl) rfl (by decide) (by kernel_rfl) hO ?_
            refine zcp (h := ?_)
            refine zcc (f := fun M u hO K hK => by (exact zad hO rfl rfl _ (by exact at0) (by rfl) (by rfl) (hK _ hO))) (h := ?_)
            refine zcp (h := ?_)
            refine zcp (h := ?_)
            refine zcc (f := fun M u hO K hK => by ((have e0 := (hO.old hb).trans a0; have e1 := (hO.old hb).trans a1; have e2 := (hO.old hb).trans a2; have f0 := (hO.old hb').trans d0; have f1 := (hO.old hb').trans d1; have f2 := (hO.old hb').trans d2; simp only [wp_at_zero, wp_at_succ]; go_step; exact hK _ hO))) (h := ?_)
            refine zcp (h := ?_)
            refine zcc (f := fun M u hO K hK => by (exact zad hO rfl rfl _ (by exact at1) (by rfl) (by rfl) (hK _ hO))) (h := ?_)
            refine zcp (h := ?_)
            refine zcp (h := ?_)
            refine zcc (f := fun M u hO K hK => by ((have e0 := (hO.old hb).trans a0; have e1 := (hO.old hb).trans a1; have e2 := (hO.old hb).trans a2; have f0 := (hO.old hb').trans d0; have f1 := (hO.old hb').trans d1; have f2 := (hO.old hb').trans d2; simp only [wp_at_zero, wp_at_succ]; go_step; exact hK _ hO))) (h := ?_)
            refine zcp (h := ?_)
            refine J.Chain.nil ⟨?_, ?_⟩
            · exact J.Each.nil
            intro vs u hO hF
            clear hF
            simp only [List.flatMap_cons, List.flatMap_nil, List.append_nil, zL, zK] at hO
            simp only [J.putL]
            clear vs
            refine wpAny_done (by kernel_rfl) ?_ _
            go_wp2_with fail
            go_roundw
            case rel => exact ⟨m + 1, by omega, by go_num, HT, hO⟩
            case measure => simp [intOf]; omega
          · have HF : Hid (eqV (.mk k is ps ns cs ls c e) (.mk k2 js qs ms ds gs c2 e2) = false) := Lib.hid (by rw [HV2.out, HE.out, HD.out, Bool.eq_false_iff.2 q]; rfl)
            have hc : ¬ x.num = y.num ∨ (x.num = y.num ∧ ¬ x.den = y.den) ∨ ((x.num = y.num ∧ x.den = y.den) ∧ ¬ x.text.toList = y.text.toList) := by
              by_cases p1 : x.num = y.num
              · by_cases p2 : x.den = y.den
                · exact .inr (.inr ⟨⟨p1, p2⟩, fun p3 => q (by simp [eqI, p1, p2, p3])⟩)
                · exact .inr (.inl ⟨p1, p2⟩)
              · exact .inl p1
            clear q
            rcases hc with p1 | ⟨p1, p2⟩ | ⟨⟨p1, p2⟩, p3⟩
            all_goals
              go_wp2_with (first | ((with_reducible refine zaa ?_); refine zlf rfl hO rfl _ (by exact at0) ?_) | fail)
              refine J.wp_region_c (n := 105) [0, 1, 2, 3, 4, 5, 6, 7, 8, 9, 10] [] (deps := fun i => [[], [0], [], [0, 1, 2], [0, 1, 2, 3], [], [5], [], [5, 6, 7], [5, 6, 7, 8], [0, 1, 2, 3, 4, 5, 6, 7, 8, 9]].getD i []) (fun _ _ _ => True) (r := 0) (lst := #[true, true, true, true, true, true, true, true, true, true, true]) (by kernel_rfl) (by kernel_rfl) (by kernel_rfl) rfl (by decide) (by kernel_rfl) hO ?_
              refine zcp (h := ?_)
              refine zcc (f := fun M u hO K hK => by (exact zad hO rfl rfl _ (by exact at0) (by rfl) (by rfl) (hK _ hO))) (h := ?_)
              refine zcp (h := ?_)
              refine zcp (h := ?_)
              refine zcc (f := fun M u hO K hK => by ((have e0 := (hO.old hb).trans a0; have e1 := (hO.old hb).trans a1; have e2 := (hO.old hb).trans a2; have f0 := (hO.old hb').trans d0; have f1 := (hO.old hb').trans d1; have f2 := (hO.old hb').trans d2; simp only [wp_at_zero, wp_at_succ]; go_step; exact hK _ hO))) (h := ?_)
              refine zcp (h := ?_)
              refine zcc (f := fun M u hO K hK => by (exact zad hO rfl rfl _ (by exact at1) (by rfl) (by rfl) (hK _ hO))) (h := ?_)
              refine zcp (h := ?_)
              refine zcp (h := ?_)
              refine zcc (f := fun M u hO K hK => by ((have e0 := (hO.old hb).trans a0; have e1 := (hO.old hb).trans a1; have e2 := (hO.old hb).trans a2; have f0 := (hO.old hb').trans d0; have f1 := (hO.old hb').trans d1; have f2 := (hO.old hb').trans d2; simp only [wp_at_zero, wp_at_succ]; go_step; exact hK _ hO))) (h := ?_)
              refine zcp (h := ?_)
              refine J.Chain.nil ⟨?_, ?_⟩
              · exact J.Each.nil
              intro vs u hO hF
              clear hF
              simp only [List.flatMap_cons, List.flatMap_nil, List.append_nil, zL, zK] at hO
              simp only [J.putL]
              clear vs
              refine wpAny_done (by kernel_rfl) ?_ _
              go_wp2_with fail
              go_wp2_with fail
              go_ret
              exact ⟨by rw [HF.out]; rfl, hO.below⟩
        · have hmn : m = is.length := by omega
          subst hmn
          have HV3 : Hid (eqV (.mk k is ps ns cs ls c e) (.mk k2 js qs ms ds gs c2 e2) = eqL eqV ps qs) := Lib.hid (by rw [HV2.out, HE.out, eqL_end eqI rfl HL.out.symm, Bool.true_and])
          clear HV2 HE
          go_wp2_with (first | ((with_reducible refine zaa ?_); refine zlf rfl hO rfl _ (by exact at0) ?_) | fail)
          go_loopw [6] (fun i u => ∃ m : Nat, m ≤ ps.length ∧ i = .int .i64 m ∧ Hid (eqL eqV ps qs = eqL eqV (ps.drop m) (qs.drop m)) ∧ Own w [box b0 29 [.int .i64 k, .slice Ai is.length ci, .slice Ap ps.length cp, .slice An ns.length cn, .slice Ac cs.length cc, .slice Al ls.length cl, .int .i64 c, .int .i64 e], box b1 29 [.int .i64 k2, .slice Bi js.length di, .slice Bp qs.length dp, .slice Bn ms.length dn, .slice Bc ds.length dc, .slice Bl gs.length dl, .int .i64 c2, .int .i64 e2]] u) (fun i _ => ps.length - (intOf i).toNat)
          case atStart => exact ⟨0, Nat.zero_le _, rfl, Lib.hid rfl, hO⟩
          case round =>
            clear hO
            obtain ⟨m, hm, rfl, HE, hO⟩ := hrel
            by_cases hlt : m < ps.length
            · have hlt' : m < qs.length := by have := HM.out; omega
              have hp := ih _ (List.getElem_mem hlt)
              have z1 : szV (ps[m]'hlt) ≤ 1048576 := by have h := szP_mem hlt; have := szL_eq ps; omega
              have z2 : szV (qs[m]'hlt') ≤ 1048576 := by have h := szP_mem hlt'; have := szL_eq qs; omega
              have HD := Lib.hid (eqL_drop eqV hlt hlt')
              obtain ⟨x, hx⟩ : ∃ x, ps[m]'hlt = x := ⟨_, rfl⟩
              obtain ⟨y, hy⟩ : ∃ y, qs[m]'hlt' = y := ⟨_, rfl⟩
              obtain ⟨b, off, rfl, hb, v0, v1, v2, v3, v4, v5, v6, v7, hv, a0, a1, a2, a3, a4, a5, a6, a7⟩ := h2.pt (Below.refl _ _) hlt hx
              obtain ⟨b', off', rfl, hb', x0, x1, x2, x3, x4, x5, x6, x7, hv', d0, d1, d2, d3, d4, d5, d6, d7⟩ := g2.pt (Below.refl _ _) hlt' hy
              rw [hx] at hp z1 HD
              rw [hy] at z2 HD
              have CP := fun u (hb : Below w.heap.size w u) => hp y _ _ u (hv.grow hb) (hv'.grow hb) z1 z2
              clear hx hy hp hv hv'
              have i1 : (0 : Int) ≤ (m : Int) := by omega
              have i2 : (m : Int) < (ps.length : Int) := by omega
              have i3 : (m : Int) < (qs.length : Int) := by omega
              cases q : eqV x y with
              | true =>
                rw [q] at CP
                have HT : Hid (eqL eqV ps qs = eqL eqV (ps.drop (m + 1)) (qs.drop (m + 1))) := Lib.hid (by rw [HE.out, HD.out, q, Bool.true_and])
                go_wp2_with (first | ((with_reducible refine zaa ?_); refine zlf rfl hO rfl _ (by exact at0) ?_) | fail)
                refine J.wp_region_c (n := 105) [0, 1, 2, 3, 4, 5, 6, 7, 8, 9, 10, 11] [] (deps := fun i => [[], [0], [], [0, 1, 2], [0, 1, 2, 3], [], [5], [], [5, 6, 7], [5, 6, 7, 8], [0, 1, 2, 3, 4, 5, 6, 7, 8, 9], [0, 1, 2, 3, 4, 5, 6, 7, 8, 9, 10]].getD i []) (fun _ _ _ => True) (r := 0) (lst := #[true, true, true, true, true, true, true, true, true, true, true, true]) (by kernel_rfl) (by kernel_rfl) (by kernel_rfl) rfl (by decide) (by kernel_rfl) hO ?_
                refine zcp (h := ?_)
                refine zcc (f := fun M u hO K hK => by (exact zad hO rfl rfl _ (by exact at0) (by rfl) (by rfl) (hK _ hO))) (h := ?_)
                refine zcp (h := ?_)
                refine zcp (h := ?_)
                refine zcc (f := fun M u hO K hK => by ((have e0 := (hO.old hb).trans a0; have e1 := (hO.old hb).trans a1; have e2 := (hO.old hb).trans a2; have e3 := (hO.old hb).trans a3; have e4 := (hO.old hb).trans a4; have e5 := (hO.old hb).trans a5; have e6 := (hO.old hb).trans a6; have e7 := (hO.old hb).trans a7; have f0 := (hO.old hb').trans d0; have f1 := (hO.old hb').trans d1; have f2 := (hO.old hb').trans d2; have f3 := (hO.old hb').trans d3; have f4 := (hO.old hb').trans d4; have f5 := (hO.old hb').trans d5; have f6 := (hO.old hb').trans d6; have f7 := (hO.old hb').trans d7; simp only [wp_at_zero, wp_at_succ]; go_step; exact hK _ hO))) (h := ?_)
                refine zcp (h := ?_)
                refine zcc (f := fun M u hO K hK => by (exact zad hO rfl rfl _ (by exact at1) (by rfl) (by rfl) (hK _ hO))) (h := ?_)
                refine zcp (h := ?_)
                refine zcp (h := ?_)
                refine zcc (f := fun M u hO K hK => by ((have e0 := (hO.old hb).trans a0; have e1 := (hO.old hb).trans a1; have e2 := (hO.old hb).trans a2; have e3 := (hO.old hb).trans a3; have e4 := (hO.old hb).trans a4; have e5 := (hO.old hb).trans a5; have e6 := (hO.old hb).trans a6; have e7 := (hO.old hb).trans a7; have f0 := (hO.old hb').trans d0; have f1 := (hO.old hb').trans d1; have f2 := (hO.old hb').trans d2; have f3 := (hO.old hb').trans d3; have f4 := (hO.old hb').trans d4; have f5 := (hO.old hb').trans d5; have f6 := (hO.old hb').trans d6; have f7 := (hO.old hb').trans d7; simp only [wp_at_zero, wp_at_succ]; go_step; exact hK _ hO))) (h := ?_)
                refine zcc (f := fun M u hO K hK => by (simp only [wp_at_zero, wp_at_succ]; go_step; refine (CP _ hO.below).mono ?_; rintro e u ⟨rfl, hb⟩; exact hK _ (hO.step hb))) (h := ?_)
                refine zcp (h := ?_)
                refine J.Chain.nil ⟨?_, ?_⟩
                · exact J.Each.nil
                intro vs u hO hF
                clear hF
                simp only [List.flatMap_cons, List.flatMap_nil, List.append_nil, zL, zK] at hO
                simp only [J.putL]
                clear vs
                refine wpAny_done (by kernel_rfl) ?_ _
                go_wp2_with fail
                go_roundw
                case rel => exact ⟨m + 1, by omega, by go_num, HT, hO⟩
                case measure => simp [intOf]; omega
              | false =>
                rw [q] at CP
                have HF : Hid (eqV (.mk k is ps ns cs ls c e) (.mk k2 js qs ms ds gs c2 e2) = false) := Lib.hid (by rw [HV3.out, HE.out, HD.out, q]; rfl)
                go_wp2_with (first | ((with_reducible refine zaa ?_); refine zlf rfl hO rfl _ (by exact at0) ?_) | fail)
                refine J.wp_region_c (n := 105) [0, 1, 2, 3, 4, 5, 6, 7, 8, 9, 10, 11] [] (deps := fun i => [[], [0], [], [0, 1, 2], [0, 1, 2, 3], [], [5], [], [5, 6, 7], [5, 6, 7, 8], [0, 1, 2, 3, 4, 5, 6, 7, 8, 9], [0, 1, 2, 3, 4, 5, 6, 7, 8, 9, 10]].getD i []) (fun _ _ _ => True) (r := 0) (lst := #[true, true, true, true, true, true, true, true, true, true, true, true]) (by kernel_rfl) (by kernel_rfl) (by kernel_rfl) rfl (by decide) (by kernel_rfl) hO ?_
                refine zcp (h := ?_)
                refine zcc (f := fun M u hO K hK => by (exact zad hO rfl rfl _ (by exact at0) (by rfl) (by rfl) (hK _ hO))) (h := ?_)
                refine zcp (h := ?_)
                refine zcp (h := ?_)
                refine zcc (f := fun M u hO K hK => by ((have e0 := (hO.old hb).trans a0; have e1 := (hO.old hb).trans a1; have e2 := (hO.old hb).trans a2; have e3 := (hO.old hb).trans a3; have e4 := (hO.old hb).trans a4; have e5 := (hO.old hb).trans a5; have e6 := (hO.old hb).trans a6; have e7 := (hO.old hb).trans a7; have f0 := (hO.old hb').trans d0; have f1 := (hO.old hb').trans d1; have f2 := (hO.old hb').trans d2; have f3 := (hO.old hb').trans d3; have f4 := (hO.old hb').trans d4; have f5 := (hO.old hb').trans d5; have f6 := (hO.old hb').trans d6; have f7 := (hO.old hb').trans d7; simp only [wp_at_zero, wp_at_succ]; go_step; exact hK _ hO))) (h := ?_)
                refine zcp (h := ?_)
                refine zcc (f := fun M u hO K hK => by (exact zad hO rfl rfl _ (by exact at1) (by rfl) (by rfl) (hK _ hO))) (h := ?_)
                refine zcp (h := ?_)
                refine zcp (h := ?_)
                refine zcc (f := fun M u hO K hK => by ((have e0 := (hO.old hb).trans a0; have e1 := (hO.old hb).trans a1; have e2 := (hO.old hb).trans a2; have e3 := (hO.old hb).trans a3; have e4 := (hO.old hb).trans a4; have e5 := (hO.old hb).trans a5; have e6 := (hO.old hb).trans a6; have e7 := (hO.old hb).trans a7; have f0 := (hO.old hb').trans d0; have f1 := (hO.old hb').trans d1; have f2 := (hO.old hb').trans d2; have f3 := (hO.old hb').trans d3; have f4 := (hO.old hb').trans d4; have f5 := (hO.old hb').trans d5; have f6 := (hO.old hb').trans d6; have f7 := (hO.old hb').trans d7; simp only [wp_at_zero, wp_at_succ]; go_step; exact hK _ hO))) (h := ?_)
                refine zcc (f := fun M u hO K hK => by (simp only [wp_at_zero, wp_at_succ]; go_step; refine (CP _ hO.below).mono ?_; rintro e u ⟨rfl, hb⟩; exact hK _ (hO.step hb))) (h := ?_)
                refine zcp (h := ?_)
                refine J.Chain.nil ⟨?_, ?_⟩
                · exact J.Each.nil
                intro vs u hO hF
                clear hF
                simp only [List.flatMap_cons, List.flatMap_nil, List.append_nil, zL, zK] at hO
                simp only [J.putL]
                clear vs
                refine wpAny_done (by kernel_rfl) ?_ _
                go_wp2_with fail
                go_wp2_with fail
                go_ret
                exact ⟨by rw [HF.out]; rfl, hO.below⟩
            · have hmn : m = ps.length := by omega
              subst hmn
              have HT := Lib.hid (HV3.out.trans (HE.out.trans (eqL_end eqV rfl HM.out.symm)))
              go_wp2_with (first | ((with_reducible refine zaa ?_); refine zlf rfl hO rfl _ (by exact at0) ?_) | fail)
              go_ret
              exact ⟨by rw [HT.out]; rfl, hO.below⟩

end Go.Proofs.Ytmofcbpabdbjlaa
