/-
  What is proved: the statement on combined vectors (FnVectors).
  Condition: none beyond those of the theorems.
-/
import Derived.Test.YtmofcbpabdbjlaaVz6
import Derived.Test.YtmofcbpabdbjlaaVz24
import Derived.Test.YtmofcbpabdbjlaaVz27
import Derived.Test.YtmofcbpabdbjlaaVz28
import Derived.Test.YtmofcbpabdbjlaaVz37
import Derived.Test.YtmofcbpabdbjlaaVz38
import Derived.Test.YtmofcbpabdbjlaaVz39
namespace Go.Proofs.Ytmofcbpabdbjlaa

set_option maxRecDepth 8000

open Go.RowKit Go.ChangeShapes Go.WideShapes Go.Deep

set_option linter.unusedVariables false

set_option linter.unusedSimpArgs false

/-- a vector that lies in the things G -/
def HV (G : List Res) (t : VT) (vs : List Value) : Prop := ∃ F, VO t vs F ∧ ∀ r ∈ F, r ∈ G

theorem Own.rdh {w0 w : World} {L G : List Res} (h : Own w0 L w) (k : Nat) (hk : L[k]? = some (Go.Proofs.Ytmofcbpabdbjlaa.pack G)) {t : VT} {vs : List Value} (hv : HV G t vs) : RdV w t vs := by
  obtain ⟨F, hvo, hs⟩ := hv
  exact hvo.rd fun r hr => (h.get k hk).1 r (hs r hr)

theorem Own.rdl2 {w0 w : World} {L : List Res} (h : Own w0 L w) (k : Nat) {b : Nat} {ty : TypeId} {va vb : List Value} {ta tb : VT} (hk : L[k]? = some (box b ty (va ++ vb))) (ha : RdV w ta va) (hb : RdV w tb vb) : RdL w (some ⟨b, 0, none⟩) [ta, tb] [va, vb] := by
  have e : [va, vb].flatten = va ++ vb := by simp
  refine ⟨?_, rfl, fun i h h' => ?_⟩
  · rw [e]
    exact h.box_sl k hk (by rw [List.length_append, ha.len, hb.len]; rfl)
  · match i, h, h' with
    | 0, _, _ => exact ha
    | 1, _, _ => exact hb

theorem Own.rdl3 {w0 w : World} {L : List Res} (h : Own w0 L w) (k : Nat) {b : Nat} {ty : TypeId} {va vb vc : List Value} {ta tb tc : VT} (hk : L[k]? = some (box b ty (va ++ (vb ++ vc)))) (ha : RdV w ta va) (hb : RdV w tb vb) (hc : RdV w tc vc) : RdL w (some ⟨b, 0, none⟩) [ta, tb, tc] [va, vb, vc] := by
  have e : [va, vb, vc].flatten = va ++ (vb ++ vc) := by simp
  refine ⟨?_, rfl, fun i h h' => ?_⟩
  · rw [e]
    exact h.box_sl k hk (by rw [List.length_append, List.length_append, ha.len, hb.len, hc.len]; rfl)
  · match i, h, h' with
    | 0, _, _ => exact ha
    | 1, _, _ => exact hb
    | 2, _, _ => exact hc

theorem cbS_valid {ps : List VT} {ls : List ByteArray} (h : cbS ps ls = ⟨#[]⟩) : ps.all isV = true := by
  unfold cbS at h
  split at h
  · assumption
  · exact absurd h (by decide)

theorem sl0 (w : World) (B : Option Addr) : Sl w 1 B ([] : List ByteArray).length (stc []) := ⟨rfl, fun h => absurd h (by simp)⟩

theorem impl_lengthOfW (t : VT) (vs : List Value) (w : World) (hv : RdV w t vs) (hz : szV t ≤ 1048576) : Calls Try.prog 58 #[.agg vs.toArray] w fun e w' => e = .returned (.int .i64 (lenW t : Int)) ∧ Below w.heap.size w w' := by
  have CV := fun u (hb : Below w.heap.size w u) => impl_isVec t vs u (hv.grow hb) hz
  obtain ⟨b, hb⟩ : ∃ a, isV t = a := ⟨_, rfl⟩
  have HE : Hid (lenW t = if b then lenV t else 0) := Lib.hid (by unfold lenW; rw [hb])
  rw [hb] at CV
  clear hb
  obtain ⟨xk, xi, xp, xn, xc, xl, xo, xe⟩ := t
  obtain ⟨hzp, hzn⟩ := szV_parts hz
  obtain ⟨Ai, Ap, An, Ac, Al, ci, cp, cn, cc, cl, pvs, rfl, h1, h2, h3, h4, h5⟩ := hv.open
  have CL := fun u => impl_length xk Ai Ap xi.length xp.length ci cp (.slice An xn.length cn) (.slice Ac xc.length cc) (.slice Al xl.length cl) (.int .i64 xo) (.int .i64 xe) u (by omega)
  clear h1 h2 h3 h4 h5 hv hz
  cases b
  all_goals
    go_enter Try.func58, Try.ntmps58
    have hO := Own.nil w
    go_wp2_with (first | ((with_reducible refine (CV _ hO.below).mono ?_); rintro e u ⟨rfl, hb⟩; (replace hO := hO.step hb; clear hb)) | ((with_reducible refine (CL _).mono ?_); rintro e u ⟨rfl, hb⟩; (replace hO := hO.step hb; clear hb)) | ((with_reducible refine zaf ?_); refine zbx rfl hO rfl rfl ?_; (refine nm 0 rfl ?_; clear hO; intro b0 u hO); simp only [zL, zK] at hO) | ((with_reducible refine zaa ?_); refine zlb rfl hO rfl _ (by exact at0) ?_) | fail)
    go_ret
    exact ⟨ret_int (by rw [HE.out]; rfl), hO.below⟩

theorem vl_two {A B : Option Addr} {c d : Nat} {ta tb M : VT} {s : ByteArray} {va vb : List Value} {u : World} (hM : cbT [ta, tb] [] = M) (hs : cbS [ta, tb] [] = s) (h : RdL u A [ta, tb] [va, vb]) (hz : szV ta + szV tb ≤ 1000000) : Calls Try.prog 50 #[.slice A 2 c, .slice B 0 d] u (RetVE M (.string s) u) := by
  subst hM hs
  exact RetVE.ofS (impl_cb A B c d [ta, tb] [va, vb] [] u h (sl0 u B) (by simp only [szL, szS, List.length_nil, stz, List.map_nil, List.sum_nil]; omega))

theorem vs_two {A B : Option Addr} {c d : Nat} {ta tb M : VT} {s : ByteArray} {va vb : List Value} {u : World} (hM : cbT [ta, tb] [] = M) (hs : cbS [ta, tb] [] = s) (h : RdL u A [ta, tb] [va, vb]) (hz : szV ta + szV tb ≤ 1000000) : Calls Try.prog 49 #[.slice A 2 c, .slice B 0 d] u (RetVE M (.string s) u) := by
  subst hM hs
  exact RetVE.ofS (spec_cb A B c d [ta, tb] [va, vb] [] u h (sl0 u B) (by simp only [szL, szS, List.length_nil, stz, List.map_nil, List.sum_nil]; omega))

theorem vl_three {A B : Option Addr} {c d : Nat} {ta tb tc M : VT} {s : ByteArray} {va vb vc : List Value} {u : World} (hM : cbT [ta, tb, tc] [] = M) (hs : cbS [ta, tb, tc] [] = s) (h : RdL u A [ta, tb, tc] [va, vb, vc]) (hz : szV ta + szV tb + szV tc ≤ 1000000) : Calls Try.prog 50 #[.slice A 3 c, .slice B 0 d] u (RetVE M (.string s) u) := by
  subst hM hs
  exact RetVE.ofS (impl_cb A B c d [ta, tb, tc] [va, vb, vc] [] u h (sl0 u B) (by simp only [szL, szS, List.length_nil, stz, List.map_nil, List.sum_nil]; omega))

theorem vl_co {k : Int} {t M : VT} {b : Bool} {vs : List Value} {u : World} (hM : coT k t = M) (hb : coB k t = b) (h : RdV u t vs) (hz : szV t ≤ 1048576) : Calls Try.prog 40 #[.agg vs.toArray, .int .i64 k] u (RetVE M (.bool b) u) := by
  subst hM hb
  exact RetVE.ofB (impl_co k t vs u h hz)

theorem vs_co {k : Int} {t M : VT} {b : Bool} {vs : List Value} {u : World} (hM : coT k t = M) (hb : coB k t = b) (h : RdV u t vs) (hz : szV t ≤ 1048576) : Calls Try.prog 39 #[.agg vs.toArray, .int .i64 k] u (RetVE M (.bool b) u) := by
  subst hM hb
  exact RetVE.ofB (spec_co k t vs u h hz)

theorem vl_eq {t : VT} (hv : isV t = true) {vs vs' : List Value} {u : World} (h : RdV u t vs) (h' : RdV u t vs') : Calls Try.prog 57 #[.agg vs.toArray, .agg vs'.toArray] u fun e w' => e = .returned (.bool true) ∧ Below u.heap.size u w' := by
  have hz := Nat.le_trans (isV_small hv) (show 341500 ≤ 1048576 by decide)
  have := spec_eqVecs t t vs vs' u h h' hz hz
  rw [hv, eqV_refl] at this
  exact this

theorem str_testV {s : ByteArray} (h : s ≠ ⟨#[]⟩) : ¬ s.toList = [] ∧ s.toList.isEmpty = false ∧ (!s.toList.isEmpty) = true := by
  have e1 : ¬ s.toList = [] := fun h' => h (by rw [ByteArray.toList_eq] at h'; exact ByteArray.ext (Array.toList_inj.1 (by simpa using h')))
  exact ⟨e1, by simp [e1], by simp [e1]⟩

theorem lenW_le {k : Int} {t : VT} (h : AtV k t) (h1 : 1 ≤ k) (h3 : k ≤ 3) : lenW t ≤ 40 := by
  have f := h.form h1 h3
  unfold lenW
  rw [h.ok, if_pos rfl, f.2.1]
  exact f.2.2.1

theorem vl_len {t : VT} {n : Nat} {vs : List Value} {u : World} (hn : lenW t = n) (h : RdV u t vs) (hz : szV t ≤ 1048576) : Calls Try.prog 58 #[.agg vs.toArray] u fun e w' => e = .returned (.int .i64 (n : Int)) ∧ Below u.heap.size u w' := by
  subst hn
  exact impl_lengthOfW t vs u h hz

/-- what the law says of three vectors of one kind -/
theorem vl_plain {a b c : VT} (va : isV a = true) (h1 : 1 ≤ a.kind) (h3 : a.kind ≤ 3) (kb : b.kind = a.kind) (kc : c.kind = a.kind) (p : cbS [a, b] [] = ⟨#[]⟩) (q : cbS [b, c] [] = ⟨#[]⟩) :
    (cbT [cbT [a, b] [], c] [] = cbT [a, b, c] [] ∧ cbT [a, cbT [b, c] []] [] = cbT [a, b, c] [] ∧ cbS [cbT [a, b] [], c] [] = cbS [a, b, c] [] ∧ cbS [a, cbT [b, c] []] [] = cbS [a, b, c] [] ∧ (cbS [a, b, c] [] = ⟨#[]⟩ → lenW (cbT [a, b, c] []) = lenW a + lenW b + lenW c)) ∧ lenW a ≤ 40 ∧ lenW b ≤ 40 ∧ lenW c ≤ 40 := by
  have hq := cbS_valid q
  simp only [List.all_cons, List.all_nil, Bool.and_true, Bool.and_eq_true] at hq
  have ha : AtV a.kind a := ⟨va, rfl⟩
  have hb : AtV a.kind b := ⟨hq.1, kb⟩
  have hc : AtV a.kind c := ⟨hq.2, kc⟩
  exact ⟨cb_assoc h1 h3 ha hb hc p q, lenW_le ha h1 h3, lenW_le hb h1 h3, lenW_le hc h1 h3⟩

set_option maxRecDepth 20000 in
set_option maxHeartbeats 8000000 in
theorem fnVectors_walk (v0 : Value) (w : World) (h0 : ArgBytes w v0) : Calls Try.prog 14 #[v0] w fun e w' => e = .returned (.bool true) ∧ Below w.heap.size w w' := by
  obtain ⟨A, n, c, rfl, CB | ⟨CB, l, hC⟩⟩ := big_cases h0
  · go_enter Try.func14, Try.ntmps14
    go_wp2_with fail
    refine (CB _).mono ?_
    rintro e u ⟨rfl, rfl⟩
    go_wp2_with fail
    go_ret
    exact ⟨rfl, Below.refl _ _⟩
  · go_enter Try.func14, Try.ntmps14
    have hO := Own.nil w
    go_wp2_with fail
    refine (CB _).mono ?_
    rintro e u ⟨rfl, rfl⟩
    go_wp2_with fail
    refine (dw_eq A n c l _ (hC.below hO.below)).mono ?_
    rintro e u ⟨v, Fa, v', Fb, rfl, ⟨⟨xka, xia, xpa, xna, xca, xla, xoa, xea, Cia, Cpa, Cna, Cca, Cla, ria, rpa, rna, rca, rla, rfl, hva, hza⟩, ⟨xkb, xib, xpb, xnb, xcb, xlb, xob, xeb, Cib, Cpb, Cnb, Ccb, Clb, rib, rpb, rnb, rcb, rlb, rfl, hvb, hzb⟩⟩, hb⟩
    replace hO := hO.call hb
    simp only [List.cons_append, List.nil_append] at hO
    clear hb CB
    have HZ := Lib.hid (And.intro hza hzb)
    clear hza hzb
    go_wp2_with (first | ((with_reducible refine zac ?_); refine zal rfl hO rfl ?_; (first | (refine nm 2 rfl ?_; clear hO; intro b2 u hO) | (refine nm 3 rfl ?_; clear hO; intro b3 u hO) | fail); simp only [zL, zK] at hO) | ((with_reducible refine zab ?_); refine zsc rfl hO rfl _ (by (first | exact at2 | exact at3 | fail)) ?_; clear hO; intro u hO; simp only [zC, zB] at hO) | fail)
    refine (laws_fresh13 A n c l _ (hC.below hO.below)).mono ?_
    rintro e u ⟨B, m, d, zs, rfl, hb, hz1, hz2, hz3⟩
    replace hO := hO.call hb
    clear hb hC
    simp only [List.cons_append, List.nil_append] at hO
    have hD : Cod u B m zs := ⟨hO.row_sl 0 rfl, by omega, hz1, hz3⟩
    clear hz1 hz2 hz3
    go_wp2_with fail
    refine (dw_fmt B m d zs _ hD).mono ?_
    clear hD
    rintro e u ⟨v, Fc, rfl, ⟨xkc, xic, xpc, xnc, xcc, xlc, xoc, xec, Cic, Cpc, Cnc, Ccc, Clc, ric, rpc, rnc, rcc, rlc, rfl, hvc, hzc⟩, hb⟩
    replace hO := hO.call hb
    clear hb
    simp only [List.cons_append, List.nil_append] at hO
    have HZC := Lib.hid hzc
    clear hzc
    go_upto_region 5 with (first | ((with_reducible refine zac ?_); refine zal rfl hO rfl ?_; (refine nm 6 rfl ?_; clear hO; intro b6 u hO); simp only [zL, zK] at hO) | ((with_reducible refine zab ?_); refine zsc rfl hO rfl _ (by exact at6) ?_; clear hO; intro u hO; simp only [zC, zB] at hO) | fail)
    replace hO := hO.pick [2, 3, 0, 4, 5, 6] (by decide)
    simp only [zN, zO, zE, zD] at hO
    replace hO := hO.merge
    replace hO := hO.merge
    have HA : HV (Fa ++ Fb ++ Fc) (.mk xka xia xpa xna xca xla xoa xea) [.int .i64 xka, .slice Cia xia.length ria, .slice Cpa xpa.length rpa, .slice Cna xna.length rna, .slice Cca xca.length rca, .slice Cla xla.length rla, .int .i64 xoa, .int .i64 xea] := ⟨Fa, hva, fun r hr => List.mem_append_left _ (List.mem_append_left _ hr)⟩
    have HB : HV (Fa ++ Fb ++ Fc) (.mk xkb xib xpb xnb xcb xlb xob xeb) [.int .i64 xkb, .slice Cib xib.length rib, .slice Cpb xpb.length rpb, .slice Cnb xnb.length rnb, .slice Ccb xcb.length rcb, .slice Clb xlb.length rlb, .int .i64 xob, .int .i64 xeb] := ⟨Fb, hvb, fun r hr => List.mem_append_left _ (List.mem_append_right _ hr)⟩
    have HC : HV (Fa ++ Fb ++ Fc) (.mk xkc xic xpc xnc xcc xlc xoc xec) [.int .i64 xkc, .slice Cic xic.length ric, .slice Cpc xpc.length rpc, .slice Cnc xnc.length rnc, .slice Ccc xcc.length rcc, .slice Clc xlc.length rlc, .int .i64 xoc, .int .i64 xec] := ⟨Fc, hvc, fun r hr => List.mem_append_right _ hr⟩
    obtain ⟨G, hG⟩ : ∃ G, Fa ++ Fb ++ Fc = G := ⟨_, rfl⟩
    rw [hG] at hO HA HB HC
    clear hG hva hvb hvc
    have CA := fun vs u (h : RdV u (.mk xka xia xpa xna xca xla xoa xea) vs) => spec_isVec (.mk xka xia xpa xna xca xla xoa xea) vs u h (Nat.le_trans HZ.out.1 (by decide))
    have CI := fun vs u (h : RdV u (.mk xka xia xpa xna xca xla xoa xea) vs) => impl_isVec (.mk xka xia xpa xna xca xla xoa xea) vs u h (Nat.le_trans HZ.out.1 (by decide))
    obtain ⟨qa, hqa⟩ : ∃ q, isV (.mk xka xia xpa xna xca xla xoa xea) = q := ⟨_, rfl⟩
    rw [hqa] at CA CI
    have HQ := Lib.hid hqa
    clear hqa
    go_wp2_with (first | ((with_reducible refine zaa ?_); refine zlb rfl hO rfl _ (by exact at1) ?_) | fail)
    refine (CA _ _ (hO.rdh 0 rfl HA)).mono ?_
    rintro e u ⟨rfl, hb⟩
    (replace hO := hO.step hb; clear hb)
    cases qa with
    | false =>
      go_wp2_with fail
      refine J.wp_region_c (n := 194) [0, 1, 2, 3, 4, 5] [] (deps := fun i => [[], [0], [], [2], [0, 1, 2, 3], [0, 1, 2, 3, 4]].getD i []) (fun _ _ _ => True) (r := 0) (lst := #[true, true, true, true, true, true]) (by kernel_rfl) (by kernel_rfl) (by kernel_rfl) rfl (by decide) (by kernel_rfl) hO ?_
      refine zcc (f := fun M u hO K hK => by (exact zah hO rfl rfl _ (by exact at1) (by rfl) (by rfl) (hK _ hO))) (h := ?_)
      refine zcc (f := fun M u hO K hK => by (simp only [wp_at_zero, wp_at_succ]; go_step; refine (CI _ _ (hO.rdh 0 rfl HA)).mono ?_; rintro e u ⟨rfl, hb⟩; exact hK _ (hO.step hb))) (h := ?_)
      refine zcc (f := fun M u hO K hK => by (exact zah hO rfl rfl _ (by exact at1) (by rfl) (by rfl) (hK _ hO))) (h := ?_)
      refine zcc (f := fun M u hO K hK => by (simp only [wp_at_zero, wp_at_succ]; go_step; refine (CA _ _ (hO.rdh 0 rfl HA)).mono ?_; rintro e u ⟨rfl, hb⟩; exact hK _ (hO.step hb))) (h := ?_)
      refine zcp (h := ?_)
      refine zcp (h := ?_)
      refine J.Chain.nil ⟨?_, ?_⟩
      · exact J.Each.nil
      intro vs u hO hF
      clear hF
      simp only [List.flatMap_cons, List.flatMap_nil, List.append_nil, zL, zK] at hO
      simp only [J.putL]
      clear vs
      refine wpAny_done (by kernel_rfl) ?_ _
      go_wp2_with (first | (with_reducible refine zao ?_) | fail)
      refine ⟨?_⟩
      go_ret
      exact ⟨rfl, hO.below⟩
    | true =>
      by_cases k1 : xka < 1
      · go_wp2_with (first | ((with_reducible refine zaa ?_); refine zlf rfl hO rfl _ (by exact at1) ?_) | fail)
        refine J.wp_region_c (n := 194) [0, 1, 2, 3, 4, 5] [] (deps := fun i => [[], [0], [], [2], [0, 1, 2, 3], [0, 1, 2, 3, 4]].getD i []) (fun _ _ _ => True) (r := 0) (lst := #[true, true, true, true, true, true]) (by kernel_rfl) (by kernel_rfl) (by kernel_rfl) rfl (by decide) (by kernel_rfl) hO ?_
        refine zcc (f := fun M u hO K hK => by (exact zah hO rfl rfl _ (by exact at1) (by rfl) (by rfl) (hK _ hO))) (h := ?_)
        refine zcc (f := fun M u hO K hK => by (simp only [wp_at_zero, wp_at_succ]; go_step; refine (CI _ _ (hO.rdh 0 rfl HA)).mono ?_; rintro e u ⟨rfl, hb⟩; exact hK _ (hO.step hb))) (h := ?_)
        refine zcc (f := fun M u hO K hK => by (exact zah hO rfl rfl _ (by exact at1) (by rfl) (by rfl) (hK _ hO))) (h := ?_)
        refine zcc (f := fun M u hO K hK => by (simp only [wp_at_zero, wp_at_succ]; go_step; refine (CA _ _ (hO.rdh 0 rfl HA)).mono ?_; rintro e u ⟨rfl, hb⟩; exact hK _ (hO.step hb))) (h := ?_)
        refine zcp (h := ?_)
        refine zcp (h := ?_)
        refine J.Chain.nil ⟨?_, ?_⟩
        · exact J.Each.nil
        intro vs u hO hF
        clear hF
        simp only [List.flatMap_cons, List.flatMap_nil, List.append_nil, zL, zK] at hO
        simp only [J.putL]
        clear vs
        refine wpAny_done (by kernel_rfl) ?_ _
        go_wp2_with (first | (with_reducible refine zao ?_) | fail)
        refine ⟨?_⟩
        go_ret
        exact ⟨rfl, hO.below⟩
      by_cases k3 : 3 < xka
      · go_wp2_with (first | ((with_reducible refine zaa ?_); refine zai rfl (by (first | rfl | (simp only [Region.wanted, yielded, *]; go_simp; done) | fail)) hO rfl _ (by exact at1) (by rfl) (by simp only [Act.put, zA, zB, zC]; rfl) ?_) | fail)
        refine J.wp_region_c (n := 194) [0, 1, 2, 3, 4, 5] [] (deps := fun i => [[], [0], [], [2], [0, 1, 2, 3], [0, 1, 2, 3, 4]].getD i []) (fun _ _ _ => True) (r := 0) (lst := #[true, true, true, true, true, true]) (by kernel_rfl) (by kernel_rfl) (by kernel_rfl) rfl (by decide) (by kernel_rfl) hO ?_
        refine zcc (f := fun M u hO K hK => by (exact zah hO rfl rfl _ (by exact at1) (by rfl) (by rfl) (hK _ hO))) (h := ?_)
        refine zcc (f := fun M u hO K hK => by (simp only [wp_at_zero, wp_at_succ]; go_step; refine (CI _ _ (hO.rdh 0 rfl HA)).mono ?_; rintro e u ⟨rfl, hb⟩; exact hK _ (hO.step hb))) (h := ?_)
        refine zcc (f := fun M u hO K hK => by (exact zah hO rfl rfl _ (by exact at1) (by rfl) (by rfl) (hK _ hO))) (h := ?_)
        refine zcc (f := fun M u hO K hK => by (simp only [wp_at_zero, wp_at_succ]; go_step; refine (CA _ _ (hO.rdh 0 rfl HA)).mono ?_; rintro e u ⟨rfl, hb⟩; exact hK _ (hO.step hb))) (h := ?_)
        refine zcp (h := ?_)
        refine zcp (h := ?_)
        refine J.Chain.nil ⟨?_, ?_⟩
        · exact J.Each.nil
        intro vs u hO hF
        clear hF
        simp only [List.flatMap_cons, List.flatMap_nil, List.append_nil, zL, zK] at hO
        simp only [J.putL]
        clear vs
        refine wpAny_done (by kernel_rfl) ?_ _
        go_wp2_with (first | (with_reducible refine zao ?_) | fail)
        refine ⟨?_⟩
        go_ret
        exact ⟨rfl, hO.below⟩
      clear CA CI
      have hvA : isV (.mk xka xia xpa xna xca xla xoa xea) = true := HQ.out
      clear HQ
      have hk1 : 1 ≤ xka := by omega
      have hk3 : xka ≤ 3 := by omega
      go_upto_if 56 with (first | ((with_reducible refine zaa ?_); refine zai rfl (by (first | rfl | (simp only [Region.wanted, yielded, *]; go_simp; done) | fail)) hO rfl _ (by (first | exact at1 | exact at2 | fail)) (by rfl) (by simp only [Act.put, zA, zB, zC]; rfl) ?_) | fail)
      rename_i K1 hK1
      have tail0 : ∀ (xib : List It) (xpb : List VT) (xnb xcb xlb : List ByteArray) (xob xeb : Int) (Cib Cpb Cnb Ccb Clb : Option Addr) (rib rpb rnb rcb rlb : Nat) (u : World) (u0 u1 u2 u6 u7 u8 u9 u10 u11 u12 u13 u14 u15 u16 u17 u18 u19 u20 u21 u22 u23 u24 u25 u26 u27 u28 u29 u30 u31 u32 u33 u34 u35 u36 u37 u38 u39 u40 u41 u42 u43 u44 u45 u46 u47 u48 u49 u50 u51 u52 u53 u54 u55 u56 u57 u58 u59 u60 u61 u62 u63 u64 u65 u66 u67 u68 u69 u70 u71 u72 u73 u74 u75 u76 u77 u78 u79 u80 u81 u82 u83 u84 u85 u86 u87 u88 u89 u90 u91 u92 u93 u94 u95 u96 u97 u98 u99 u100 u101 u102 u103 u104 u105 u106 u107 u108 u109 u110 u111 u112 u113 u114 u115 u116 u117 u118 u119 u120 u121 u122 u123 u124 u125 u126 u127 u128 u129 u130 u131 u132 u133 u134 u135 u136 u137 u138 u139 u140 u141 u142 u143 u144 u145 u146 u147 u148 u149 u150 u151 u152 u153 u154 u155 u156 u157 u158 u159 u160 u161 u162 u163 u164 u165 u166 u167 u168 u169 u170 u171 u172 u173 u174 u175 u176 u177 u178 u179 u180 u181 u182 u183 u184 u185 u186 u187 u188 u189 u190 u191 u192 u193 : Value), HV G (.mk xka xib xpb xnb xcb xlb xob xeb) [.int .i64 xka, .slice Cib xib.length rib, .slice Cpb xpb.length rpb, .slice Cnb xnb.length rnb, .slice Ccb xcb.length rcb, .slice Clb xlb.length rlb, .int .i64 xob, .int .i64 xeb] → szV (.mk xka xib xpb xnb xcb xlb xob xeb) ≤ 600000 → Own w [pack G, box b2 29 [.int .i64 xka, .slice Cia xia.length ria, .slice Cpa xpa.length rpa, .slice Cna xna.length rna, .slice Cca xca.length rca, .slice Cla xla.length rla, .int .i64 xoa, .int .i64 xea], box b3 29 [.int .i64 xka, .slice Cib xib.length rib, .slice Cpb xpb.length rpb, .slice Cnb xnb.length rnb, .slice Ccb xcb.length rcb, .slice Clb xlb.length rlb, .int .i64 xob, .int .i64 xeb], box b6 29 [.int .i64 xkc, .slice Cic xic.length ric, .slice Cpc xpc.length rpc, .slice Cnc xnc.length rnc, .slice Ccc xcc.length rcc, .slice Clc xlc.length rlc, .int .i64 xoc, .int .i64 xec]] u → K1 ⟨(u0 :: u1 :: u2 :: .pointer (some ⟨b2, 0, none⟩) :: .pointer (some ⟨b3, 0, none⟩) :: .pointer (some ⟨b6, 0, none⟩) :: u6 :: u7 :: u8 :: u9 :: u10 :: u11 :: u12 :: u13 :: u14 :: u15 :: u16 :: u17 :: u18 :: u19 :: u20 :: u21 :: u22 :: u23 :: u24 :: u25 :: u26 :: u27 :: u28 :: u29 :: u30 :: u31 :: u32 :: u33 :: u34 :: u35 :: u36 :: u37 :: u38 :: u39 :: u40 :: u41 :: u42 :: u43 :: u44 :: u45 :: u46 :: u47 :: u48 :: u49 :: u50 :: u51 :: u52 :: u53 :: u54 :: u55 :: u56 :: u57 :: u58 :: u59 :: u60 :: u61 :: u62 :: u63 :: u64 :: u65 :: u66 :: u67 :: u68 :: u69 :: u70 :: u71 :: u72 :: u73 :: u74 :: u75 :: u76 :: u77 :: u78 :: u79 :: u80 :: u81 :: u82 :: u83 :: u84 :: u85 :: u86 :: u87 :: u88 :: u89 :: u90 :: u91 :: u92 :: u93 :: u94 :: u95 :: u96 :: u97 :: u98 :: u99 :: u100 :: u101 :: u102 :: u103 :: u104 :: u105 :: u106 :: u107 :: u108 :: u109 :: u110 :: u111 :: u112 :: u113 :: u114 :: u115 :: u116 :: u117 :: u118 :: u119 :: u120 :: u121 :: u122 :: u123 :: u124 :: u125 :: u126 :: u127 :: u128 :: u129 :: u130 :: u131 :: u132 :: u133 :: u134 :: u135 :: u136 :: u137 :: u138 :: u139 :: u140 :: u141 :: u142 :: u143 :: u144 :: u145 :: u146 :: u147 :: u148 :: u149 :: u150 :: u151 :: u152 :: u153 :: u154 :: u155 :: u156 :: u157 :: u158 :: u159 :: u160 :: u161 :: u162 :: u163 :: u164 :: u165 :: u166 :: u167 :: u168 :: u169 :: u170 :: u171 :: u172 :: u173 :: u174 :: u175 :: u176 :: u177 :: u178 :: u179 :: u180 :: u181 :: u182 :: u183 :: u184 :: u185 :: u186 :: u187 :: u188 :: u189 :: u190 :: u191 :: u192 :: u193 :: []).toArray, []⟩ u := by
        clear hO HB
        intro xib xpb xnb xcb xlb xob xeb Cib Cpb Cnb Ccb Clb rib rpb rnb rcb rlb u u0 u1 u2 u6 u7 u8 u9 u10 u11 u12 u13 u14 u15 u16 u17 u18 u19 u20 u21 u22 u23 u24 u25 u26 u27 u28 u29 u30 u31 u32 u33 u34 u35 u36 u37 u38 u39 u40 u41 u42 u43 u44 u45 u46 u47 u48 u49 u50 u51 u52 u53 u54 u55 u56 u57 u58 u59 u60 u61 u62 u63 u64 u65 u66 u67 u68 u69 u70 u71 u72 u73 u74 u75 u76 u77 u78 u79 u80 u81 u82 u83 u84 u85 u86 u87 u88 u89 u90 u91 u92 u93 u94 u95 u96 u97 u98 u99 u100 u101 u102 u103 u104 u105 u106 u107 u108 u109 u110 u111 u112 u113 u114 u115 u116 u117 u118 u119 u120 u121 u122 u123 u124 u125 u126 u127 u128 u129 u130 u131 u132 u133 u134 u135 u136 u137 u138 u139 u140 u141 u142 u143 u144 u145 u146 u147 u148 u149 u150 u151 u152 u153 u154 u155 u156 u157 u158 u159 u160 u161 u162 u163 u164 u165 u166 u167 u168 u169 u170 u171 u172 u173 u174 u175 u176 u177 u178 u179 u180 u181 u182 u183 u184 u185 u186 u187 u188 u189 u190 u191 u192 u193 HB hzB hO
        refine hK1 _ _ ?_
        clear hK1
        go_upto_if 62 with (first | ((with_reducible refine zaa ?_); refine zlf rfl hO rfl _ (by (first | exact at1 | exact at3 | fail)) ?_) | fail)
        rename_i K2 hK2
        have tail1 : ∀ (xic : List It) (xpc : List VT) (xnc xcc xlc : List ByteArray) (xoc xec : Int) (Cic Cpc Cnc Ccc Clc : Option Addr) (ric rpc rnc rcc rlc : Nat) (u : World) (u0 u1 u2 u6 u7 u8 u9 u10 u11 u12 u13 u14 u15 u16 u17 u18 u19 u20 u21 u22 u23 u24 u25 u26 u27 u28 u29 u30 u31 u32 u33 u34 u35 u36 u37 u38 u39 u40 u41 u42 u43 u44 u45 u46 u47 u48 u49 u50 u51 u52 u53 u54 u55 u56 u57 u58 u59 u60 u61 u62 u63 u64 u65 u66 u67 u68 u69 u70 u71 u72 u73 u74 u75 u76 u77 u78 u79 u80 u81 u82 u83 u84 u85 u86 u87 u88 u89 u90 u91 u92 u93 u94 u95 u96 u97 u98 u99 u100 u101 u102 u103 u104 u105 u106 u107 u108 u109 u110 u111 u112 u113 u114 u115 u116 u117 u118 u119 u120 u121 u122 u123 u124 u125 u126 u127 u128 u129 u130 u131 u132 u133 u134 u135 u136 u137 u138 u139 u140 u141 u142 u143 u144 u145 u146 u147 u148 u149 u150 u151 u152 u153 u154 u155 u156 u157 u158 u159 u160 u161 u162 u163 u164 u165 u166 u167 u168 u169 u170 u171 u172 u173 u174 u175 u176 u177 u178 u179 u180 u181 u182 u183 u184 u185 u186 u187 u188 u189 u190 u191 u192 u193 : Value), HV G (.mk xka xic xpc xnc xcc xlc xoc xec) [.int .i64 xka, .slice Cic xic.length ric, .slice Cpc xpc.length rpc, .slice Cnc xnc.length rnc, .slice Ccc xcc.length rcc, .slice Clc xlc.length rlc, .int .i64 xoc, .int .i64 xec] → szV (.mk xka xic xpc xnc xcc xlc xoc xec) ≤ 22000 → Own w [pack G, box b2 29 [.int .i64 xka, .slice Cia xia.length ria, .slice Cpa xpa.length rpa, .slice Cna xna.length rna, .slice Cca xca.length rca, .slice Cla xla.length rla, .int .i64 xoa, .int .i64 xea], box b3 29 [.int .i64 xka, .slice Cib xib.length rib, .slice Cpb xpb.length rpb, .slice Cnb xnb.length rnb, .slice Ccb xcb.length rcb, .slice Clb xlb.length rlb, .int .i64 xob, .int .i64 xeb], box b6 29 [.int .i64 xka, .slice Cic xic.length ric, .slice Cpc xpc.length rpc, .slice Cnc xnc.length rnc, .slice Ccc xcc.length rcc, .slice Clc xlc.length rlc, .int .i64 xoc, .int .i64 xec]] u → K2 ⟨(u0 :: u1 :: u2 :: .pointer (some ⟨b2, 0, none⟩) :: .pointer (some ⟨b3, 0, none⟩) :: .pointer (some ⟨b6, 0, none⟩) :: u6 :: u7 :: u8 :: u9 :: u10 :: u11 :: u12 :: u13 :: u14 :: u15 :: u16 :: u17 :: u18 :: u19 :: u20 :: u21 :: u22 :: u23 :: u24 :: u25 :: u26 :: u27 :: u28 :: u29 :: u30 :: u31 :: u32 :: u33 :: u34 :: u35 :: u36 :: u37 :: u38 :: u39 :: u40 :: u41 :: u42 :: u43 :: u44 :: u45 :: u46 :: u47 :: u48 :: u49 :: u50 :: u51 :: u52 :: u53 :: u54 :: u55 :: u56 :: u57 :: u58 :: u59 :: u60 :: u61 :: u62 :: u63 :: u64 :: u65 :: u66 :: u67 :: u68 :: u69 :: u70 :: u71 :: u72 :: u73 :: u74 :: u75 :: u76 :: u77 :: u78 :: u79 :: u80 :: u81 :: u82 :: u83 :: u84 :: u85 :: u86 :: u87 :: u88 :: u89 :: u90 :: u91 :: u92 :: u93 :: u94 :: u95 :: u96 :: u97 :: u98 :: u99 :: u100 :: u101 :: u102 :: u103 :: u104 :: u105 :: u106 :: u107 :: u108 :: u109 :: u110 :: u111 :: u112 :: u113 :: u114 :: u115 :: u116 :: u117 :: u118 :: u119 :: u120 :: u121 :: u122 :: u123 :: u124 :: u125 :: u126 :: u127 :: u128 :: u129 :: u130 :: u131 :: u132 :: u133 :: u134 :: u135 :: u136 :: u137 :: u138 :: u139 :: u140 :: u141 :: u142 :: u143 :: u144 :: u145 :: u146 :: u147 :: u148 :: u149 :: u150 :: u151 :: u152 :: u153 :: u154 :: u155 :: u156 :: u157 :: u158 :: u159 :: u160 :: u161 :: u162 :: u163 :: u164 :: u165 :: u166 :: u167 :: u168 :: u169 :: u170 :: u171 :: u172 :: u173 :: u174 :: u175 :: u176 :: u177 :: u178 :: u179 :: u180 :: u181 :: u182 :: u183 :: u184 :: u185 :: u186 :: u187 :: u188 :: u189 :: u190 :: u191 :: u192 :: u193 :: []).toArray, []⟩ u := by
          clear hO HC
          intro xic xpc xnc xcc xlc xoc xec Cic Cpc Cnc Ccc Clc ric rpc rnc rcc rlc u u0 u1 u2 u6 u7 u8 u9 u10 u11 u12 u13 u14 u15 u16 u17 u18 u19 u20 u21 u22 u23 u24 u25 u26 u27 u28 u29 u30 u31 u32 u33 u34 u35 u36 u37 u38 u39 u40 u41 u42 u43 u44 u45 u46 u47 u48 u49 u50 u51 u52 u53 u54 u55 u56 u57 u58 u59 u60 u61 u62 u63 u64 u65 u66 u67 u68 u69 u70 u71 u72 u73 u74 u75 u76 u77 u78 u79 u80 u81 u82 u83 u84 u85 u86 u87 u88 u89 u90 u91 u92 u93 u94 u95 u96 u97 u98 u99 u100 u101 u102 u103 u104 u105 u106 u107 u108 u109 u110 u111 u112 u113 u114 u115 u116 u117 u118 u119 u120 u121 u122 u123 u124 u125 u126 u127 u128 u129 u130 u131 u132 u133 u134 u135 u136 u137 u138 u139 u140 u141 u142 u143 u144 u145 u146 u147 u148 u149 u150 u151 u152 u153 u154 u155 u156 u157 u158 u159 u160 u161 u162 u163 u164 u165 u166 u167 u168 u169 u170 u171 u172 u173 u174 u175 u176 u177 u178 u179 u180 u181 u182 u183 u184 u185 u186 u187 u188 u189 u190 u191 u192 u193 HC hzC hO
          refine hK2 _ _ ?_
          clear hK2
          have hzA := HZ.out.1
          have HM := Lib.hid (fun p q => vl_plain (a := (.mk xka xia xpa xna xca xla xoa xea)) (b := (.mk xka xib xpb xnb xcb xlb xob xeb)) (c := (.mk xka xic xpc xnc xcc xlc xoc xec)) hvA hk1 hk3 rfl rfl p q)
          have hX : szV (cbT [(.mk xka xia xpa xna xca xla xoa xea), (.mk xka xib xpb xnb xcb xlb xob xeb)] []) ≤ 341500 := isV_small (cb_ok _ _)
          have hY : szV (cbT [(.mk xka xib xpb xnb xcb xlb xob xeb), (.mk xka xic xpc xnc xcc xlc xoc xec)] []) ≤ 341500 := isV_small (cb_ok _ _)
          have hM : isV (cbT [(.mk xka xia xpa xna xca xla xoa xea), (.mk xka xib xpb xnb xcb xlb xob xeb), (.mk xka xic xpc xnc xcc xlc xoc xec)] []) = true := cb_ok _ _
          have hW : isV (coT xka (.mk xka xia xpa xna xca xla xoa xea)) = true := co_ok _ _
          have hzs : szV (.mk xka xia xpa xna xca xla xoa xea) + szV (.mk xka xib xpb xnb xcb xlb xob xeb) ≤ 1000000 ∧ szV (.mk xka xib xpb xnb xcb xlb xob xeb) + szV (.mk xka xic xpc xnc xcc xlc xoc xec) ≤ 1000000 ∧ szV (.mk xka xia xpa xna xca xla xoa xea) + szV (.mk xka xib xpb xnb xcb xlb xob xeb) + szV (.mk xka xic xpc xnc xcc xlc xoc xec) ≤ 1000000 := by omega
          obtain ⟨X, eX⟩ : ∃ t, cbT [(.mk xka xia xpa xna xca xla xoa xea), (.mk xka xib xpb xnb xcb xlb xob xeb)] [] = t := ⟨_, rfl⟩
          obtain ⟨Y, eY⟩ : ∃ t, cbT [(.mk xka xib xpb xnb xcb xlb xob xeb), (.mk xka xic xpc xnc xcc xlc xoc xec)] [] = t := ⟨_, rfl⟩
          obtain ⟨p, ep⟩ : ∃ t, cbS [(.mk xka xia xpa xna xca xla xoa xea), (.mk xka xib xpb xnb xcb xlb xob xeb)] [] = t := ⟨_, rfl⟩
          obtain ⟨q, eq⟩ : ∃ t, cbS [(.mk xka xib xpb xnb xcb xlb xob xeb), (.mk xka xic xpc xnc xcc xlc xoc xec)] [] = t := ⟨_, rfl⟩
          rw [eX, eY, ep, eq] at HM
          rw [eX] at hX
          rw [eY] at hY
          have hzt : szV X + szV (.mk xka xic xpc xnc xcc xlc xoc xec) ≤ 1000000 ∧ szV (.mk xka xia xpa xna xca xla xoa xea) + szV Y ≤ 1000000 := by omega
          have hz4 : szV (.mk xka xia xpa xna xca xla xoa xea) ≤ 1048576 ∧ szV (.mk xka xib xpb xnb xcb xlb xob xeb) ≤ 1048576 ∧ szV (.mk xka xic xpc xnc xcc xlc xoc xec) ≤ 1048576 := by omega
          replace hzs := Lib.hid hzs
          replace hzt := Lib.hid hzt
          replace hz4 := Lib.hid hz4
          replace eX := Lib.hid eX
          replace eY := Lib.hid eY
          replace ep := Lib.hid ep
          replace eq := Lib.hid eq
          replace hM := Lib.hid hM
          replace hW := Lib.hid hW
          clear hvA hX hY hzA hzB hzC HZ HZC hk1 hk3 k1 k3
          go_wp2_with (first | ((with_reducible refine zaa ?_); refine zlb rfl hO rfl _ (by (first | exact at1 | exact at2 | fail)) ?_) | ((with_reducible refine zag ?_); refine zae (cs := []) hO rfl (by rfl) [] (by rfl) (by rfl) rfl (zM rfl) (by rfl) rfl (fun b => by simp only [Act.put, zA, zB, zC]; rfl) ?_; clear hO; intro bb u hO; simp only [zL, zK] at hO) | ((with_reducible refine zag ?_); refine zae (cs := [.int .i64 xka, .slice Cia xia.length ria, .slice Cpa xpa.length rpa, .slice Cna xna.length rna, .slice Cca xca.length rca, .slice Cla xla.length rla, .int .i64 xoa, .int .i64 xea, .int .i64 xka, .slice Cib xib.length rib, .slice Cpb xpb.length rpb, .slice Cnb xnb.length rnb, .slice Ccb xcb.length rcb, .slice Clb xlb.length rlb, .int .i64 xob, .int .i64 xeb]) hO rfl (by rfl) [.agg #[.int .i64 xka, .slice Cia xia.length ria, .slice Cpa xpa.length rpa, .slice Cna xna.length rna, .slice Cca xca.length rca, .slice Cla xla.length rla, .int .i64 xoa, .int .i64 xea], .agg #[.int .i64 xka, .slice Cib xib.length rib, .slice Cpb xpb.length rpb, .slice Cnb xnb.length rnb, .slice Ccb xcb.length rcb, .slice Clb xlb.length rlb, .int .i64 xob, .int .i64 xeb]] (by rfl) (by rfl) rfl (zM rfl) (by rfl) rfl (fun b => by simp only [Act.put, zA, zB, zC]; rfl) ?_; clear hO; intro l1 u hO; simp only [zL, zK] at hO) | fail)
          refine (vl_two (va := [.int .i64 xka, .slice Cia xia.length ria, .slice Cpa xpa.length rpa, .slice Cna xna.length rna, .slice Cca xca.length rca, .slice Cla xla.length rla, .int .i64 xoa, .int .i64 xea]) (vb := [.int .i64 xka, .slice Cib xib.length rib, .slice Cpb xpb.length rpb, .slice Cnb xnb.length rnb, .slice Ccb xcb.length rcb, .slice Clb xlb.length rlb, .int .i64 xob, .int .i64 xeb]) eX.out ep.out (hO.rdl2 4 rfl (hO.rdh 0 rfl HA) (hO.rdh 0 rfl HB)) hzs.out.1).mono ?_
          rintro e u ⟨Q11, Q12, Q13, Q14, Q15, m11, m12, m13, m14, m15, W1, rfl, hvo1, hb⟩
          replace hO := hO.call hb
          clear hb
          simp only [List.cons_append, List.nil_append] at hO
          go_wp2_with (first | ((with_reducible refine zac ?_); refine zal rfl hO rfl ?_; (refine nm 7 rfl ?_; clear hO; intro b7 u hO); simp only [zL, zK] at hO) | ((with_reducible refine zaa ?_); refine zlb rfl hO rfl _ (by (first | exact at3 | exact at4 | fail)) ?_) | ((with_reducible refine zab ?_); refine zsc rfl hO rfl _ (by exact at7) ?_; clear hO; intro u hO; simp only [zC, zB] at hO) | ((with_reducible refine zag ?_); refine zae (cs := []) hO rfl (by rfl) [] (by rfl) (by rfl) rfl (zM rfl) (by rfl) rfl (fun b => by simp only [Act.put, zA, zB, zC]; rfl) ?_; clear hO; intro bb u hO; simp only [zL, zK] at hO) | ((with_reducible refine zag ?_); refine zae (cs := [.int .i64 xka, .slice Cib xib.length rib, .slice Cpb xpb.length rpb, .slice Cnb xnb.length rnb, .slice Ccb xcb.length rcb, .slice Clb xlb.length rlb, .int .i64 xob, .int .i64 xeb, .int .i64 xka, .slice Cic xic.length ric, .slice Cpc xpc.length rpc, .slice Cnc xnc.length rnc, .slice Ccc xcc.length rcc, .slice Clc xlc.length rlc, .int .i64 xoc, .int .i64 xec]) hO rfl (by rfl) [.agg #[.int .i64 xka, .slice Cib xib.length rib, .slice Cpb xpb.length rpb, .slice Cnb xnb.length rnb, .slice Ccb xcb.length rcb, .slice Clb xlb.length rlb, .int .i64 xob, .int .i64 xeb], .agg #[.int .i64 xka, .slice Cic xic.length ric, .slice Cpc xpc.length rpc, .slice Cnc xnc.length rnc, .slice Ccc xcc.length rcc, .slice Clc xlc.length rlc, .int .i64 xoc, .int .i64 xec]] (by rfl) (by rfl) rfl (zM rfl) (by rfl) rfl (fun b => by simp only [Act.put, zA, zB, zC]; rfl) ?_; clear hO; intro l2 u hO; simp only [zL, zK] at hO) | fail)
          refine (vl_two (va := [.int .i64 xka, .slice Cib xib.length rib, .slice Cpb xpb.length rpb, .slice Cnb xnb.length rnb, .slice Ccb xcb.length rcb, .slice Clb xlb.length rlb, .int .i64 xob, .int .i64 xeb]) (vb := [.int .i64 xka, .slice Cic xic.length ric, .slice Cpc xpc.length rpc, .slice Cnc xnc.length rnc, .slice Ccc xcc.length rcc, .slice Clc xlc.length rlc, .int .i64 xoc, .int .i64 xec]) eY.out eq.out (hO.rdl2 8 rfl (hO.rdh 1 rfl HB) (hO.rdh 1 rfl HC)) hzs.out.2.1).mono ?_
          rintro e u ⟨Q21, Q22, Q23, Q24, Q25, m21, m22, m23, m24, m25, W2, rfl, hvo2, hb⟩
          replace hO := hO.call hb
          clear hb
          simp only [List.cons_append, List.nil_append] at hO
          go_upto_region 13 with (first | ((with_reducible refine zac ?_); refine zal rfl hO rfl ?_; (refine nm 11 rfl ?_; clear hO; intro b11 u hO); simp only [zL, zK] at hO) | ((with_reducible refine zab ?_); refine zsc rfl hO rfl _ (by exact at11) ?_; clear hO; intro u hO; simp only [zC, zB] at hO) | fail)
          replace hO := hO.pick [0, 1, 2, 3, 4, 5, 8, 11] (by decide)
          simp only [zN, zO, zE, zD] at hO
          by_cases hp : p = ⟨#[]⟩
          · by_cases hq : q = ⟨#[]⟩
            · subst hp hq
              obtain ⟨⟨e1, e2, e3, e4, e5⟩, l1, l2, l3⟩ := HM.out rfl rfl
              obtain ⟨M, eM⟩ : ∃ t, cbT [(.mk xka xia xpa xna xca xla xoa xea), (.mk xka xib xpb xnb xcb xlb xob xeb), (.mk xka xic xpc xnc xcc xlc xoc xec)] [] = t := ⟨_, rfl⟩
              obtain ⟨t, et⟩ : ∃ t, cbS [(.mk xka xia xpa xna xca xla xoa xea), (.mk xka xib xpb xnb xcb xlb xob xeb), (.mk xka xic xpc xnc xcc xlc xoc xec)] [] = t := ⟨_, rfl⟩
              obtain ⟨Z, eZ⟩ : ∃ t, coT xka (.mk xka xia xpa xna xca xla xoa xea) = t := ⟨_, rfl⟩
              obtain ⟨z, ez⟩ : ∃ t, coB xka (.mk xka xia xpa xna xca xla xoa xea) = t := ⟨_, rfl⟩
              rw [eM] at e1 e2 e5 hM
              rw [et] at e3 e4 e5
              rw [eZ] at hW
              have H3 := Lib.hid (And.intro e1 (And.intro e2 (And.intro e3 e4)))
              have H5 := Lib.hid (And.intro eM et)
              have H6 := Lib.hid (And.intro eZ ez)
              have hzm := Nat.le_trans (isV_small hM.out) (show 341500 ≤ 1048576 by decide)
              obtain ⟨la, hla⟩ : ∃ n, lenW (.mk xka xia xpa xna xca xla xoa xea) = n := ⟨_, rfl⟩
              obtain ⟨lb, hlb⟩ : ∃ n, lenW (.mk xka xib xpb xnb xcb xlb xob xeb) = n := ⟨_, rfl⟩
              obtain ⟨lc, hlc⟩ : ∃ n, lenW (.mk xka xic xpc xnc xcc xlc xoc xec) = n := ⟨_, rfl⟩
              obtain ⟨lm, hlm⟩ : ∃ n, lenW M = n := ⟨_, rfl⟩
              rw [hla] at e5 l1
              rw [hlb] at e5 l2
              rw [hlc] at e5 l3
              rw [hlm] at e5
              replace e5 := Lib.hid e5
              have H7 := Lib.hid (And.intro hla (And.intro hlb (And.intro hlc (And.intro hlm hzm))))
              clear HM e1 e2 e3 e4 eM et eZ ez hla hlb hlc hlm hzm
              go_wp2_with (first | ((with_reducible refine zaa ?_); refine zlb rfl hO rfl _ (by (first | exact at5 | exact at6 | fail)) ?_) | ((with_reducible refine zag ?_); refine zae (cs := []) hO rfl (by rfl) [] (by rfl) (by rfl) rfl (zM rfl) (by rfl) rfl (fun b => by simp only [Act.put, zA, zB, zC]; rfl) ?_; clear hO; intro bb u hO; simp only [zL, zK] at hO) | ((with_reducible refine zag ?_); refine zae (cs := [.int .i64 X.kind, .slice Q11 X.items.length m11, .slice Q12 X.parts.length m12, .slice Q13 X.names.length m13, .slice Q14 X.cls.length m14, .slice Q15 X.levels.length m15, .int .i64 X.code, .int .i64 X.env, .int .i64 xka, .slice Cic xic.length ric, .slice Cpc xpc.length rpc, .slice Cnc xnc.length rnc, .slice Ccc xcc.length rcc, .slice Clc xlc.length rlc, .int .i64 xoc, .int .i64 xec]) hO rfl (by rfl) [.agg #[.int .i64 X.kind, .slice Q11 X.items.length m11, .slice Q12 X.parts.length m12, .slice Q13 X.names.length m13, .slice Q14 X.cls.length m14, .slice Q15 X.levels.length m15, .int .i64 X.code, .int .i64 X.env], .agg #[.int .i64 xka, .slice Cic xic.length ric, .slice Cpc xpc.length rpc, .slice Cnc xnc.length rnc, .slice Ccc xcc.length rcc, .slice Clc xlc.length rlc, .int .i64 xoc, .int .i64 xec]] (by rfl) (by rfl) rfl (zM rfl) (by rfl) rfl (fun b => by simp only [Act.put, zA, zB, zC]; rfl) ?_; clear hO; intro l3 u hO; simp only [zL, zK] at hO) | fail)
              refine (vl_two (va := [.int .i64 X.kind, .slice Q11 X.items.length m11, .slice Q12 X.parts.length m12, .slice Q13 X.names.length m13, .slice Q14 X.cls.length m14, .slice Q15 X.levels.length m15, .int .i64 X.code, .int .i64 X.env]) (vb := [.int .i64 xka, .slice Cic xic.length ric, .slice Cpc xpc.length rpc, .slice Cnc xnc.length rnc, .slice Ccc xcc.length rcc, .slice Clc xlc.length rlc, .int .i64 xoc, .int .i64 xec]) H3.out.1 H3.out.2.2.1 (hO.rdl2 8 rfl (hO.rdp 1 rfl hvo1) (hO.rdh 2 rfl HC)) hzt.out.1).mono ?_
              rintro e u ⟨Q31, Q32, Q33, Q34, Q35, m31, m32, m33, m34, m35, W3, rfl, hvo3, hb⟩
              replace hO := hO.call hb
              clear hb
              simp only [List.cons_append, List.nil_append] at hO
              go_wp2_with (first | ((with_reducible refine zac ?_); refine zal rfl hO rfl ?_; (refine nm 11 rfl ?_; clear hO; intro b11 u hO); simp only [zL, zK] at hO) | ((with_reducible refine zaa ?_); refine zlb rfl hO rfl _ (by (first | exact at4 | exact at8 | fail)) ?_) | ((with_reducible refine zab ?_); refine zsc rfl hO rfl _ (by exact at11) ?_; clear hO; intro u hO; simp only [zC, zB] at hO) | ((with_reducible refine zag ?_); refine zae (cs := []) hO rfl (by rfl) [] (by rfl) (by rfl) rfl (zM rfl) (by rfl) rfl (fun b => by simp only [Act.put, zA, zB, zC]; rfl) ?_; clear hO; intro bb u hO; simp only [zL, zK] at hO) | ((with_reducible refine zag ?_); refine zae (cs := [.int .i64 xka, .slice Cia xia.length ria, .slice Cpa xpa.length rpa, .slice Cna xna.length rna, .slice Cca xca.length rca, .slice Cla xla.length rla, .int .i64 xoa, .int .i64 xea, .int .i64 Y.kind, .slice Q21 Y.items.length m21, .slice Q22 Y.parts.length m22, .slice Q23 Y.names.length m23, .slice Q24 Y.cls.length m24, .slice Q25 Y.levels.length m25, .int .i64 Y.code, .int .i64 Y.env]) hO rfl (by rfl) [.agg #[.int .i64 xka, .slice Cia xia.length ria, .slice Cpa xpa.length rpa, .slice Cna xna.length rna, .slice Cca xca.length rca, .slice Cla xla.length rla, .int .i64 xoa, .int .i64 xea], .agg #[.int .i64 Y.kind, .slice Q21 Y.items.length m21, .slice Q22 Y.parts.length m22, .slice Q23 Y.names.length m23, .slice Q24 Y.cls.length m24, .slice Q25 Y.levels.length m25, .int .i64 Y.code, .int .i64 Y.env]] (by rfl) (by rfl) rfl (zM rfl) (by rfl) rfl (fun b => by simp only [Act.put, zA, zB, zC]; rfl) ?_; clear hO; intro l4 u hO; simp only [zL, zK] at hO) | fail)
              refine (vl_two (va := [.int .i64 xka, .slice Cia xia.length ria, .slice Cpa xpa.length rpa, .slice Cna xna.length rna, .slice Cca xca.length rca, .slice Cla xla.length rla, .int .i64 xoa, .int .i64 xea]) (vb := [.int .i64 Y.kind, .slice Q21 Y.items.length m21, .slice Q22 Y.parts.length m22, .slice Q23 Y.names.length m23, .slice Q24 Y.cls.length m24, .slice Q25 Y.levels.length m25, .int .i64 Y.code, .int .i64 Y.env]) H3.out.2.1 H3.out.2.2.2 (hO.rdl2 12 rfl (hO.rdh 3 rfl HA) (hO.rdp 1 rfl hvo2)) hzt.out.2).mono ?_
              rintro e u ⟨Q41, Q42, Q43, Q44, Q45, m41, m42, m43, m44, m45, W4, rfl, hvo4, hb⟩
              replace hO := hO.call hb
              clear hb
              simp only [List.cons_append, List.nil_append] at hO
              go_upto_region 19 with (first | ((with_reducible refine zac ?_); refine zal rfl hO rfl ?_; (refine nm 15 rfl ?_; clear hO; intro b15 u hO); simp only [zL, zK] at hO) | ((with_reducible refine zab ?_); refine zsc rfl hO rfl _ (by exact at15) ?_; clear hO; intro u hO; simp only [zC, zB] at hO) | fail)
              replace hO := hO.pick [0, 1, 4, 5, 6, 7, 12, 15] (by decide)
              simp only [zN, zO, zE, zD] at hO
              go_wp2_with (first | ((with_reducible refine zaa ?_); refine zlb rfl hO rfl _ (by (first | exact at3 | exact at4 | exact at5 | fail)) ?_) | ((with_reducible refine zag ?_); refine zae (cs := []) hO rfl (by rfl) [] (by rfl) (by rfl) rfl (zM rfl) (by rfl) rfl (fun b => by simp only [Act.put, zA, zB, zC]; rfl) ?_; clear hO; intro bb u hO; simp only [zL, zK] at hO) | ((with_reducible refine zag ?_); refine zae (cs := [.int .i64 xka, .slice Cia xia.length ria, .slice Cpa xpa.length rpa, .slice Cna xna.length rna, .slice Cca xca.length rca, .slice Cla xla.length rla, .int .i64 xoa, .int .i64 xea, .int .i64 xka, .slice Cib xib.length rib, .slice Cpb xpb.length rpb, .slice Cnb xnb.length rnb, .slice Ccb xcb.length rcb, .slice Clb xlb.length rlb, .int .i64 xob, .int .i64 xeb, .int .i64 xka, .slice Cic xic.length ric, .slice Cpc xpc.length rpc, .slice Cnc xnc.length rnc, .slice Ccc xcc.length rcc, .slice Clc xlc.length rlc, .int .i64 xoc, .int .i64 xec]) hO rfl (by rfl) [.agg #[.int .i64 xka, .slice Cia xia.length ria, .slice Cpa xpa.length rpa, .slice Cna xna.length rna, .slice Cca xca.length rca, .slice Cla xla.length rla, .int .i64 xoa, .int .i64 xea], .agg #[.int .i64 xka, .slice Cib xib.length rib, .slice Cpb xpb.length rpb, .slice Cnb xnb.length rnb, .slice Ccb xcb.length rcb, .slice Clb xlb.length rlb, .int .i64 xob, .int .i64 xeb], .agg #[.int .i64 xka, .slice Cic xic.length ric, .slice Cpc xpc.length rpc, .slice Cnc xnc.length rnc, .slice Ccc xcc.length rcc, .slice Clc xlc.length rlc, .int .i64 xoc, .int .i64 xec]] (by rfl) (by rfl) rfl (zM rfl) (by rfl) rfl (fun b => by simp only [Act.put, zA, zB, zC]; rfl) ?_; clear hO; intro l5 u hO; simp only [zL, zK] at hO) | fail)
              refine (vl_three (va := [.int .i64 xka, .slice Cia xia.length ria, .slice Cpa xpa.length rpa, .slice Cna xna.length rna, .slice Cca xca.length rca, .slice Cla xla.length rla, .int .i64 xoa, .int .i64 xea]) (vb := [.int .i64 xka, .slice Cib xib.length rib, .slice Cpb xpb.length rpb, .slice Cnb xnb.length rnb, .slice Ccb xcb.length rcb, .slice Clb xlb.length rlb, .int .i64 xob, .int .i64 xeb]) (vc := [.int .i64 xka, .slice Cic xic.length ric, .slice Cpc xpc.length rpc, .slice Cnc xnc.length rnc, .slice Ccc xcc.length rcc, .slice Clc xlc.length rlc, .int .i64 xoc, .int .i64 xec]) H5.out.1 H5.out.2 (hO.rdl3 8 rfl (hO.rdh 2 rfl HA) (hO.rdh 2 rfl HB) (hO.rdh 2 rfl HC)) hzs.out.2.2).mono ?_
              rintro e u ⟨Q51, Q52, Q53, Q54, Q55, m51, m52, m53, m54, m55, W5, rfl, hvo5, hb⟩
              replace hO := hO.call hb
              clear hb
              simp only [List.cons_append, List.nil_append] at hO
              go_upto_region 20 with (first | ((with_reducible refine zac ?_); refine zal rfl hO rfl ?_; (refine nm 11 rfl ?_; clear hO; intro b11 u hO); simp only [zL, zK] at hO) | ((with_reducible refine zab ?_); refine zsc rfl hO rfl _ (by exact at11) ?_; clear hO; intro u hO; simp only [zC, zB] at hO) | fail)
              replace hO := hO.pick [0, 1, 2, 3, 4, 5, 6, 7, 8, 11] (by decide)
              simp only [zN, zO, zE, zD] at hO
              clear H3 H5 hzs hzt hvo1 hvo2
              go_wp2_with (first | ((with_reducible refine zaa ?_); refine zlb rfl hO rfl _ (by exact at4) ?_) | ((with_reducible refine zaa ?_); refine zlf rfl hO rfl _ (by exact at4) ?_) | fail)
              refine (vl_co H6.out.1 H6.out.2 (hO.rdh 3 rfl HA) hz4.out.1).mono ?_
              rintro e u ⟨Q61, Q62, Q63, Q64, Q65, m61, m62, m63, m64, m65, W6, rfl, hvo6, hb⟩
              replace hO := hO.call hb
              clear hb
              simp only [List.cons_append, List.nil_append] at hO
              go_wp2_with (first | ((with_reducible refine zac ?_); refine zal rfl hO rfl ?_; (refine nm 11 rfl ?_; clear hO; intro b11 u hO); simp only [zL, zK] at hO) | ((with_reducible refine zaa ?_); refine zlb rfl hO rfl _ (by exact at5) ?_) | ((with_reducible refine zaa ?_); refine zlf rfl hO rfl _ (by exact at5) ?_) | ((with_reducible refine zab ?_); refine zsc rfl hO rfl _ (by exact at11) ?_; clear hO; intro u hO; simp only [zC, zB] at hO) | fail)
              refine (vs_co H6.out.1 H6.out.2 (hO.rdh 4 rfl HA) hz4.out.1).mono ?_
              rintro e u ⟨Q71, Q72, Q73, Q74, Q75, m71, m72, m73, m74, m75, W7, rfl, hvo7, hb⟩
              replace hO := hO.call hb
              clear hb
              simp only [List.cons_append, List.nil_append] at hO
              clear H6
              by_cases ht : t = ⟨#[]⟩
              · subst ht
                have e5 := e5.out rfl
                subst e5
                go_upto_region 22 with (first | ((with_reducible refine zac ?_); refine zal rfl hO rfl ?_; (refine nm 13 rfl ?_; clear hO; intro b13 u hO); simp only [zL, zK] at hO) | ((with_reducible refine zab ?_); refine zsc rfl hO rfl _ (by exact at13) ?_; clear hO; intro u hO; simp only [zC, zB] at hO) | fail)
                refine J.wp_region_t (n := 194) [0, 1, 2, 3, 4, 5, 6, 7, 8, 9, 10, 11, 12, 13, 14, 15, 16, 17, 18, 19, 20, 21, 22, 23, 24, 25, 26, 27, 28, 29, 30, 31, 32, 33, 34, 35, 36, 37, 38, 39, 40, 41, 42, 43, 44, 45] [] [0, 0, 3, 7, 15, 15, 63, 127, 255, 511, 511, 2047, 4095, 8191, 16383, 16383, 65535, 131071, 262143, 524287, 1048575, 2097151, 4194303, 8388607, 4194303, 33554431, 4194303, 134217727, 268435455, 4194303, 805306367, 2147483647, 4294967295, 8589934591, 17179869183, 34359738367, 68719476735, 68719476735, 274877906943, 549755813887, 1099511627775, 2199023255551, 2199023255551, 8796093022207, 17592186044415, 35184372088831] (deps := fun i => [[], [], [0, 1], [0, 1, 2], [0, 1, 2, 3], [0, 1, 2, 3], [0, 1, 2, 3, 4, 5], [0, 1, 2, 3, 4, 5, 6], [0, 1, 2, 3, 4, 5, 6, 7], [0, 1, 2, 3, 4, 5, 6, 7, 8], [0, 1, 2, 3, 4, 5, 6, 7, 8], [0, 1, 2, 3, 4, 5, 6, 7, 8, 9, 10], [0, 1, 2, 3, 4, 5, 6, 7, 8, 9, 10, 11], [0, 1, 2, 3, 4, 5, 6, 7, 8, 9, 10, 11, 12], [0, 1, 2, 3, 4, 5, 6, 7, 8, 9, 10, 11, 12, 13], [0, 1, 2, 3, 4, 5, 6, 7, 8, 9, 10, 11, 12, 13], [0, 1, 2, 3, 4, 5, 6, 7, 8, 9, 10, 11, 12, 13, 14, 15], [0, 1, 2, 3, 4, 5, 6, 7, 8, 9, 10, 11, 12, 13, 14, 15, 16], [0, 1, 2, 3, 4, 5, 6, 7, 8, 9, 10, 11, 12, 13, 14, 15, 16, 17], [0, 1, 2, 3, 4, 5, 6, 7, 8, 9, 10, 11, 12, 13, 14, 15, 16, 17, 18], [0, 1, 2, 3, 4, 5, 6, 7, 8, 9, 10, 11, 12, 13, 14, 15, 16, 17, 18, 19], [0, 1, 2, 3, 4, 5, 6, 7, 8, 9, 10, 11, 12, 13, 14, 15, 16, 17, 18, 19, 20], [0, 1, 2, 3, 4, 5, 6, 7, 8, 9, 10, 11, 12, 13, 14, 15, 16, 17, 18, 19, 20, 21], [0, 1, 2, 3, 4, 5, 6, 7, 8, 9, 10, 11, 12, 13, 14, 15, 16, 17, 18, 19, 20, 21, 22], [0, 1, 2, 3, 4, 5, 6, 7, 8, 9, 10, 11, 12, 13, 14, 15, 16, 17, 18, 19, 20, 21], [0, 1, 2, 3, 4, 5, 6, 7, 8, 9, 10, 11, 12, 13, 14, 15, 16, 17, 18, 19, 20, 21, 24], [0, 1, 2, 3, 4, 5, 6, 7, 8, 9, 10, 11, 12, 13, 14, 15, 16, 17, 18, 19, 20, 21], [0, 1, 2, 3, 4, 5, 6, 7, 8, 9, 10, 11, 12, 13, 14, 15, 16, 17, 18, 19, 20, 21, 26], [0, 1, 2, 3, 4, 5, 6, 7, 8, 9, 10, 11, 12, 13, 14, 15, 16, 17, 18, 19, 20, 21, 24, 25, 26, 27], [0, 1, 2, 3, 4, 5, 6, 7, 8, 9, 10, 11, 12, 13, 14, 15, 16, 17, 18, 19, 20, 21], [0, 1, 2, 3, 4, 5, 6, 7, 8, 9, 10, 11, 12, 13, 14, 15, 16, 17, 18, 19, 20, 21, 29], [0, 1, 2, 3, 4, 5, 6, 7, 8, 9, 10, 11, 12, 13, 14, 15, 16, 17, 18, 19, 20, 21, 24, 25, 26, 27, 28, 29, 30], [0, 1, 2, 3, 4, 5, 6, 7, 8, 9, 10, 11, 12, 13, 14, 15, 16, 17, 18, 19, 20, 21, 22, 23, 24, 25, 26, 27, 28, 29, 30, 31], [0, 1, 2, 3, 4, 5, 6, 7, 8, 9, 10, 11, 12, 13, 14, 15, 16, 17, 18, 19, 20, 21, 22, 23, 24, 25, 26, 27, 28, 29, 30, 31, 32], [0, 1, 2, 3, 4, 5, 6, 7, 8, 9, 10, 11, 12, 13, 14, 15, 16, 17, 18, 19, 20, 21, 22, 23, 24, 25, 26, 27, 28, 29, 30, 31, 32, 33], [0, 1, 2, 3, 4, 5, 6, 7, 8, 9, 10, 11, 12, 13, 14, 15, 16, 17, 18, 19, 20, 21, 22, 23, 24, 25, 26, 27, 28, 29, 30, 31, 32, 33, 34], [0, 1, 2, 3, 4, 5, 6, 7, 8, 9, 10, 11, 12, 13, 14, 15, 16, 17, 18, 19, 20, 21, 22, 23, 24, 25, 26, 27, 28, 29, 30, 31, 32, 33, 34, 35], [0, 1, 2, 3, 4, 5, 6, 7, 8, 9, 10, 11, 12, 13, 14, 15, 16, 17, 18, 19, 20, 21, 22, 23, 24, 25, 26, 27, 28, 29, 30, 31, 32, 33, 34, 35], [0, 1, 2, 3, 4, 5, 6, 7, 8, 9, 10, 11, 12, 13, 14, 15, 16, 17, 18, 19, 20, 21, 22, 23, 24, 25, 26, 27, 28, 29, 30, 31, 32, 33, 34, 35, 36, 37], [0, 1, 2, 3, 4, 5, 6, 7, 8, 9, 10, 11, 12, 13, 14, 15, 16, 17, 18, 19, 20, 21, 22, 23, 24, 25, 26, 27, 28, 29, 30, 31, 32, 33, 34, 35, 36, 37, 38], [0, 1, 2, 3, 4, 5, 6, 7, 8, 9, 10, 11, 12, 13, 14, 15, 16, 17, 18, 19, 20, 21, 22, 23, 24, 25, 26, 27, 28, 29, 30, 31, 32, 33, 34, 35, 36, 37, 38, 39], [0, 1, 2, 3, 4, 5, 6, 7, 8, 9, 10, 11, 12, 13, 14, 15, 16, 17, 18, 19, 20, 21, 22, 23, 24, 25, 26, 27, 28, 29, 30, 31, 32, 33, 34, 35, 36, 37, 38, 39, 40], [0, 1, 2, 3, 4, 5, 6, 7, 8, 9, 10, 11, 12, 13, 14, 15, 16, 17, 18, 19, 20, 21, 22, 23, 24, 25, 26, 27, 28, 29, 30, 31, 32, 33, 34, 35, 36, 37, 38, 39, 40], [0, 1, 2, 3, 4, 5, 6, 7, 8, 9, 10, 11, 12, 13, 14, 15, 16, 17, 18, 19, 20, 21, 22, 23, 24, 25, 26, 27, 28, 29, 30, 31, 32, 33, 34, 35, 36, 37, 38, 39, 40, 41, 42], [0, 1, 2, 3, 4, 5, 6, 7, 8, 9, 10, 11, 12, 13, 14, 15, 16, 17, 18, 19, 20, 21, 22, 23, 24, 25, 26, 27, 28, 29, 30, 31, 32, 33, 34, 35, 36, 37, 38, 39, 40, 41, 42, 43], [0, 1, 2, 3, 4, 5, 6, 7, 8, 9, 10, 11, 12, 13, 14, 15, 16, 17, 18, 19, 20, 21, 22, 23, 24, 25, 26, 27, 28, 29, 30, 31, 32, 33, 34, 35, 36, 37, 38, 39, 40, 41, 42, 43, 44]].getD i []) (fun _ _ _ => True) (r := 0) (lst := #[true, true, true, true, true, true, true, true, true, true, true, true, true, true, true, true, true, true, true, true, true, true, true, true, true, true, true, true, true, true, true, true, true, true, true, true, true, true, true, true, true, true, true, true, true, true]) (by kernel_rfl) (by kernel_rfl) (by kernel_rfl) rfl (by decide) (by kernel_rfl) hO ?_
                refine zcp (h := ?_)
                refine zcp (h := ?_)
                refine zcp (h := ?_)
                refine zcp (h := ?_)
                refine zcp (h := ?_)
                refine zcp (h := ?_)
                refine zcp (h := ?_)
                refine zcp (h := ?_)
                refine zcp (h := ?_)
                refine zcc (f := fun M u hO K hK => by (exact zah hO rfl rfl _ (by exact at9) (by rfl) (by rfl) (hK _ hO))) (h := ?_)
                refine zcc (f := fun M u hO K hK => by (exact zah hO rfl rfl _ (by exact at10) (by rfl) (by rfl) (hK _ hO))) (h := ?_)
                refine zcc (f := fun M u hO K hK => by (simp only [wp_at_zero, wp_at_succ]; go_step; refine (vl_eq hM.out (hO.rdp 4 rfl hvo3) (hO.rdp 3 rfl hvo4)).mono ?_; rintro e u ⟨rfl, hb⟩; exact hK _ (hO.step hb))) (h := ?_)
                refine zcp (h := ?_)
                refine zcp (h := ?_)
                refine zcc (f := fun M u hO K hK => by (exact zah hO rfl rfl _ (by exact at10) (by rfl) (by rfl) (hK _ hO))) (h := ?_)
                refine zcc (f := fun M u hO K hK => by (exact zah hO rfl rfl _ (by exact at11) (by rfl) (by rfl) (hK _ hO))) (h := ?_)
                refine zcc (f := fun M u hO K hK => by (simp only [wp_at_zero, wp_at_succ]; go_step; refine (vl_eq hM.out (hO.rdp 3 rfl hvo4) (hO.rdp 2 rfl hvo5)).mono ?_; rintro e u ⟨rfl, hb⟩; exact hK _ (hO.step hb))) (h := ?_)
                refine zcp (h := ?_)
                refine zcp (h := ?_)
                refine zcp (h := ?_)
                refine zcp (h := ?_)
                refine zcp (h := ?_)
                refine zcc (f := fun M u hO K hK => by (exact zah hO rfl rfl _ (by exact at11) (by rfl) (by rfl) (hK _ hO))) (h := ?_)
                refine zcc (f := fun M u hO K hK => by (simp only [wp_at_zero, wp_at_succ]; go_step; refine (vl_len H7.out.2.2.2.1 (hO.rdp 2 rfl hvo5) H7.out.2.2.2.2).mono ?_; rintro e u ⟨rfl, hb⟩; exact hK _ (hO.step hb))) (h := ?_)
                refine zcc (f := fun M u hO K hK => by (exact zah hO rfl rfl _ (by exact at6) (by rfl) (by rfl) (hK _ hO))) (h := ?_)
                refine zcc (f := fun M u hO K hK => by (simp only [wp_at_zero, wp_at_succ]; go_step; refine (vl_len H7.out.1 (hO.rdh 5 rfl HA) hz4.out.1).mono ?_; rintro e u ⟨rfl, hb⟩; exact hK _ (hO.step hb))) (h := ?_)
                refine zcc (f := fun M u hO K hK => by (exact zah hO rfl rfl _ (by exact at7) (by rfl) (by rfl) (hK _ hO))) (h := ?_)
                refine zcc (f := fun M u hO K hK => by (simp only [wp_at_zero, wp_at_succ]; go_step; refine (vl_len H7.out.2.1 (hO.rdh 5 rfl HB) hz4.out.2.1).mono ?_; rintro e u ⟨rfl, hb⟩; exact hK _ (hO.step hb))) (h := ?_)
                refine zcp (h := ?_)
                refine zcc (f := fun M u hO K hK => by (exact zah hO rfl rfl _ (by exact at8) (by rfl) (by rfl) (hK _ hO))) (h := ?_)
                refine zcc (f := fun M u hO K hK => by (simp only [wp_at_zero, wp_at_succ]; go_step; refine (vl_len H7.out.2.2.1 (hO.rdh 5 rfl HC) hz4.out.2.2).mono ?_; rintro e u ⟨rfl, hb⟩; exact hK _ (hO.step hb))) (h := ?_)
                refine zcp (h := ?_)
                refine zcp (h := ?_)
                refine zcp (h := ?_)
                refine zcp (h := ?_)
                refine zcp (h := ?_)
                refine zcp (h := ?_)
                refine zcp (h := ?_)
                refine zcp (h := ?_)
                refine zcp (h := ?_)
                refine zcp (h := ?_)
                refine zcc (f := fun M u hO K hK => by (exact zah hO rfl rfl _ (by exact at12) (by rfl) (by rfl) (hK _ hO))) (h := ?_)
                refine zcc (f := fun M u hO K hK => by (exact zah hO rfl rfl _ (by exact at13) (by rfl) (by rfl) (hK _ hO))) (h := ?_)
                refine zcc (f := fun M u hO K hK => by (simp only [wp_at_zero, wp_at_succ]; go_step; refine (vl_eq hW.out (hO.rdp 1 rfl hvo6) (hO.rdp 0 rfl hvo7)).mono ?_; rintro e u ⟨rfl, hb⟩; exact hK _ (hO.step hb))) (h := ?_)
                refine zcp (h := ?_)
                refine zcp (h := ?_)
                refine J.Chain.nil ⟨?_, ?_⟩
                · exact J.Each.nil
                intro vs u hO hF
                clear hF
                simp only [List.flatMap_cons, List.flatMap_nil, List.append_nil, zL, zK] at hO
                simp only [J.putL]
                clear vs
                refine wpAny_done (by kernel_rfl) ?_ _
                go_wp2_with (first | (with_reducible refine zao ?_) | fail)
                refine ⟨?_⟩
                go_ret
                exact ⟨rfl, hO.below⟩
              · obtain ⟨f1, f2, f3⟩ := str_testV ht
                clear e5
                go_upto_region 22 with (first | ((with_reducible refine zac ?_); refine zal rfl hO rfl ?_; (refine nm 13 rfl ?_; clear hO; intro b13 u hO); simp only [zL, zK] at hO) | ((with_reducible refine zab ?_); refine zsc rfl hO rfl _ (by exact at13) ?_; clear hO; intro u hO; simp only [zC, zB] at hO) | fail)
                refine J.wp_region_t (n := 194) [0, 1, 2, 3, 4, 5, 6, 7, 8, 9, 10, 11, 12, 13, 14, 15, 16, 17, 18, 19, 20, 21, 22, 23, 24, 25, 26, 27, 28, 29, 30, 31, 32, 33, 34, 35, 36, 37, 38, 39, 40, 41, 42, 43, 44, 45] [] [0, 0, 3, 7, 15, 15, 63, 127, 255, 511, 511, 2047, 4095, 8191, 16383, 16383, 65535, 131071, 262143, 524287, 1048575, 2097151, 4194303, 8388607, 4194303, 33554431, 4194303, 134217727, 268435455, 4194303, 805306367, 2147483647, 4294967295, 8589934591, 17179869183, 34359738367, 68719476735, 68719476735, 274877906943, 549755813887, 1099511627775, 2199023255551, 2199023255551, 8796093022207, 17592186044415, 35184372088831] (deps := fun i => [[], [], [0, 1], [0, 1, 2], [0, 1, 2, 3], [0, 1, 2, 3], [0, 1, 2, 3, 4, 5], [0, 1, 2, 3, 4, 5, 6], [0, 1, 2, 3, 4, 5, 6, 7], [0, 1, 2, 3, 4, 5, 6, 7, 8], [0, 1, 2, 3, 4, 5, 6, 7, 8], [0, 1, 2, 3, 4, 5, 6, 7, 8, 9, 10], [0, 1, 2, 3, 4, 5, 6, 7, 8, 9, 10, 11], [0, 1, 2, 3, 4, 5, 6, 7, 8, 9, 10, 11, 12], [0, 1, 2, 3, 4, 5, 6, 7, 8, 9, 10, 11, 12, 13], [0, 1, 2, 3, 4, 5, 6, 7, 8, 9, 10, 11, 12, 13], [0, 1, 2, 3, 4, 5, 6, 7, 8, 9, 10, 11, 12, 13, 14, 15], [0, 1, 2, 3, 4, 5, 6, 7, 8, 9, 10, 11, 12, 13, 14, 15, 16], [0, 1, 2, 3, 4, 5, 6, 7, 8, 9, 10, 11, 12, 13, 14, 15, 16, 17], [0, 1, 2, 3, 4, 5, 6, 7, 8, 9, 10, 11, 12, 13, 14, 15, 16, 17, 18], [0, 1, 2, 3, 4, 5, 6, 7, 8, 9, 10, 11, 12, 13, 14, 15, 16, 17, 18, 19], [0, 1, 2, 3, 4, 5, 6, 7, 8, 9, 10, 11, 12, 13, 14, 15, 16, 17, 18, 19, 20], [0, 1, 2, 3, 4, 5, 6, 7, 8, 9, 10, 11, 12, 13, 14, 15, 16, 17, 18, 19, 20, 21], [0, 1, 2, 3, 4, 5, 6, 7, 8, 9, 10, 11, 12, 13, 14, 15, 16, 17, 18, 19, 20, 21, 22], [0, 1, 2, 3, 4, 5, 6, 7, 8, 9, 10, 11, 12, 13, 14, 15, 16, 17, 18, 19, 20, 21], [0, 1, 2, 3, 4, 5, 6, 7, 8, 9, 10, 11, 12, 13, 14, 15, 16, 17, 18, 19, 20, 21, 24], [0, 1, 2, 3, 4, 5, 6, 7, 8, 9, 10, 11, 12, 13, 14, 15, 16, 17, 18, 19, 20, 21], [0, 1, 2, 3, 4, 5, 6, 7, 8, 9, 10, 11, 12, 13, 14, 15, 16, 17, 18, 19, 20, 21, 26], [0, 1, 2, 3, 4, 5, 6, 7, 8, 9, 10, 11, 12, 13, 14, 15, 16, 17, 18, 19, 20, 21, 24, 25, 26, 27], [0, 1, 2, 3, 4, 5, 6, 7, 8, 9, 10, 11, 12, 13, 14, 15, 16, 17, 18, 19, 20, 21], [0, 1, 2, 3, 4, 5, 6, 7, 8, 9, 10, 11, 12, 13, 14, 15, 16, 17, 18, 19, 20, 21, 29], [0, 1, 2, 3, 4, 5, 6, 7, 8, 9, 10, 11, 12, 13, 14, 15, 16, 17, 18, 19, 20, 21, 24, 25, 26, 27, 28, 29, 30], [0, 1, 2, 3, 4, 5, 6, 7, 8, 9, 10, 11, 12, 13, 14, 15, 16, 17, 18, 19, 20, 21, 22, 23, 24, 25, 26, 27, 28, 29, 30, 31], [0, 1, 2, 3, 4, 5, 6, 7, 8, 9, 10, 11, 12, 13, 14, 15, 16, 17, 18, 19, 20, 21, 22, 23, 24, 25, 26, 27, 28, 29, 30, 31, 32], [0, 1, 2, 3, 4, 5, 6, 7, 8, 9, 10, 11, 12, 13, 14, 15, 16, 17, 18, 19, 20, 21, 22, 23, 24, 25, 26, 27, 28, 29, 30, 31, 32, 33], [0, 1, 2, 3, 4, 5, 6, 7, 8, 9, 10, 11, 12, 13, 14, 15, 16, 17, 18, 19, 20, 21, 22, 23, 24, 25, 26, 27, 28, 29, 30, 31, 32, 33, 34], [0, 1, 2, 3, 4, 5, 6, 7, 8, 9, 10, 11, 12, 13, 14, 15, 16, 17, 18, 19, 20, 21, 22, 23, 24, 25, 26, 27, 28, 29, 30, 31, 32, 33, 34, 35], [0, 1, 2, 3, 4, 5, 6, 7, 8, 9, 10, 11, 12, 13, 14, 15, 16, 17, 18, 19, 20, 21, 22, 23, 24, 25, 26, 27, 28, 29, 30, 31, 32, 33, 34, 35], [0, 1, 2, 3, 4, 5, 6, 7, 8, 9, 10, 11, 12, 13, 14, 15, 16, 17, 18, 19, 20, 21, 22, 23, 24, 25, 26, 27, 28, 29, 30, 31, 32, 33, 34, 35, 36, 37], [0, 1, 2, 3, 4, 5, 6, 7, 8, 9, 10, 11, 12, 13, 14, 15, 16, 17, 18, 19, 20, 21, 22, 23, 24, 25, 26, 27, 28, 29, 30, 31, 32, 33, 34, 35, 36, 37, 38], [0, 1, 2, 3, 4, 5, 6, 7, 8, 9, 10, 11, 12, 13, 14, 15, 16, 17, 18, 19, 20, 21, 22, 23, 24, 25, 26, 27, 28, 29, 30, 31, 32, 33, 34, 35, 36, 37, 38, 39], [0, 1, 2, 3, 4, 5, 6, 7, 8, 9, 10, 11, 12, 13, 14, 15, 16, 17, 18, 19, 20, 21, 22, 23, 24, 25, 26, 27, 28, 29, 30, 31, 32, 33, 34, 35, 36, 37, 38, 39, 40], [0, 1, 2, 3, 4, 5, 6, 7, 8, 9, 10, 11, 12, 13, 14, 15, 16, 17, 18, 19, 20, 21, 22, 23, 24, 25, 26, 27, 28, 29, 30, 31, 32, 33, 34, 35, 36, 37, 38, 39, 40], [0, 1, 2, 3, 4, 5, 6, 7, 8, 9, 10, 11, 12, 13, 14, 15, 16, 17, 18, 19, 20, 21, 22, 23, 24, 25, 26, 27, 28, 29, 30, 31, 32, 33, 34, 35, 36, 37, 38, 39, 40, 41, 42], [0, 1, 2, 3, 4, 5, 6, 7, 8, 9, 10, 11, 12, 13, 14, 15, 16, 17, 18, 19, 20, 21, 22, 23, 24, 25, 26, 27, 28, 29, 30, 31, 32, 33, 34, 35, 36, 37, 38, 39, 40, 41, 42, 43], [0, 1, 2, 3, 4, 5, 6, 7, 8, 9, 10, 11, 12, 13, 14, 15, 16, 17, 18, 19, 20, 21, 22, 23, 24, 25, 26, 27, 28, 29, 30, 31, 32, 33, 34, 35, 36, 37, 38, 39, 40, 41, 42, 43, 44]].getD i []) (fun _ _ _ => True) (r := 0) (lst := #[true, true, true, true, true, true, true, true, true, true, true, true, true, true, true, true, true, true, true, true, true, true, true, true, true, true, true, true, true, true, true, true, true, true, true, true, true, true, true, true, true, true, true, true, true, true]) (by kernel_rfl) (by kernel_rfl) (by kernel_rfl) rfl (by decide) (by kernel_rfl) hO ?_
                refine zcp (h := ?_)
                refine zcp (h := ?_)
                refine zcp (h := ?_)
                refine zcp (h := ?_)
                refine zcp (h := ?_)
                refine zcp (h := ?_)
                refine zcp (h := ?_)
                refine zcp (h := ?_)
                refine zcp (h := ?_)
                refine zcc (f := fun M u hO K hK => by (exact zah hO rfl rfl _ (by exact at9) (by rfl) (by rfl) (hK _ hO))) (h := ?_)
                refine zcc (f := fun M u hO K hK => by (exact zah hO rfl rfl _ (by exact at10) (by rfl) (by rfl) (hK _ hO))) (h := ?_)
                refine zcc (f := fun M u hO K hK => by (simp only [wp_at_zero, wp_at_succ]; go_step; refine (vl_eq hM.out (hO.rdp 4 rfl hvo3) (hO.rdp 3 rfl hvo4)).mono ?_; rintro e u ⟨rfl, hb⟩; exact hK _ (hO.step hb))) (h := ?_)
                refine zcp (h := ?_)
                refine zcp (h := ?_)
                refine zcc (f := fun M u hO K hK => by (exact zah hO rfl rfl _ (by exact at10) (by rfl) (by rfl) (hK _ hO))) (h := ?_)
                refine zcc (f := fun M u hO K hK => by (exact zah hO rfl rfl _ (by exact at11) (by rfl) (by rfl) (hK _ hO))) (h := ?_)
                refine zcc (f := fun M u hO K hK => by (simp only [wp_at_zero, wp_at_succ]; go_step; refine (vl_eq hM.out (hO.rdp 3 rfl hvo4) (hO.rdp 2 rfl hvo5)).mono ?_; rintro e u ⟨rfl, hb⟩; exact hK _ (hO.step hb))) (h := ?_)
                refine zcp (h := ?_)
                refine zcp (h := ?_)
                refine zcp (h := ?_)
                refine zcp (h := ?_)
                refine zcp (h := ?_)
                refine zck (h := ?_)
                refine zck (h := ?_)
                refine zck (h := ?_)
                refine zck (h := ?_)
                refine zck (h := ?_)
                refine zck (h := ?_)
                refine zck (h := ?_)
                refine zck (h := ?_)
                refine zck (h := ?_)
                refine zck (h := ?_)
                refine zck (h := ?_)
                refine zcp (h := ?_)
                refine zcp (h := ?_)
                refine zcp (h := ?_)
                refine zcp (h := ?_)
                refine zcp (h := ?_)
                refine zcp (h := ?_)
                refine zcp (h := ?_)
                refine zcp (h := ?_)
                refine zcc (f := fun M u hO K hK => by (exact zah hO rfl rfl _ (by exact at12) (by rfl) (by rfl) (hK _ hO))) (h := ?_)
                refine zcc (f := fun M u hO K hK => by (exact zah hO rfl rfl _ (by exact at13) (by rfl) (by rfl) (hK _ hO))) (h := ?_)
                refine zcc (f := fun M u hO K hK => by (simp only [wp_at_zero, wp_at_succ]; go_step; refine (vl_eq hW.out (hO.rdp 1 rfl hvo6) (hO.rdp 0 rfl hvo7)).mono ?_; rintro e u ⟨rfl, hb⟩; exact hK _ (hO.step hb))) (h := ?_)
                refine zcp (h := ?_)
                refine zcp (h := ?_)
                refine J.Chain.nil ⟨?_, ?_⟩
                · exact J.Each.nil
                intro vs u hO hF
                clear hF
                simp only [List.flatMap_cons, List.flatMap_nil, List.append_nil, zL, zK] at hO
                simp only [J.putL]
                clear vs
                refine wpAny_done (by kernel_rfl) ?_ _
                go_wp2_with (first | (with_reducible refine zao ?_) | fail)
                refine ⟨?_⟩
                go_ret
                exact ⟨rfl, hO.below⟩
            · obtain ⟨f1, f2, f3⟩ := str_testV hq
              subst hp
              clear HM hzt
              go_wp2_with (first | ((with_reducible refine zaa ?_); refine zlb rfl hO rfl _ (by (first | exact at3 | exact at4 | fail)) ?_) | ((with_reducible refine zag ?_); refine zae (cs := []) hO rfl (by rfl) [] (by rfl) (by rfl) rfl (zM rfl) (by rfl) rfl (fun b => by simp only [Act.put, zA, zB, zC]; rfl) ?_; clear hO; intro bb u hO; simp only [zL, zK] at hO) | ((with_reducible refine zag ?_); refine zae (cs := [.int .i64 xka, .slice Cia xia.length ria, .slice Cpa xpa.length rpa, .slice Cna xna.length rna, .slice Cca xca.length rca, .slice Cla xla.length rla, .int .i64 xoa, .int .i64 xea, .int .i64 xka, .slice Cib xib.length rib, .slice Cpb xpb.length rpb, .slice Cnb xnb.length rnb, .slice Ccb xcb.length rcb, .slice Clb xlb.length rlb, .int .i64 xob, .int .i64 xeb]) hO rfl (by rfl) [.agg #[.int .i64 xka, .slice Cia xia.length ria, .slice Cpa xpa.length rpa, .slice Cna xna.length rna, .slice Cca xca.length rca, .slice Cla xla.length rla, .int .i64 xoa, .int .i64 xea], .agg #[.int .i64 xka, .slice Cib xib.length rib, .slice Cpb xpb.length rpb, .slice Cnb xnb.length rnb, .slice Ccb xcb.length rcb, .slice Clb xlb.length rlb, .int .i64 xob, .int .i64 xeb]] (by rfl) (by rfl) rfl (zM rfl) (by rfl) rfl (fun b => by simp only [Act.put, zA, zB, zC]; rfl) ?_; clear hO; intro l3 u hO; simp only [zL, zK] at hO) | fail)
              refine (vs_two (va := [.int .i64 xka, .slice Cia xia.length ria, .slice Cpa xpa.length rpa, .slice Cna xna.length rna, .slice Cca xca.length rca, .slice Cla xla.length rla, .int .i64 xoa, .int .i64 xea]) (vb := [.int .i64 xka, .slice Cib xib.length rib, .slice Cpb xpb.length rpb, .slice Cnb xnb.length rnb, .slice Ccb xcb.length rcb, .slice Clb xlb.length rlb, .int .i64 xob, .int .i64 xeb]) eX.out ep.out (hO.rdl2 8 rfl (hO.rdh 2 rfl HA) (hO.rdh 2 rfl HB)) hzs.out.1).mono ?_
              rintro e u ⟨Q31, Q32, Q33, Q34, Q35, m31, m32, m33, m34, m35, W3, rfl, hvo3, hb⟩
              replace hO := hO.call hb
              clear hb
              simp only [List.cons_append, List.nil_append] at hO
              go_wp2_with (first | ((with_reducible refine zac ?_); refine zal rfl hO rfl ?_; (refine nm 11 rfl ?_; clear hO; intro b11 u hO); simp only [zL, zK] at hO) | ((with_reducible refine zaa ?_); refine zlb rfl hO rfl _ (by (first | exact at5 | exact at6 | fail)) ?_) | ((with_reducible refine zab ?_); refine zsc rfl hO rfl _ (by exact at11) ?_; clear hO; intro u hO; simp only [zC, zB] at hO) | ((with_reducible refine zag ?_); refine zae (cs := []) hO rfl (by rfl) [] (by rfl) (by rfl) rfl (zM rfl) (by rfl) rfl (fun b => by simp only [Act.put, zA, zB, zC]; rfl) ?_; clear hO; intro bb u hO; simp only [zL, zK] at hO) | ((with_reducible refine zag ?_); refine zae (cs := [.int .i64 xka, .slice Cib xib.length rib, .slice Cpb xpb.length rpb, .slice Cnb xnb.length rnb, .slice Ccb xcb.length rcb, .slice Clb xlb.length rlb, .int .i64 xob, .int .i64 xeb, .int .i64 xka, .slice Cic xic.length ric, .slice Cpc xpc.length rpc, .slice Cnc xnc.length rnc, .slice Ccc xcc.length rcc, .slice Clc xlc.length rlc, .int .i64 xoc, .int .i64 xec]) hO rfl (by rfl) [.agg #[.int .i64 xka, .slice Cib xib.length rib, .slice Cpb xpb.length rpb, .slice Cnb xnb.length rnb, .slice Ccb xcb.length rcb, .slice Clb xlb.length rlb, .int .i64 xob, .int .i64 xeb], .agg #[.int .i64 xka, .slice Cic xic.length ric, .slice Cpc xpc.length rpc, .slice Cnc xnc.length rnc, .slice Ccc xcc.length rcc, .slice Clc xlc.length rlc, .int .i64 xoc, .int .i64 xec]] (by rfl) (by rfl) rfl (zM rfl) (by rfl) rfl (fun b => by simp only [Act.put, zA, zB, zC]; rfl) ?_; clear hO; intro l4 u hO; simp only [zL, zK] at hO) | fail)
              refine (vs_two (va := [.int .i64 xka, .slice Cib xib.length rib, .slice Cpb xpb.length rpb, .slice Cnb xnb.length rnb, .slice Ccb xcb.length rcb, .slice Clb xlb.length rlb, .int .i64 xob, .int .i64 xeb]) (vb := [.int .i64 xka, .slice Cic xic.length ric, .slice Cpc xpc.length rpc, .slice Cnc xnc.length rnc, .slice Ccc xcc.length rcc, .slice Clc xlc.length rlc, .int .i64 xoc, .int .i64 xec]) eY.out eq.out (hO.rdl2 12 rfl (hO.rdh 3 rfl HB) (hO.rdh 3 rfl HC)) hzs.out.2.1).mono ?_
              rintro e u ⟨Q41, Q42, Q43, Q44, Q45, m41, m42, m43, m44, m45, W4, rfl, hvo4, hb⟩
              replace hO := hO.call hb
              clear hb
              simp only [List.cons_append, List.nil_append] at hO
              go_wp2_with (first | (with_reducible refine zao ?_) | ((with_reducible refine zac ?_); refine zal rfl hO rfl ?_; (refine nm 15 rfl ?_; clear hO; intro b15 u hO); simp only [zL, zK] at hO) | ((with_reducible refine zab ?_); refine zsc rfl hO rfl _ (by exact at15) ?_; clear hO; intro u hO; simp only [zC, zB] at hO) | fail)
              refine ⟨?_⟩
              go_ret
              exact ⟨rfl, hO.below⟩
          · obtain ⟨f1, f2, f3⟩ := str_testV hp
            clear HM hzt
            go_wp2_with (first | ((with_reducible refine zaa ?_); refine zlb rfl hO rfl _ (by (first | exact at3 | exact at4 | fail)) ?_) | ((with_reducible refine zag ?_); refine zae (cs := []) hO rfl (by rfl) [] (by rfl) (by rfl) rfl (zM rfl) (by rfl) rfl (fun b => by simp only [Act.put, zA, zB, zC]; rfl) ?_; clear hO; intro bb u hO; simp only [zL, zK] at hO) | ((with_reducible refine zag ?_); refine zae (cs := [.int .i64 xka, .slice Cia xia.length ria, .slice Cpa xpa.length rpa, .slice Cna xna.length rna, .slice Cca xca.length rca, .slice Cla xla.length rla, .int .i64 xoa, .int .i64 xea, .int .i64 xka, .slice Cib xib.length rib, .slice Cpb xpb.length rpb, .slice Cnb xnb.length rnb, .slice Ccb xcb.length rcb, .slice Clb xlb.length rlb, .int .i64 xob, .int .i64 xeb]) hO rfl (by rfl) [.agg #[.int .i64 xka, .slice Cia xia.length ria, .slice Cpa xpa.length rpa, .slice Cna xna.length rna, .slice Cca xca.length rca, .slice Cla xla.length rla, .int .i64 xoa, .int .i64 xea], .agg #[.int .i64 xka, .slice Cib xib.length rib, .slice Cpb xpb.length rpb, .slice Cnb xnb.length rnb, .slice Ccb xcb.length rcb, .slice Clb xlb.length rlb, .int .i64 xob, .int .i64 xeb]] (by rfl) (by rfl) rfl (zM rfl) (by rfl) rfl (fun b => by simp only [Act.put, zA, zB, zC]; rfl) ?_; clear hO; intro l3 u hO; simp only [zL, zK] at hO) | fail)
            refine (vs_two (va := [.int .i64 xka, .slice Cia xia.length ria, .slice Cpa xpa.length rpa, .slice Cna xna.length rna, .slice Cca xca.length rca, .slice Cla xla.length rla, .int .i64 xoa, .int .i64 xea]) (vb := [.int .i64 xka, .slice Cib xib.length rib, .slice Cpb xpb.length rpb, .slice Cnb xnb.length rnb, .slice Ccb xcb.length rcb, .slice Clb xlb.length rlb, .int .i64 xob, .int .i64 xeb]) eX.out ep.out (hO.rdl2 8 rfl (hO.rdh 2 rfl HA) (hO.rdh 2 rfl HB)) hzs.out.1).mono ?_
            rintro e u ⟨Q31, Q32, Q33, Q34, Q35, m31, m32, m33, m34, m35, W3, rfl, hvo3, hb⟩
            replace hO := hO.call hb
            clear hb
            simp only [List.cons_append, List.nil_append] at hO
            go_wp2_with (first | ((with_reducible refine zac ?_); refine zal rfl hO rfl ?_; (refine nm 11 rfl ?_; clear hO; intro b11 u hO); simp only [zL, zK] at hO) | ((with_reducible refine zaa ?_); refine zlb rfl hO rfl _ (by (first | exact at5 | exact at6 | fail)) ?_) | ((with_reducible refine zab ?_); refine zsc rfl hO rfl _ (by exact at11) ?_; clear hO; intro u hO; simp only [zC, zB] at hO) | ((with_reducible refine zag ?_); refine zae (cs := []) hO rfl (by rfl) [] (by rfl) (by rfl) rfl (zM rfl) (by rfl) rfl (fun b => by simp only [Act.put, zA, zB, zC]; rfl) ?_; clear hO; intro bb u hO; simp only [zL, zK] at hO) | ((with_reducible refine zag ?_); refine zae (cs := [.int .i64 xka, .slice Cib xib.length rib, .slice Cpb xpb.length rpb, .slice Cnb xnb.length rnb, .slice Ccb xcb.length rcb, .slice Clb xlb.length rlb, .int .i64 xob, .int .i64 xeb, .int .i64 xka, .slice Cic xic.length ric, .slice Cpc xpc.length rpc, .slice Cnc xnc.length rnc, .slice Ccc xcc.length rcc, .slice Clc xlc.length rlc, .int .i64 xoc, .int .i64 xec]) hO rfl (by rfl) [.agg #[.int .i64 xka, .slice Cib xib.length rib, .slice Cpb xpb.length rpb, .slice Cnb xnb.length rnb, .slice Ccb xcb.length rcb, .slice Clb xlb.length rlb, .int .i64 xob, .int .i64 xeb], .agg #[.int .i64 xka, .slice Cic xic.length ric, .slice Cpc xpc.length rpc, .slice Cnc xnc.length rnc, .slice Ccc xcc.length rcc, .slice Clc xlc.length rlc, .int .i64 xoc, .int .i64 xec]] (by rfl) (by rfl) rfl (zM rfl) (by rfl) rfl (fun b => by simp only [Act.put, zA, zB, zC]; rfl) ?_; clear hO; intro l4 u hO; simp only [zL, zK] at hO) | fail)
            refine (vs_two (va := [.int .i64 xka, .slice Cib xib.length rib, .slice Cpb xpb.length rpb, .slice Cnb xnb.length rnb, .slice Ccb xcb.length rcb, .slice Clb xlb.length rlb, .int .i64 xob, .int .i64 xeb]) (vb := [.int .i64 xka, .slice Cic xic.length ric, .slice Cpc xpc.length rpc, .slice Cnc xnc.length rnc, .slice Ccc xcc.length rcc, .slice Clc xlc.length rlc, .int .i64 xoc, .int .i64 xec]) eY.out eq.out (hO.rdl2 12 rfl (hO.rdh 3 rfl HB) (hO.rdh 3 rfl HC)) hzs.out.2.1).mono ?_
            rintro e u ⟨Q41, Q42, Q43, Q44, Q45, m41, m42, m43, m44, m45, W4, rfl, hvo4, hb⟩
            replace hO := hO.call hb
            clear hb
            simp only [List.cons_append, List.nil_append] at hO
            go_wp2_with (first | (with_reducible refine zao ?_) | ((with_reducible refine zac ?_); refine zal rfl hO rfl ?_; (refine nm 15 rfl ?_; clear hO; intro b15 u hO); simp only [zL, zK] at hO) | ((with_reducible refine zab ?_); refine zsc rfl hO rfl _ (by exact at15) ?_; clear hO; intro u hO; simp only [zC, zB] at hO) | fail)
            refine ⟨?_⟩
            go_ret
            exact ⟨rfl, hO.below⟩
        replace tail1 := Lib.hid tail1
        clear hK2
        by_cases kc : xka = xkc
        · subst kc
          go_wp2_with fail
          exact tail1.out _ _ _ _ _ _ _ _ _ _ _ _ _ _ _ _ _ _ _ _ _ _ _ _ _ _ _ _ _ _ _ _ _ _ _ _ _ _ _ _ _ _ _ _ _ _ _ _ _ _ _ _ _ _ _ _ _ _ _ _ _ _ _ _ _ _ _ _ _ _ _ _ _ _ _ _ _ _ _ _ _ _ _ _ _ _ _ _ _ _ _ _ _ _ _ _ _ _ _ _ _ _ _ _ _ _ _ _ _ _ _ _ _ _ _ _ _ _ _ _ _ _ _ _ _ _ _ _ _ _ _ _ _ _ _ _ _ _ _ _ _ _ _ _ _ _ _ _ _ _ _ _ _ _ _ _ _ _ _ _ _ _ _ _ _ _ _ _ _ _ _ _ _ _ _ _ _ _ _ _ _ _ _ _ _ _ _ _ _ _ _ _ _ _ _ _ _ _ _ _ _ _ _ _ _ _ _ _ _ HC HZC.out hO
        · have d1 : (xkc != xka) = true := by simpa using fun h => kc h.symm
          have d2 : ¬ xkc = xka := fun h => kc h.symm
          go_wp2_with (first | ((with_reducible refine zaa ?_); refine zlb rfl hO rfl _ (by exact at1) ?_) | ((with_reducible refine zab ?_); refine zsc rfl hO rfl _ (by exact at3) ?_; clear hO; intro u hO; simp only [zC, zB] at hO) | fail)
          exact tail1.out _ _ _ _ _ _ _ _ _ _ _ _ _ _ _ _ _ _ _ _ _ _ _ _ _ _ _ _ _ _ _ _ _ _ _ _ _ _ _ _ _ _ _ _ _ _ _ _ _ _ _ _ _ _ _ _ _ _ _ _ _ _ _ _ _ _ _ _ _ _ _ _ _ _ _ _ _ _ _ _ _ _ _ _ _ _ _ _ _ _ _ _ _ _ _ _ _ _ _ _ _ _ _ _ _ _ _ _ _ _ _ _ _ _ _ _ _ _ _ _ _ _ _ _ _ _ _ _ _ _ _ _ _ _ _ _ _ _ _ _ _ _ _ _ _ _ _ _ _ _ _ _ _ _ _ _ _ _ _ _ _ _ _ _ _ _ _ _ _ _ _ _ _ _ _ _ _ _ _ _ _ _ _ _ _ _ _ _ _ _ _ _ _ _ _ _ _ _ _ _ _ _ _ _ _ _ _ _ _ HA HZ.out.1 hO
      replace tail0 := Lib.hid tail0
      clear hK1
      by_cases kb : xka = xkb
      · subst kb
        go_wp2_with fail
        exact tail0.out _ _ _ _ _ _ _ _ _ _ _ _ _ _ _ _ _ _ _ _ _ _ _ _ _ _ _ _ _ _ _ _ _ _ _ _ _ _ _ _ _ _ _ _ _ _ _ _ _ _ _ _ _ _ _ _ _ _ _ _ _ _ _ _ _ _ _ _ _ _ _ _ _ _ _ _ _ _ _ _ _ _ _ _ _ _ _ _ _ _ _ _ _ _ _ _ _ _ _ _ _ _ _ _ _ _ _ _ _ _ _ _ _ _ _ _ _ _ _ _ _ _ _ _ _ _ _ _ _ _ _ _ _ _ _ _ _ _ _ _ _ _ _ _ _ _ _ _ _ _ _ _ _ _ _ _ _ _ _ _ _ _ _ _ _ _ _ _ _ _ _ _ _ _ _ _ _ _ _ _ _ _ _ _ _ _ _ _ _ _ _ _ _ _ _ _ _ _ _ _ _ _ _ _ _ _ _ _ _ HB HZ.out.2 hO
      · have d1 : (xkb != xka) = true := by simpa using fun h => kb h.symm
        have d2 : ¬ xkb = xka := fun h => kb h.symm
        go_wp2_with (first | ((with_reducible refine zaa ?_); refine zlb rfl hO rfl _ (by exact at1) ?_) | ((with_reducible refine zab ?_); refine zsc rfl hO rfl _ (by exact at2) ?_; clear hO; intro u hO; simp only [zC, zB] at hO) | fail)
        exact tail0.out _ _ _ _ _ _ _ _ _ _ _ _ _ _ _ _ _ _ _ _ _ _ _ _ _ _ _ _ _ _ _ _ _ _ _ _ _ _ _ _ _ _ _ _ _ _ _ _ _ _ _ _ _ _ _ _ _ _ _ _ _ _ _ _ _ _ _ _ _ _ _ _ _ _ _ _ _ _ _ _ _ _ _ _ _ _ _ _ _ _ _ _ _ _ _ _ _ _ _ _ _ _ _ _ _ _ _ _ _ _ _ _ _ _ _ _ _ _ _ _ _ _ _ _ _ _ _ _ _ _ _ _ _ _ _ _ _ _ _ _ _ _ _ _ _ _ _ _ _ _ _ _ _ _ _ _ _ _ _ _ _ _ _ _ _ _ _ _ _ _ _ _ _ _ _ _ _ _ _ _ _ _ _ _ _ _ _ _ _ _ _ _ _ _ _ _ _ _ _ _ _ _ _ _ _ _ _ _ _ HA (Nat.le_trans HZ.out.1 (by decide)) hO

end Go.Proofs.Ytmofcbpabdbjlaa
