/-
  What is proved: the statement on the recycling of operands (FnRecycling).
  Condition: none beyond those of the theorems.
-/
import Derived.Test.YtmofcbpabdbjlaaRq5
import Derived.Test.YtmofcbpabdbjlaaRq18
import Derived.Test.YtmofcbpabdbjlaaRq21
import Derived.Test.YtmofcbpabdbjlaaRq22
import Derived.Test.YtmofcbpabdbjlaaRq34
import Derived.Test.YtmofcbpabdbjlaaRq35
import Derived.Test.YtmofcbpabdbjlaaRq38
import Derived.Test.YtmofcbpabdbjlaaRq39
namespace Go.Proofs.Ytmofcbpabdbjlaa

set_option maxRecDepth 8000

open Go.RowKit Go.ChangeShapes Go.WideShapes Go.Deep

set_option linter.unusedVariables false

set_option linter.unusedSimpArgs false

theorem items_le (t : VT) : t.items.length ≤ szV t := by
  obtain ⟨k, is, ps, ns, cs, ls, c, e⟩ := t
  show is.length ≤ szI is + szL ps + szS ns + szS cs + szS ls
  unfold szI
  omega

theorem RdV.slI {w : World} {t : VT} {A : Option Addr} {n r : Nat} {v0 v2 v3 v4 v5 v6 v7 : Value} (h : RdV w t [v0, .slice A n r, v2, v3, v4, v5, v6, v7]) : Sl w 3 A t.items.length (itc t.items) := by
  cases h with
  | mk hi hp hl hr hn hc hv hcap => exact hi

set_option maxRecDepth 20000 in
set_option maxHeartbeats 4000000 in
theorem laws_sameItems (A B : Option Addr) (c d n m : Nat) (is js : List It) (w : World) (h : Sl w 3 A is.length (itc is)) (h' : Sl w 3 B js.length (itc js)) (hz : is.length ≤ 1048576) (he : js = is) (hn : is.length = n) (hm : js.length = m) : Calls Try.prog 60 #[.slice A n c, .slice B m d] w fun e w' => e = .returned (.bool true) ∧ Below w.heap.size w w' := by
  subst he hn hm
  go_enter Try.func60, Try.ntmps60
  have hO := Own.nil w
  go_wp2_with (first | ((with_reducible refine zae ?_); refine zal rfl hO rfl ?_; (first | (refine nm 0 rfl ?_; clear hO; intro b0 u hO)); simp only [zL, zK] at hO) | ((with_reducible refine zag ?_); refine zbx rfl hO rfl rfl ?_; (first | (refine nm 0 rfl ?_; clear hO; intro b0 u hO)); simp only [zL, zK] at hO) | ((with_reducible refine zaa ?_); refine zaf rfl (by (first | rfl | (simp only [Region.wanted, yielded, *]; go_simp; done) | (simp [Region.wanted, yielded, *]; done) | fail)) hO rfl _ (by (first | exact at0)) (by rfl) (by simp only [Act.put, zA, zB, zC]; rfl) ?_) | ((with_reducible refine zaa ?_); refine zac rfl (by (first | rfl | (simp only [Region.wanted, yielded, *]; go_simp; done) | (simp [Region.wanted, yielded, *]; done) | fail)) hO rfl _ (by (first | exact at0)) (by rfl) (by simp only [Act.put, zA, zB, zC]; rfl) ?_) | ((with_reducible refine zab ?_); refine zsb rfl hO rfl _ (by (first | exact at0)) rfl ?_; clear hO; intro u hO; simp only [zC, zB] at hO) | ((with_reducible refine zab ?_); refine zsf rfl hO rfl _ (by (first | exact at0)) (zM rfl) ?_; clear hO; intro u hO; simp only [zC, zB] at hO) | fail)
  go_loopw [5] (fun i u => ∃ m : Nat, m ≤ js.length ∧ i = .int .i64 m ∧ Own w [] u) (fun i _ => js.length - (intOf i).toNat)
  case atStart => exact ⟨0, Nat.zero_le _, rfl, hO⟩
  case round =>
    clear hO
    obtain ⟨m, hm, rfl, hO⟩ := hrel
    by_cases hlt : m < js.length
    · obtain ⟨x, hx⟩ : ∃ x, js[m]'hlt = x := ⟨_, rfl⟩
      obtain ⟨b, off, rfl, hb, a0, a1, a2⟩ := h.it (Below.refl _ _) hlt hx
      obtain ⟨b', off', rfl, hb', d0, d1, d2⟩ := h'.it (Below.refl _ _) hlt hx
      clear hx
      have i1 : (0 : Int) ≤ (m : Int) := by omega
      have i2 : (m : Int) < (js.length : Int) := by omega
      obtain ⟨xn, xd, xt⟩ := x
      simp only at a0 a1 a2 d0 d1 d2
      go_wp2_with (first | ((with_reducible refine zae ?_); refine zal rfl hO rfl ?_; (first | (refine nm 0 rfl ?_; clear hO; intro b0 u hO)); simp only [zL, zK] at hO) | ((with_reducible refine zag ?_); refine zbx rfl hO rfl rfl ?_; (first | (refine nm 0 rfl ?_; clear hO; intro b0 u hO)); simp only [zL, zK] at hO) | ((with_reducible refine zaa ?_); refine zaf rfl (by (first | rfl | (simp only [Region.wanted, yielded, *]; go_simp; done) | (simp [Region.wanted, yielded, *]; done) | fail)) hO rfl _ (by (first | exact at0)) (by rfl) (by simp only [Act.put, zA, zB, zC]; rfl) ?_) | ((with_reducible refine zaa ?_); refine zac rfl (by (first | rfl | (simp only [Region.wanted, yielded, *]; go_simp; done) | (simp [Region.wanted, yielded, *]; done) | fail)) hO rfl _ (by (first | exact at0)) (by rfl) (by simp only [Act.put, zA, zB, zC]; rfl) ?_) | ((with_reducible refine zab ?_); refine zsb rfl hO rfl _ (by (first | exact at0)) rfl ?_; clear hO; intro u hO; simp only [zC, zB] at hO) | ((with_reducible refine zab ?_); refine zsf rfl hO rfl _ (by (first | exact at0)) (zM rfl) ?_; clear hO; intro u hO; simp only [zC, zB] at hO) | fail)
      refine J.wp_region_c (n := 26) [0, 1, 2, 3, 4, 5, 6, 7, 8] [] (deps := fun i => [[], [], [0, 1], [0, 1, 2], [], [], [4, 5], [4, 5, 6], [0, 1, 2, 3, 4, 5, 6, 7]].getD i []) (fun _ _ _ => True) (r := 0) (lst := #[true, true, true, true, true, true, true, true, true]) (by kernel_rfl) (by kernel_rfl) (by kernel_rfl) rfl (by decide) (by kernel_rfl) hO ?_
      refine zcp (h := ?_)
      refine zcp (h := ?_)
      refine zcp (h := ?_)
      refine zcc (f := fun M u hO K hK => by ((have e0 := (hO.old hb).trans a0; have e1 := (hO.old hb).trans a1; have e2 := (hO.old hb).trans a2; have f0 := (hO.old hb').trans d0; have f1 := (hO.old hb').trans d1; have f2 := (hO.old hb').trans d2; simp only [wp_at_zero, wp_at_succ]; go_step; exact hK _ hO))) (h := ?_)
      refine zcp (h := ?_)
      refine zcp (h := ?_)
      refine zcp (h := ?_)
      refine zcc (f := fun M u hO K hK => by ((have e0 := (hO.old hb).trans a0; have e1 := (hO.old hb).trans a1; have e2 := (hO.old hb).trans a2; have f0 := (hO.old hb').trans d0; have f1 := (hO.old hb').trans d1; have f2 := (hO.old hb').trans d2; simp only [wp_at_zero, wp_at_succ]; go_step; exact hK _ hO))) (h := ?_)
      refine zcp (h := ?_)
      refine J.Chain.nil ⟨?_, ?_⟩
      · exact J.Each.nil
      intro vs u hO hF
      clear hF
      simp only [List.flatMap_cons, List.flatMap_nil, List.append_nil, zL, zK] at hO
      simp only [J.putL]
      clear vs
      refine wpAny_done (by kernel_rfl) ?_ _
      go_wp2_with (first | ((with_reducible refine zae ?_); refine zal rfl hO rfl ?_; (first | (refine nm 0 rfl ?_; clear hO; intro b0 u hO)); simp only [zL, zK] at hO) | ((with_reducible refine zag ?_); refine zbx rfl hO rfl rfl ?_; (first | (refine nm 0 rfl ?_; clear hO; intro b0 u hO)); simp only [zL, zK] at hO) | ((with_reducible refine zaa ?_); refine zaf rfl (by (first | rfl | (simp only [Region.wanted, yielded, *]; go_simp; done) | (simp [Region.wanted, yielded, *]; done) | fail)) hO rfl _ (by (first | exact at0)) (by rfl) (by simp only [Act.put, zA, zB, zC]; rfl) ?_) | ((with_reducible refine zaa ?_); refine zac rfl (by (first | rfl | (simp only [Region.wanted, yielded, *]; go_simp; done) | (simp [Region.wanted, yielded, *]; done) | fail)) hO rfl _ (by (first | exact at0)) (by rfl) (by simp only [Act.put, zA, zB, zC]; rfl) ?_) | ((with_reducible refine zab ?_); refine zsb rfl hO rfl _ (by (first | exact at0)) rfl ?_; clear hO; intro u hO; simp only [zC, zB] at hO) | ((with_reducible refine zab ?_); refine zsf rfl hO rfl _ (by (first | exact at0)) (zM rfl) ?_; clear hO; intro u hO; simp only [zC, zB] at hO) | fail)
      go_roundw
      case rel => exact ⟨m + 1, by omega, by go_num, hO⟩
      case measure => simp [intOf]; omega
    · have e : m = js.length := by omega
      subst e
      go_wp2_with (first | ((with_reducible refine zae ?_); refine zal rfl hO rfl ?_; (first | (refine nm 0 rfl ?_; clear hO; intro b0 u hO)); simp only [zL, zK] at hO) | ((with_reducible refine zag ?_); refine zbx rfl hO rfl rfl ?_; (first | (refine nm 0 rfl ?_; clear hO; intro b0 u hO)); simp only [zL, zK] at hO) | ((with_reducible refine zaa ?_); refine zaf rfl (by (first | rfl | (simp only [Region.wanted, yielded, *]; go_simp; done) | (simp [Region.wanted, yielded, *]; done) | fail)) hO rfl _ (by (first | exact at0)) (by rfl) (by simp only [Act.put, zA, zB, zC]; rfl) ?_) | ((with_reducible refine zaa ?_); refine zac rfl (by (first | rfl | (simp only [Region.wanted, yielded, *]; go_simp; done) | (simp [Region.wanted, yielded, *]; done) | fail)) hO rfl _ (by (first | exact at0)) (by rfl) (by simp only [Act.put, zA, zB, zC]; rfl) ?_) | ((with_reducible refine zab ?_); refine zsb rfl hO rfl _ (by (first | exact at0)) rfl ?_; clear hO; intro u hO; simp only [zC, zB] at hO) | ((with_reducible refine zab ?_); refine zsf rfl hO rfl _ (by (first | exact at0)) (zM rfl) ?_; clear hO; intro u hO; simp only [zC, zB] at hO) | fail)
      go_ret
      exact ⟨rfl, hO.below⟩

set_option maxRecDepth 20000 in
set_option maxHeartbeats 8000000 in
theorem fnRecycling_walk (v0 : Value) (w : World) (h0 : ArgBytes w v0) : Calls Try.prog 15 #[v0] w fun e w' => e = .returned (.bool true) ∧ Below w.heap.size w w' := by
  obtain ⟨A, n, c, rfl, CB | ⟨CB, l, hC⟩⟩ := big_cases h0
  · go_enter Try.func15, Try.ntmps15
    go_wp2_with fail
    refine (CB _).mono ?_
    rintro e u ⟨rfl, rfl⟩
    go_wp2_with fail
    go_ret
    exact ⟨rfl, Below.refl _ _⟩
  · go_enter Try.func15, Try.ntmps15
    have hO := Own.nil w
    go_wp2_with (first | (with_reducible refine zam ?_) | ((with_reducible refine zae ?_); refine zal rfl hO rfl ?_; (first | (refine nm 0 rfl ?_; clear hO; intro b0 u hO) | (refine nm 1 rfl ?_; clear hO; intro b1 u hO) | (refine nm 2 rfl ?_; clear hO; intro b2 u hO) | (refine nm 3 rfl ?_; clear hO; intro b3 u hO) | (refine nm 4 rfl ?_; clear hO; intro b4 u hO) | (refine nm 5 rfl ?_; clear hO; intro b5 u hO) | (refine nm 6 rfl ?_; clear hO; intro b6 u hO) | (refine nm 7 rfl ?_; clear hO; intro b7 u hO) | (refine nm 8 rfl ?_; clear hO; intro b8 u hO) | (refine nm 9 rfl ?_; clear hO; intro b9 u hO) | (refine nm 10 rfl ?_; clear hO; intro b10 u hO) | (refine nm 11 rfl ?_; clear hO; intro b11 u hO) | (refine nm 12 rfl ?_; clear hO; intro b12 u hO) | (refine nm 13 rfl ?_; clear hO; intro b13 u hO) | (refine nm 14 rfl ?_; clear hO; intro b14 u hO) | (refine nm 15 rfl ?_; clear hO; intro b15 u hO)); simp only [zL, zK] at hO) | ((with_reducible refine zag ?_); refine zbx rfl hO rfl rfl ?_; (first | (refine nm 0 rfl ?_; clear hO; intro b0 u hO) | (refine nm 1 rfl ?_; clear hO; intro b1 u hO) | (refine nm 2 rfl ?_; clear hO; intro b2 u hO) | (refine nm 3 rfl ?_; clear hO; intro b3 u hO) | (refine nm 4 rfl ?_; clear hO; intro b4 u hO) | (refine nm 5 rfl ?_; clear hO; intro b5 u hO) | (refine nm 6 rfl ?_; clear hO; intro b6 u hO) | (refine nm 7 rfl ?_; clear hO; intro b7 u hO) | (refine nm 8 rfl ?_; clear hO; intro b8 u hO) | (refine nm 9 rfl ?_; clear hO; intro b9 u hO) | (refine nm 10 rfl ?_; clear hO; intro b10 u hO) | (refine nm 11 rfl ?_; clear hO; intro b11 u hO) | (refine nm 12 rfl ?_; clear hO; intro b12 u hO) | (refine nm 13 rfl ?_; clear hO; intro b13 u hO) | (refine nm 14 rfl ?_; clear hO; intro b14 u hO) | (refine nm 15 rfl ?_; clear hO; intro b15 u hO)); simp only [zL, zK] at hO) | ((with_reducible refine zaa ?_); refine zaf rfl (by (first | rfl | (simp only [Region.wanted, yielded, *]; go_simp; done) | (simp [Region.wanted, yielded, *]; done) | fail)) hO rfl _ (by (first | exact at0 | exact at1 | exact at2 | exact at3 | exact at4 | exact at5 | exact at6 | exact at7 | exact at8 | exact at9 | exact at10 | exact at11 | exact at12 | exact at13 | exact at14 | exact at15)) (by rfl) (by simp only [Act.put, zA, zB, zC]; rfl) ?_) | ((with_reducible refine zaa ?_); refine zac rfl (by (first | rfl | (simp only [Region.wanted, yielded, *]; go_simp; done) | (simp [Region.wanted, yielded, *]; done) | fail)) hO rfl _ (by (first | exact at0 | exact at1 | exact at2 | exact at3 | exact at4 | exact at5 | exact at6 | exact at7 | exact at8 | exact at9 | exact at10 | exact at11 | exact at12 | exact at13 | exact at14 | exact at15)) (by rfl) (by simp only [Act.put, zA, zB, zC]; rfl) ?_) | ((with_reducible refine zab ?_); refine zsc rfl hO rfl _ (by (first | exact at0 | exact at1 | exact at2 | exact at3 | exact at4 | exact at5 | exact at6 | exact at7 | exact at8 | exact at9 | exact at10 | exact at11 | exact at12 | exact at13 | exact at14 | exact at15)) ?_; clear hO; intro u hO; simp only [zC, zB] at hO) | ((with_reducible refine zab ?_); refine zsf rfl hO rfl _ (by (first | exact at0 | exact at1 | exact at2 | exact at3 | exact at4 | exact at5 | exact at6 | exact at7 | exact at8 | exact at9 | exact at10 | exact at11 | exact at12 | exact at13 | exact at14 | exact at15)) (zM rfl) ?_; clear hO; intro u hO; simp only [zC, zB] at hO) | fail)
    refine (CB _).mono ?_
    rintro e u ⟨rfl, rfl⟩
    go_wp2_with (first | (with_reducible refine zam ?_) | ((with_reducible refine zae ?_); refine zal rfl hO rfl ?_; (first | (refine nm 0 rfl ?_; clear hO; intro b0 u hO) | (refine nm 1 rfl ?_; clear hO; intro b1 u hO) | (refine nm 2 rfl ?_; clear hO; intro b2 u hO) | (refine nm 3 rfl ?_; clear hO; intro b3 u hO) | (refine nm 4 rfl ?_; clear hO; intro b4 u hO) | (refine nm 5 rfl ?_; clear hO; intro b5 u hO) | (refine nm 6 rfl ?_; clear hO; intro b6 u hO) | (refine nm 7 rfl ?_; clear hO; intro b7 u hO) | (refine nm 8 rfl ?_; clear hO; intro b8 u hO) | (refine nm 9 rfl ?_; clear hO; intro b9 u hO) | (refine nm 10 rfl ?_; clear hO; intro b10 u hO) | (refine nm 11 rfl ?_; clear hO; intro b11 u hO) | (refine nm 12 rfl ?_; clear hO; intro b12 u hO) | (refine nm 13 rfl ?_; clear hO; intro b13 u hO) | (refine nm 14 rfl ?_; clear hO; intro b14 u hO) | (refine nm 15 rfl ?_; clear hO; intro b15 u hO)); simp only [zL, zK] at hO) | ((with_reducible refine zag ?_); refine zbx rfl hO rfl rfl ?_; (first | (refine nm 0 rfl ?_; clear hO; intro b0 u hO) | (refine nm 1 rfl ?_; clear hO; intro b1 u hO) | (refine nm 2 rfl ?_; clear hO; intro b2 u hO) | (refine nm 3 rfl ?_; clear hO; intro b3 u hO) | (refine nm 4 rfl ?_; clear hO; intro b4 u hO) | (refine nm 5 rfl ?_; clear hO; intro b5 u hO) | (refine nm 6 rfl ?_; clear hO; intro b6 u hO) | (refine nm 7 rfl ?_; clear hO; intro b7 u hO) | (refine nm 8 rfl ?_; clear hO; intro b8 u hO) | (refine nm 9 rfl ?_; clear hO; intro b9 u hO) | (refine nm 10 rfl ?_; clear hO; intro b10 u hO) | (refine nm 11 rfl ?_; clear hO; intro b11 u hO) | (refine nm 12 rfl ?_; clear hO; intro b12 u hO) | (refine nm 13 rfl ?_; clear hO; intro b13 u hO) | (refine nm 14 rfl ?_; clear hO; intro b14 u hO) | (refine nm 15 rfl ?_; clear hO; intro b15 u hO)); simp only [zL, zK] at hO) | ((with_reducible refine zaa ?_); refine zaf rfl (by (first | rfl | (simp only [Region.wanted, yielded, *]; go_simp; done) | (simp [Region.wanted, yielded, *]; done) | fail)) hO rfl _ (by (first | exact at0 | exact at1 | exact at2 | exact at3 | exact at4 | exact at5 | exact at6 | exact at7 | exact at8 | exact at9 | exact at10 | exact at11 | exact at12 | exact at13 | exact at14 | exact at15)) (by rfl) (by simp only [Act.put, zA, zB, zC]; rfl) ?_) | ((with_reducible refine zaa ?_); refine zac rfl (by (first | rfl | (simp only [Region.wanted, yielded, *]; go_simp; done) | (simp [Region.wanted, yielded, *]; done) | fail)) hO rfl _ (by (first | exact at0 | exact at1 | exact at2 | exact at3 | exact at4 | exact at5 | exact at6 | exact at7 | exact at8 | exact at9 | exact at10 | exact at11 | exact at12 | exact at13 | exact at14 | exact at15)) (by rfl) (by simp only [Act.put, zA, zB, zC]; rfl) ?_) | ((with_reducible refine zab ?_); refine zsc rfl hO rfl _ (by (first | exact at0 | exact at1 | exact at2 | exact at3 | exact at4 | exact at5 | exact at6 | exact at7 | exact at8 | exact at9 | exact at10 | exact at11 | exact at12 | exact at13 | exact at14 | exact at15)) ?_; clear hO; intro u hO; simp only [zC, zB] at hO) | ((with_reducible refine zab ?_); refine zsf rfl hO rfl _ (by (first | exact at0 | exact at1 | exact at2 | exact at3 | exact at4 | exact at5 | exact at6 | exact at7 | exact at8 | exact at9 | exact at10 | exact at11 | exact at12 | exact at13 | exact at14 | exact at15)) (zM rfl) ?_; clear hO; intro u hO; simp only [zC, zB] at hO) | fail)
    refine (dw_ar A n c l _ (hC.below hO.below)).mono ?_
    rintro e u ⟨op, v, Fa, v', Fb, rfl, ⟨⟨xka, xia, xpa, xna, xca, xla, xoa, xea, Cia, Cpa, Cna, Cca, Cla, ria, rpa, rna, rca, rla, rfl, hva, hza⟩, ⟨xkb, xib, xpb, xnb, xcb, xlb, xob, xeb, Cib, Cpb, Cnb, Ccb, Clb, rib, rpb, rnb, rcb, rlb, rfl, hvb, hzb⟩⟩, hb⟩
    replace hO := hO.call hb
    simp only [List.cons_append, List.nil_append] at hO
    have HA := Lib.hid (Nat.le_trans hza (show 600000 ≤ 1048576 by decide))
    have HB := Lib.hid (Nat.le_trans hzb (show 600000 ≤ 1048576 by decide))
    clear hb CB hC hza hzb
    have CI := fun va vb u (ha : RdV u (.mk xka xia xpa xna xca xla xoa xea) va) (hb : RdV u (.mk xkb xib xpb xnb xcb xlb xob xeb) vb) => RetVE.ofS (impl_ar op (.mk xka xia xpa xna xca xla xoa xea) (.mk xkb xib xpb xnb xcb xlb xob xeb) va vb u ha hb HA.out HB.out)
    have CS := fun va vb u (ha : RdV u (.mk xka xia xpa xna xca xla xoa xea) va) (hb : RdV u (.mk xkb xib xpb xnb xcb xlb xob xeb) vb) => RetVE.ofS (spec_ar op (.mk xka xia xpa xna xca xla xoa xea) (.mk xkb xib xpb xnb xcb xlb xob xeb) va vb u ha hb HA.out HB.out)
    have CR := fun (q : Nat) va u (ha : RdV u (.mk xka xia xpa xna xca xla xoa xea) va) => RetVE.ofS (impl_rp (q : Int) (.mk xka xia xpa xna xca xla xoa xea) va u ha HA.out)
    have CT := fun (q : Nat) va u (ha : RdV u (.mk xkb xib xpb xnb xcb xlb xob xeb) va) => RetVE.ofS (impl_rp (q : Int) (.mk xkb xib xpb xnb xcb xlb xob xeb) va u ha HB.out)
    have C3 := fun ta tb (hza : szV ta ≤ 1048576) (hzb : szV tb ≤ 1048576) va vb u (ha : RdV u ta va) (hb : RdV u tb vb) => RetVE.ofS (impl_ar op ta tb va vb u ha hb hza hzb)
    have hok := arT_ok op (.mk xka xia xpa xna xca xla xoa xea) (.mk xkb xib xpb xnb xcb xlb xob xeb)
    have HL := Lib.hid (Nat.le_trans (isV_small hok) (show 341500 ≤ 1048576 by decide))
    have HM := Lib.hid (fun (h : arS op (.mk xka xia xpa xna xca xla xoa xea) (.mk xkb xib xpb xnb xcb xlb xob xeb) = ⟨#[]⟩) n hn h0 => rc_main h (n := n) hn h0)
    have CE := fun vs1 vs2 u h h' => spec_eqVecs (arT op (.mk xka xia xpa xna xca xla xoa xea) (.mk xkb xib xpb xnb xcb xlb xob xeb)) (arT op (.mk xka xia xpa xna xca xla xoa xea) (.mk xkb xib xpb xnb xcb xlb xob xeb)) vs1 vs2 u h h' HL.out HL.out
    rw [hok, eqV_refl] at CE
    simp only [Bool.and_self] at CE
    have h40 := isV_small hok
    obtain ⟨r, hr⟩ : ∃ r, arT op (.mk xka xia xpa xna xca xla xoa xea) (.mk xkb xib xpb xnb xcb xlb xob xeb) = r := ⟨_, rfl⟩
    obtain ⟨s, hs⟩ : ∃ s, arS op (.mk xka xia xpa xna xca xla xoa xea) (.mk xkb xib xpb xnb xcb xlb xob xeb) = s := ⟨_, rfl⟩
    rw [hr] at CI CS HL HM CE
    rw [hs] at CI CS HM
    clear hr hs hok h40
    go_wp2_with (first | ((with_reducible refine zae ?_); refine zal rfl hO rfl ?_; (first | (refine nm 2 rfl ?_; clear hO; intro b2 u hO) | (refine nm 3 rfl ?_; clear hO; intro b3 u hO) | fail); simp only [zL, zK] at hO) | ((with_reducible refine zaa ?_); refine zlb rfl hO rfl _ (by (first | exact at2 | exact at3 | fail)) ?_) | ((with_reducible refine zab ?_); refine zsc rfl hO rfl _ (by (first | exact at2 | exact at3 | fail)) ?_; clear hO; intro u hO; simp only [zC, zB] at hO) | fail)
    refine (CI _ _ _ (hO.rdp 0 rfl hva) (hO.rdp 1 rfl hvb)).mono ?_
    rintro e u ⟨Q11, Q12, Q13, Q14, Q15, m11, m12, m13, m14, m15, W1, rfl, hvo1, hb⟩
    replace hO := hO.call hb
    clear hb
    simp only [List.cons_append, List.nil_append] at hO
    go_wp2_with (first | ((with_reducible refine zae ?_); refine zal rfl hO rfl ?_; (refine nm 5 rfl ?_; clear hO; intro b5 u hO); simp only [zL, zK] at hO) | ((with_reducible refine zaa ?_); refine zlb rfl hO rfl _ (by (first | exact at3 | exact at4 | fail)) ?_) | ((with_reducible refine zab ?_); refine zsc rfl hO rfl _ (by exact at5) ?_; clear hO; intro u hO; simp only [zC, zB] at hO) | fail)
    refine (CS _ _ _ (hO.rdp 1 rfl hva) (hO.rdp 2 rfl hvb)).mono ?_
    rintro e u ⟨Q21, Q22, Q23, Q24, Q25, m21, m22, m23, m24, m25, W2, rfl, hvo2, hb⟩
    replace hO := hO.call hb
    clear hb
    simp only [List.cons_append, List.nil_append] at hO
    go_upto_region 6 with (first | ((with_reducible refine zae ?_); refine zal rfl hO rfl ?_; (refine nm 7 rfl ?_; clear hO; intro b7 u hO); simp only [zL, zK] at hO) | ((with_reducible refine zab ?_); refine zsc rfl hO rfl _ (by exact at7) ?_; clear hO; intro u hO; simp only [zC, zB] at hO) | fail)
    by_cases hs : s = ⟨#[]⟩
    · subst hs
      by_cases hn : r.items.length = 0
      · have n0 : ((r.items.length : Int) == 0) = true := by rw [hn]; rfl
        clear hn HM
        go_wp2_with (first | ((with_reducible refine zaa ?_); refine zlb rfl hO rfl _ (by (first | exact at6 | exact at7 | fail)) ?_) | fail)
        refine (CE _ _ _ (hO.rdp 1 rfl hvo1) (hO.rdp 0 rfl hvo2)).mono ?_
        rintro e u ⟨rfl, hb⟩
        (replace hO := hO.step hb; clear hb)
        go_wp2_with (first | ((with_reducible refine zaa ?_); refine zlb rfl hO rfl _ (by (first | exact at6 | exact at7 | fail)) ?_) | ((with_reducible refine zaa ?_); refine zlf rfl hO rfl _ (by exact at7) ?_) | fail)
        refine (CE _ _ _ (hO.rdp 1 rfl hvo1) (hO.rdp 0 rfl hvo2)).mono ?_
        rintro e u ⟨rfl, hb⟩
        (replace hO := hO.step hb; clear hb)
        go_wp2_with (first | (with_reducible refine zam ?_) | fail)
        refine ⟨?_⟩
        go_ret
        exact ⟨rfl, hO.below⟩
      · have n0 : ((r.items.length : Int) == 0) = false := by rw [beq_eq_false_iff_ne]; omega
        obtain ⟨p1, p2, r1, s1, S3, T3⟩ := HM.out rfl _ rfl hn
        have hit := Nat.le_trans (items_le r) HL.out
        obtain ⟨qa, hqa⟩ : ∃ q, r.items.length / (VT.items (.mk xka xia xpa xna xca xla xoa xea)).length = q := ⟨_, rfl⟩
        obtain ⟨qb, hqb⟩ : ∃ q, r.items.length / (VT.items (.mk xkb xib xpb xnb xcb xlb xob xeb)).length = q := ⟨_, rfl⟩
        have da : (r.items.length : Int).tdiv (xia.length : Int) = (qa : Int) := by rw [← hqa]; exact (Int.ofNat_tdiv _ _).symm
        have db : (r.items.length : Int).tdiv (xib.length : Int) = (qb : Int) := by rw [← hqb]; exact (Int.ofNat_tdiv _ _).symm
        have za : qa ≤ 1048576 := by rw [← hqa]; exact Nat.le_trans (Nat.div_le_self _ _) hit
        have zb : qb ≤ 1048576 := by rw [← hqb]; exact Nat.le_trans (Nat.div_le_self _ _) hit
        rw [hqa] at r1 S3 T3
        rw [hqb] at s1 S3 T3
        have CRa := CR qa
        have CRb := CT qb
        have C5 := C3 (rpT (qa : Int) (.mk xka xia xpa xna xca xla xoa xea)) (rpT (qb : Int) (.mk xkb xib xpb xnb xcb xlb xob xeb)) (rpT_sz _ _) (rpT_sz _ _)
        rw [r1] at CRa
        rw [s1] at CRb
        rw [S3] at C5
        obtain ⟨ra, hra⟩ : ∃ t, rpT (qa : Int) (.mk xka xia xpa xna xca xla xoa xea) = t := ⟨_, rfl⟩
        obtain ⟨rb, hrb⟩ : ∃ t, rpT (qb : Int) (.mk xkb xib xpb xnb xcb xlb xob xeb) = t := ⟨_, rfl⟩
        rw [hra] at CRa C5 T3
        rw [hrb] at CRb C5 T3
        obtain ⟨X, hX⟩ : ∃ t, arT op ra rb = t := ⟨_, rfl⟩
        rw [hX] at C5 T3
        replace T3 := Lib.hid T3
        have q1 : (0 : Int) < (xia.length : Int) := by have : 0 < xia.length := p1; omega
        have q2 : (0 : Int) < (xib.length : Int) := by have : 0 < xib.length := p2; omega
        have q3 : ((xia.length : Int) == 0) = false := by rw [beq_eq_false_iff_ne]; omega
        have q4 : ((xib.length : Int) == 0) = false := by rw [beq_eq_false_iff_ne]; omega
        have q5 : ¬ (xia.length : Int) = 0 := by omega
        have q6 : ¬ (xib.length : Int) = 0 := by omega
        clear hX hra hrb hqa hqb r1 s1 S3 HM hn p1 p2 CR CT C3 CI CS
        go_wp2_with (first | ((with_reducible refine zaa ?_); refine zlb rfl hO rfl _ (by (first | exact at6 | exact at7 | fail)) ?_) | fail)
        refine (CE _ _ _ (hO.rdp 1 rfl hvo1) (hO.rdp 0 rfl hvo2)).mono ?_
        rintro e u ⟨rfl, hb⟩
        (replace hO := hO.step hb; clear hb)
        go_upto_region 9 with (first | ((with_reducible refine zaa ?_); refine zlf rfl hO rfl _ (by exact at7) ?_) | fail)
        clear CE
        refine J.wp_region_e (n := 113) [0, 1, 2, 3, 4, 5] [6, 7, 8, 9, 10] 9 (deps := fun i => [[], [], [], [2], [2, 3], [1, 2, 3, 4], [0, 1, 2, 3, 4, 5], [0, 1, 2, 3, 4, 5, 6], [0, 1, 2, 3, 4, 5, 6, 7], [0, 1, 2, 3, 4, 5, 6, 7], [], [], []].getD i []) (fun i d => [fun _ => True, fun _ => True, fun _ => True, fun _ => True, fun _ => True, fun _ => True, (J.freshVE ra (.string ⟨#[]⟩)), (fun x => x = ((d 6).1, [])), (J.isFst ((d 7).1)), (J.isSnd ((d 7).1)), J.fresh 29 [.int .i64 0, .slice none 0 0, .slice none 0 0, .slice none 0 0, .slice none 0 0, .slice none 0 0, .int .i64 0, .int .i64 0], fun _ => True, fun _ => True].getD i (fun _ => True)) (r := 2) (lst := #[true, true, true, true, true, true, true, true, true, true, true, false, false]) (lst2 := #[true, true, true, true, true, true, true, true, true, false, true, false, false]) (by kernel_rfl) (by kernel_rfl) (by kernel_rfl) (by kernel_rfl) (by kernel_rfl) rfl (by decide) (by kernel_rfl) hO ?_
        refine zcc (f := fun M u hO K hK => by (exact zat hO rfl rfl _ (by exact at4) (by rfl) (by rfl) (hK _ hO))) (h := ?_)
        refine zcp (h := ?_)
        refine zcp (h := ?_)
        refine zcc (f := fun M u hO K hK => by (exact zaj hO rfl rfl _ (by exact at4) (by rfl) (by rfl) (hK _ hO))) (h := ?_)
        refine zcp (h := ?_)
        refine zcp (h := ?_)
        refine J.Chain.nil ⟨?_, ?_, ?_⟩
        · refine J.Each.cons (by rfl) ?_ ?_; exact ⟨rfl, fun vs M u hO _ K hK => by ((try simp only [J.putL, zI, zG, zH, J.dstOf, zF, zD, zE, zS, zQ, zR, Act.put, zA, zB, zC]); (try simp only [wp_at_zero, wp_at_succ]); go_step; refine (CRa _ _ (hO.rdp 2 rfl hva)).mono ?_; rintro e u ⟨Q31, Q32, Q33, Q34, Q35, m31, m32, m33, m34, m35, W3, rfl, hvo3, hb⟩; have hK' := hK _ _ _ (show (J.freshVE ra (.string ⟨#[]⟩)) _ from ⟨Q31, Q32, Q33, Q34, Q35, m31, m32, m33, m34, m35, W3, rfl, hvo3⟩) ((hO.call hb).perm List.perm_append_comm); clear hK; simp only [J.putL, zI, zG, zH, J.dstOf, zF, zD, zE, zS, zQ, zR, Act.put, zA, zB, zC] at hK'; exact hK')⟩; refine J.Each.cons (by rfl) ?_ ?_; exact ⟨rfl, fun vs M u hO hF K hK => by ((try simp only [J.putL, zI, zG, zH, J.dstOf, zF, zD, zE, zS, zQ, zR, Act.put, zA, zB, zC]); obtain ⟨Q31, Q32, Q33, Q34, Q35, m31, m32, m33, m34, m35, W3, e6, hvo3⟩ := (hF 6 (by decide) (by decide)).1; have hK' := hK (Value.tuple #[.agg #[.int .i64 ra.kind, .slice Q31 ra.items.length m31, .slice Q32 ra.parts.length m32, .slice Q33 ra.names.length m33, .slice Q34 ra.cls.length m34, .slice Q35 ra.levels.length m35, .int .i64 ra.code, .int .i64 ra.env], .string ⟨#[]⟩]) [] u (show (Value.tuple #[.agg #[.int .i64 ra.kind, .slice Q31 ra.items.length m31, .slice Q32 ra.parts.length m32, .slice Q33 ra.names.length m33, .slice Q34 ra.cls.length m34, .slice Q35 ra.levels.length m35, .int .i64 ra.code, .int .i64 ra.env], .string ⟨#[]⟩], ([] : List Res)) = ((vs 6).1, []) from by simp only [e6]) (by rw [List.append_nil]; exact hO); clear hK hF; simp only [J.putL, zI, zG, zH, J.dstOf, zF, zD, zE, zS, zQ, zR, Act.put, zA, zB, zC, e6] at hK' ⊢; (try simp only [wp_at_zero, wp_at_succ]); go_step; exact hK')⟩; refine J.Each.cons (by rfl) ?_ ?_; exact ⟨rfl, fun vs M u hO hF K hK => by ((try simp only [J.putL, zI, zG, zH, J.dstOf, zF, zD, zE, zS, zQ, zR, Act.put, zA, zB, zC]); obtain ⟨Q31, Q32, Q33, Q34, Q35, m31, m32, m33, m34, m35, W3, e6, hvo3⟩ := (hF 6 (by decide) (by decide)).1; have e7 : vs 7 = ((vs 6).1, []) := (hF 7 (by decide) (by decide)).1; simp only [e6] at e7; have hK' := hK (Value.agg #[.int .i64 ra.kind, .slice Q31 ra.items.length m31, .slice Q32 ra.parts.length m32, .slice Q33 ra.names.length m33, .slice Q34 ra.cls.length m34, .slice Q35 ra.levels.length m35, .int .i64 ra.code, .int .i64 ra.env]) [] u (show J.isFst ((vs 7).1) _ from by rw [e7]; exact J.isFst_of) (by rw [List.append_nil]; exact hO); clear hK hF; simp only [J.putL, zI, zG, zH, J.dstOf, zF, zD, zE, zS, zQ, zR, Act.put, zA, zB, zC, e6, e7] at hK' ⊢; (try simp only [wp_at_zero, wp_at_succ]); go_step; exact hK')⟩; refine J.Each.cons (by rfl) ?_ ?_; exact ⟨rfl, fun vs M u hO hF K hK => by ((try simp only [J.putL, zI, zG, zH, J.dstOf, zF, zD, zE, zS, zQ, zR, Act.put, zA, zB, zC]); obtain ⟨Q31, Q32, Q33, Q34, Q35, m31, m32, m33, m34, m35, W3, e6, hvo3⟩ := (hF 6 (by decide) (by decide)).1; have e7 : vs 7 = ((vs 6).1, []) := (hF 7 (by decide) (by decide)).1; simp only [e6] at e7; have hK' := hK (Value.string ⟨#[]⟩) [] u (show J.isSnd ((vs 7).1) _ from by rw [e7]; exact J.isSnd_of) (by rw [List.append_nil]; exact hO); clear hK hF; simp only [J.putL, zI, zG, zH, J.dstOf, zF, zD, zE, zS, zQ, zR, Act.put, zA, zB, zC, e6, e7] at hK' ⊢; (try simp only [wp_at_zero, wp_at_succ]); go_step; exact hK')⟩; refine J.Each.cons (by rfl) ?_ ?_; exact ⟨rfl, fun vs M u hO _ K hK => by (refine wp_alloc_own hO rfl rfl fun b u hO => ?_; exact hK _ _ _ (show J.fresh 29 [.int .i64 0, .slice none 0 0, .slice none 0 0, .slice none 0 0, .slice none 0 0, .slice none 0 0, .int .i64 0, .int .i64 0] _ from ⟨b, rfl⟩) hO)⟩; exact J.Each.nil
        intro vs uz hO hF
        obtain ⟨Q31, Q32, Q33, Q34, Q35, m31, m32, m33, m34, m35, W3, h6, hvo3⟩ : (J.freshVE ra (.string ⟨#[]⟩)) (vs 6) := hF 6 (by decide)
        have h7 : vs 7 = ((vs 6).1, []) := hF 7 (by decide)
        simp only [h6] at h7
        have q8 : J.isFst ((vs 7).1) (vs 8) := hF 8 (by decide)
        rw [h7] at q8
        have h8 := J.isFst_eq q8
        clear q8
        have q9 : J.isSnd ((vs 7).1) (vs 9) := hF 9 (by decide)
        rw [h7] at q9
        have h9 := J.isSnd_eq q9
        clear q9
        obtain ⟨b4, h10⟩ : J.fresh _ _ (vs 10) := hF 10 (by decide)
        clear hF
        simp only [List.flatMap_cons, List.flatMap_nil, h6, h7, h8, h9, h10, List.append_nil, zL, zK] at hO
        simp only [h6, h7, h8, h9, h10, J.putL, zI, zG, zH, J.dstOf, zF, zD, zE, zS, zQ, zR, Act.put, zA, zB, zC]
        clear h6 h7 h8 h9 h10 vs
        refine J.wpAny_one (i := 11) (by kernel_rfl) (by rfl) rfl fun K hK => ?_
        (refine zak hO rfl rfl _ (by exact at9) rfl (by rfl) (by rfl) (by rfl) (by rfl) (by rfl) ?_; clear hO; intro u hO; simp only [zC, zB] at hO; refine hK _ _ ?_; clear hK K)
        refine J.wpAny_one (i := 12) (by kernel_rfl) (by rfl) rfl fun K hK => ?_
        simp only [wp_at_zero, wp_at_succ]
        go_step
        refine hK _ _ ?_
        clear hK K
        refine wpAny_done (by kernel_rfl) ?_ _
        revert Q31 Q32 Q33 Q34 Q35 m31 m32 m33 m34 m35 W3 hvo3 b4 u hO
        try clear uz
        refine ?key9
        rotate_left
        intro vs uz hO hF
        rw [show ([6, 7, 8, 9, 10] : List Nat).erase 9 = [6, 7, 8, 10] from by decide] at hO ⊢
        obtain ⟨Q31, Q32, Q33, Q34, Q35, m31, m32, m33, m34, m35, W3, h6, hvo3⟩ : (J.freshVE ra (.string ⟨#[]⟩)) (vs 6) := hF 6 (by decide) (by decide)
        have h7 : vs 7 = ((vs 6).1, []) := hF 7 (by decide) (by decide)
        simp only [h6] at h7
        have q8 : J.isFst ((vs 7).1) (vs 8) := hF 8 (by decide) (by decide)
        rw [h7] at q8
        have h8 := J.isFst_eq q8
        clear q8
        obtain ⟨b4, h10⟩ : J.fresh _ _ (vs 10) := hF 10 (by decide) (by decide)
        clear hF
        simp only [List.flatMap_cons, List.flatMap_nil, h6, h7, h8, h10, List.append_nil, zL, zK] at hO
        simp only [h6, h7, h8, h10, J.putL, zI, zG, zH, J.dstOf, zF, zD, zE, zS, zQ, zR, Act.put, zA, zB, zC]
        clear h6 h7 h8 h10 vs
        refine wpAny_ready (rs := [9, 11]) (by kernel_rfl) (by simp) ?_
        refine AllReady.cons rfl (fun K hK => ?_) (AllReady.cons rfl (fun K hK => ?_) (AllReady.nil))
        · rw [if_pos (by rfl)]
          simp only [wp_at_zero, wp_at_succ]
          go_step
          refine hK _ _ ?_
          clear hK K
          refine J.wpAny_one (i := 11) (by kernel_rfl) (by rfl) rfl fun K hK => ?_
          (refine zak hO rfl rfl _ (by exact at9) rfl (by rfl) (by rfl) (by rfl) (by rfl) (by rfl) ?_; clear hO; intro u hO; simp only [zC, zB] at hO; refine hK _ _ ?_; clear hK K)
          refine J.wpAny_one (i := 12) (by kernel_rfl) (by rfl) rfl fun K hK => ?_
          simp only [wp_at_zero, wp_at_succ]
          go_step
          refine hK _ _ ?_
          clear hK K
          refine wpAny_done (by kernel_rfl) ?_ _
          revert Q31 Q32 Q33 Q34 Q35 m31 m32 m33 m34 m35 W3 hvo3 b4 u hO
          try clear uz
          exact ?key9
        · rw [if_pos (by rfl)]
          (refine zak hO rfl rfl _ (by exact at9) rfl (by rfl) (by rfl) (by rfl) (by rfl) (by rfl) ?_; clear hO; intro u hO; simp only [zC, zB] at hO; refine hK _ _ ?_; clear hK K)
          refine J.wpAny_one (i := 9) (by kernel_rfl) (by rfl) rfl fun K hK => ?_
          simp only [wp_at_zero, wp_at_succ]
          go_step
          refine hK _ _ ?_
          clear hK K
          refine J.wpAny_one (i := 12) (by kernel_rfl) (by rfl) rfl fun K hK => ?_
          simp only [wp_at_zero, wp_at_succ]
          go_step
          refine hK _ _ ?_
          clear hK K
          refine wpAny_done (by kernel_rfl) ?_ _
          revert Q31 Q32 Q33 Q34 Q35 m31 m32 m33 m34 m35 W3 hvo3 b4 u hO
          try clear uz
          exact ?key9
        intro Q31 Q32 Q33 Q34 Q35 m31 m32 m33 m34 m35 W3 hvo3 b4 u hO
        go_wp2_with (first | (with_reducible refine zam ?_) | ((with_reducible refine zae ?_); refine zal rfl hO rfl ?_; (first | (refine nm 0 rfl ?_; clear hO; intro b0 u hO) | (refine nm 1 rfl ?_; clear hO; intro b1 u hO) | (refine nm 2 rfl ?_; clear hO; intro b2 u hO) | (refine nm 3 rfl ?_; clear hO; intro b3 u hO) | (refine nm 4 rfl ?_; clear hO; intro b4 u hO) | (refine nm 5 rfl ?_; clear hO; intro b5 u hO) | (refine nm 6 rfl ?_; clear hO; intro b6 u hO) | (refine nm 7 rfl ?_; clear hO; intro b7 u hO) | (refine nm 8 rfl ?_; clear hO; intro b8 u hO) | (refine nm 9 rfl ?_; clear hO; intro b9 u hO) | (refine nm 10 rfl ?_; clear hO; intro b10 u hO) | (refine nm 11 rfl ?_; clear hO; intro b11 u hO) | (refine nm 12 rfl ?_; clear hO; intro b12 u hO) | (refine nm 13 rfl ?_; clear hO; intro b13 u hO) | (refine nm 14 rfl ?_; clear hO; intro b14 u hO) | (refine nm 15 rfl ?_; clear hO; intro b15 u hO)); simp only [zL, zK] at hO) | ((with_reducible refine zag ?_); refine zbx rfl hO rfl rfl ?_; (first | (refine nm 0 rfl ?_; clear hO; intro b0 u hO) | (refine nm 1 rfl ?_; clear hO; intro b1 u hO) | (refine nm 2 rfl ?_; clear hO; intro b2 u hO) | (refine nm 3 rfl ?_; clear hO; intro b3 u hO) | (refine nm 4 rfl ?_; clear hO; intro b4 u hO) | (refine nm 5 rfl ?_; clear hO; intro b5 u hO) | (refine nm 6 rfl ?_; clear hO; intro b6 u hO) | (refine nm 7 rfl ?_; clear hO; intro b7 u hO) | (refine nm 8 rfl ?_; clear hO; intro b8 u hO) | (refine nm 9 rfl ?_; clear hO; intro b9 u hO) | (refine nm 10 rfl ?_; clear hO; intro b10 u hO) | (refine nm 11 rfl ?_; clear hO; intro b11 u hO) | (refine nm 12 rfl ?_; clear hO; intro b12 u hO) | (refine nm 13 rfl ?_; clear hO; intro b13 u hO) | (refine nm 14 rfl ?_; clear hO; intro b14 u hO) | (refine nm 15 rfl ?_; clear hO; intro b15 u hO)); simp only [zL, zK] at hO) | ((with_reducible refine zaa ?_); refine zaf rfl (by (first | rfl | (simp only [Region.wanted, yielded, *]; go_simp; done) | (simp [Region.wanted, yielded, *]; done) | fail)) hO rfl _ (by (first | exact at0 | exact at1 | exact at2 | exact at3 | exact at4 | exact at5 | exact at6 | exact at7 | exact at8 | exact at9 | exact at10 | exact at11 | exact at12 | exact at13 | exact at14 | exact at15)) (by rfl) (by simp only [Act.put, zA, zB, zC]; rfl) ?_) | ((with_reducible refine zaa ?_); refine zac rfl (by (first | rfl | (simp only [Region.wanted, yielded, *]; go_simp; done) | (simp [Region.wanted, yielded, *]; done) | fail)) hO rfl _ (by (first | exact at0 | exact at1 | exact at2 | exact at3 | exact at4 | exact at5 | exact at6 | exact at7 | exact at8 | exact at9 | exact at10 | exact at11 | exact at12 | exact at13 | exact at14 | exact at15)) (by rfl) (by simp only [Act.put, zA, zB, zC]; rfl) ?_) | ((with_reducible refine zab ?_); refine zsc rfl hO rfl _ (by (first | exact at0 | exact at1 | exact at2 | exact at3 | exact at4 | exact at5 | exact at6 | exact at7 | exact at8 | exact at9 | exact at10 | exact at11 | exact at12 | exact at13 | exact at14 | exact at15)) ?_; clear hO; intro u hO; simp only [zC, zB] at hO) | ((with_reducible refine zab ?_); refine zsf rfl hO rfl _ (by (first | exact at0 | exact at1 | exact at2 | exact at3 | exact at4 | exact at5 | exact at6 | exact at7 | exact at8 | exact at9 | exact at10 | exact at11 | exact at12 | exact at13 | exact at14 | exact at15)) (zM rfl) ?_; clear hO; intro u hO; simp only [zC, zB] at hO) | fail)
        clear CRa
        refine J.wp_region_e (n := 113) [0, 1, 2, 3, 4, 5] [6, 7, 8, 9, 10] 9 (deps := fun i => [[], [], [], [2], [2, 3], [1, 2, 3, 4], [0, 1, 2, 3, 4, 5], [0, 1, 2, 3, 4, 5, 6], [0, 1, 2, 3, 4, 5, 6, 7], [0, 1, 2, 3, 4, 5, 6, 7], [], [], []].getD i []) (fun i d => [fun _ => True, fun _ => True, fun _ => True, fun _ => True, fun _ => True, fun _ => True, (J.freshVE rb (.string ⟨#[]⟩)), (fun x => x = ((d 6).1, [])), (J.isFst ((d 7).1)), (J.isSnd ((d 7).1)), J.fresh 29 [.int .i64 0, .slice none 0 0, .slice none 0 0, .slice none 0 0, .slice none 0 0, .slice none 0 0, .int .i64 0, .int .i64 0], fun _ => True, fun _ => True].getD i (fun _ => True)) (r := 2) (lst := #[true, true, true, true, true, true, true, true, true, true, true, false, false]) (lst2 := #[true, true, true, true, true, true, true, true, true, false, true, false, false]) (by kernel_rfl) (by kernel_rfl) (by kernel_rfl) (by kernel_rfl) (by kernel_rfl) rfl (by decide) (by kernel_rfl) hO ?_
        refine zcc (f := fun M u hO K hK => by (exact zat hO rfl rfl _ (by exact at5) (by rfl) (by rfl) (hK _ hO))) (h := ?_)
        refine zcp (h := ?_)
        refine zcp (h := ?_)
        refine zcc (f := fun M u hO K hK => by (exact zaj hO rfl rfl _ (by exact at5) (by rfl) (by rfl) (hK _ hO))) (h := ?_)
        refine zcp (h := ?_)
        refine zcp (h := ?_)
        refine J.Chain.nil ⟨?_, ?_, ?_⟩
        · refine J.Each.cons (by rfl) ?_ ?_; exact ⟨rfl, fun vs M u hO _ K hK => by ((try simp only [J.putL, zI, zG, zH, J.dstOf, zF, zD, zE, zS, zQ, zR, Act.put, zA, zB, zC]); (try simp only [wp_at_zero, wp_at_succ]); go_step; refine (CRb _ _ (hO.rdp 3 rfl hvb)).mono ?_; rintro e u ⟨Q41, Q42, Q43, Q44, Q45, m41, m42, m43, m44, m45, W4, rfl, hvo4, hb⟩; have hK' := hK _ _ _ (show (J.freshVE rb (.string ⟨#[]⟩)) _ from ⟨Q41, Q42, Q43, Q44, Q45, m41, m42, m43, m44, m45, W4, rfl, hvo4⟩) ((hO.call hb).perm List.perm_append_comm); clear hK; simp only [J.putL, zI, zG, zH, J.dstOf, zF, zD, zE, zS, zQ, zR, Act.put, zA, zB, zC] at hK'; exact hK')⟩; refine J.Each.cons (by rfl) ?_ ?_; exact ⟨rfl, fun vs M u hO hF K hK => by ((try simp only [J.putL, zI, zG, zH, J.dstOf, zF, zD, zE, zS, zQ, zR, Act.put, zA, zB, zC]); obtain ⟨Q41, Q42, Q43, Q44, Q45, m41, m42, m43, m44, m45, W4, e6, hvo4⟩ := (hF 6 (by decide) (by decide)).1; have hK' := hK (Value.tuple #[.agg #[.int .i64 rb.kind, .slice Q41 rb.items.length m41, .slice Q42 rb.parts.length m42, .slice Q43 rb.names.length m43, .slice Q44 rb.cls.length m44, .slice Q45 rb.levels.length m45, .int .i64 rb.code, .int .i64 rb.env], .string ⟨#[]⟩]) [] u (show (Value.tuple #[.agg #[.int .i64 rb.kind, .slice Q41 rb.items.length m41, .slice Q42 rb.parts.length m42, .slice Q43 rb.names.length m43, .slice Q44 rb.cls.length m44, .slice Q45 rb.levels.length m45, .int .i64 rb.code, .int .i64 rb.env], .string ⟨#[]⟩], ([] : List Res)) = ((vs 6).1, []) from by simp only [e6]) (by rw [List.append_nil]; exact hO); clear hK hF; simp only [J.putL, zI, zG, zH, J.dstOf, zF, zD, zE, zS, zQ, zR, Act.put, zA, zB, zC, e6] at hK' ⊢; (try simp only [wp_at_zero, wp_at_succ]); go_step; exact hK')⟩; refine J.Each.cons (by rfl) ?_ ?_; exact ⟨rfl, fun vs M u hO hF K hK => by ((try simp only [J.putL, zI, zG, zH, J.dstOf, zF, zD, zE, zS, zQ, zR, Act.put, zA, zB, zC]); obtain ⟨Q41, Q42, Q43, Q44, Q45, m41, m42, m43, m44, m45, W4, e6, hvo4⟩ := (hF 6 (by decide) (by decide)).1; have e7 : vs 7 = ((vs 6).1, []) := (hF 7 (by decide) (by decide)).1; simp only [e6] at e7; have hK' := hK (Value.agg #[.int .i64 rb.kind, .slice Q41 rb.items.length m41, .slice Q42 rb.parts.length m42, .slice Q43 rb.names.length m43, .slice Q44 rb.cls.length m44, .slice Q45 rb.levels.length m45, .int .i64 rb.code, .int .i64 rb.env]) [] u (show J.isFst ((vs 7).1) _ from by rw [e7]; exact J.isFst_of) (by rw [List.append_nil]; exact hO); clear hK hF; simp only [J.putL, zI, zG, zH, J.dstOf, zF, zD, zE, zS, zQ, zR, Act.put, zA, zB, zC, e6, e7] at hK' ⊢; (try simp only [wp_at_zero, wp_at_succ]); go_step; exact hK')⟩; refine J.Each.cons (by rfl) ?_ ?_; exact ⟨rfl, fun vs M u hO hF K hK => by ((try simp only [J.putL, zI, zG, zH, J.dstOf, zF, zD, zE, zS, zQ, zR, Act.put, zA, zB, zC]); obtain ⟨Q41, Q42, Q43, Q44, Q45, m41, m42, m43, m44, m45, W4, e6, hvo4⟩ := (hF 6 (by decide) (by decide)).1; have e7 : vs 7 = ((vs 6).1, []) := (hF 7 (by decide) (by decide)).1; simp only [e6] at e7; have hK' := hK (Value.string ⟨#[]⟩) [] u (show J.isSnd ((vs 7).1) _ from by rw [e7]; exact J.isSnd_of) (by rw [List.append_nil]; exact hO); clear hK hF; simp only [J.putL, zI, zG, zH, J.dstOf, zF, zD, zE, zS, zQ, zR, Act.put, zA, zB, zC, e6, e7] at hK' ⊢; (try simp only [wp_at_zero, wp_at_succ]); go_step; exact hK')⟩; refine J.Each.cons (by rfl) ?_ ?_; exact ⟨rfl, fun vs M u hO _ K hK => by (refine wp_alloc_own hO rfl rfl fun b u hO => ?_; exact hK _ _ _ (show J.fresh 29 [.int .i64 0, .slice none 0 0, .slice none 0 0, .slice none 0 0, .slice none 0 0, .slice none 0 0, .int .i64 0, .int .i64 0] _ from ⟨b, rfl⟩) hO)⟩; exact J.Each.nil
        intro vs uz hO hF
        obtain ⟨Q41, Q42, Q43, Q44, Q45, m41, m42, m43, m44, m45, W4, h6, hvo4⟩ : (J.freshVE rb (.string ⟨#[]⟩)) (vs 6) := hF 6 (by decide)
        have h7 : vs 7 = ((vs 6).1, []) := hF 7 (by decide)
        simp only [h6] at h7
        have q8 : J.isFst ((vs 7).1) (vs 8) := hF 8 (by decide)
        rw [h7] at q8
        have h8 := J.isFst_eq q8
        clear q8
        have q9 : J.isSnd ((vs 7).1) (vs 9) := hF 9 (by decide)
        rw [h7] at q9
        have h9 := J.isSnd_eq q9
        clear q9
        obtain ⟨b5, h10⟩ : J.fresh _ _ (vs 10) := hF 10 (by decide)
        clear hF
        simp only [List.flatMap_cons, List.flatMap_nil, h6, h7, h8, h9, h10, List.append_nil, zL, zK] at hO
        simp only [h6, h7, h8, h9, h10, J.putL, zI, zG, zH, J.dstOf, zF, zD, zE, zS, zQ, zR, Act.put, zA, zB, zC]
        clear h6 h7 h8 h9 h10 vs
        refine J.wpAny_one (i := 11) (by kernel_rfl) (by rfl) rfl fun K hK => ?_
        (refine zak hO rfl rfl _ (by exact at11) rfl (by rfl) (by rfl) (by rfl) (by rfl) (by rfl) ?_; clear hO; intro u hO; simp only [zC, zB] at hO; refine hK _ _ ?_; clear hK K)
        refine J.wpAny_one (i := 12) (by kernel_rfl) (by rfl) rfl fun K hK => ?_
        simp only [wp_at_zero, wp_at_succ]
        go_step
        refine hK _ _ ?_
        clear hK K
        refine wpAny_done (by kernel_rfl) ?_ _
        revert Q41 Q42 Q43 Q44 Q45 m41 m42 m43 m44 m45 W4 hvo4 b5 u hO
        try clear uz
        refine ?key10
        rotate_left
        intro vs uz hO hF
        rw [show ([6, 7, 8, 9, 10] : List Nat).erase 9 = [6, 7, 8, 10] from by decide] at hO ⊢
        obtain ⟨Q41, Q42, Q43, Q44, Q45, m41, m42, m43, m44, m45, W4, h6, hvo4⟩ : (J.freshVE rb (.string ⟨#[]⟩)) (vs 6) := hF 6 (by decide) (by decide)
        have h7 : vs 7 = ((vs 6).1, []) := hF 7 (by decide) (by decide)
        simp only [h6] at h7
        have q8 : J.isFst ((vs 7).1) (vs 8) := hF 8 (by decide) (by decide)
        rw [h7] at q8
        have h8 := J.isFst_eq q8
        clear q8
        obtain ⟨b5, h10⟩ : J.fresh _ _ (vs 10) := hF 10 (by decide) (by decide)
        clear hF
        simp only [List.flatMap_cons, List.flatMap_nil, h6, h7, h8, h10, List.append_nil, zL, zK] at hO
        simp only [h6, h7, h8, h10, J.putL, zI, zG, zH, J.dstOf, zF, zD, zE, zS, zQ, zR, Act.put, zA, zB, zC]
        clear h6 h7 h8 h10 vs
        refine wpAny_ready (rs := [9, 11]) (by kernel_rfl) (by simp) ?_
        refine AllReady.cons rfl (fun K hK => ?_) (AllReady.cons rfl (fun K hK => ?_) (AllReady.nil))
        · rw [if_pos (by rfl)]
          simp only [wp_at_zero, wp_at_succ]
          go_step
          refine hK _ _ ?_
          clear hK K
          refine J.wpAny_one (i := 11) (by kernel_rfl) (by rfl) rfl fun K hK => ?_
          (refine zak hO rfl rfl _ (by exact at11) rfl (by rfl) (by rfl) (by rfl) (by rfl) (by rfl) ?_; clear hO; intro u hO; simp only [zC, zB] at hO; refine hK _ _ ?_; clear hK K)
          refine J.wpAny_one (i := 12) (by kernel_rfl) (by rfl) rfl fun K hK => ?_
          simp only [wp_at_zero, wp_at_succ]
          go_step
          refine hK _ _ ?_
          clear hK K
          refine wpAny_done (by kernel_rfl) ?_ _
          revert Q41 Q42 Q43 Q44 Q45 m41 m42 m43 m44 m45 W4 hvo4 b5 u hO
          try clear uz
          exact ?key10
        · rw [if_pos (by rfl)]
          (refine zak hO rfl rfl _ (by exact at11) rfl (by rfl) (by rfl) (by rfl) (by rfl) (by rfl) ?_; clear hO; intro u hO; simp only [zC, zB] at hO; refine hK _ _ ?_; clear hK K)
          refine J.wpAny_one (i := 9) (by kernel_rfl) (by rfl) rfl fun K hK => ?_
          simp only [wp_at_zero, wp_at_succ]
          go_step
          refine hK _ _ ?_
          clear hK K
          refine J.wpAny_one (i := 12) (by kernel_rfl) (by rfl) rfl fun K hK => ?_
          simp only [wp_at_zero, wp_at_succ]
          go_step
          refine hK _ _ ?_
          clear hK K
          refine wpAny_done (by kernel_rfl) ?_ _
          revert Q41 Q42 Q43 Q44 Q45 m41 m42 m43 m44 m45 W4 hvo4 b5 u hO
          try clear uz
          exact ?key10
        intro Q41 Q42 Q43 Q44 Q45 m41 m42 m43 m44 m45 W4 hvo4 b5 u hO
        go_wp2_with (first | ((with_reducible refine zaa ?_); refine zlb rfl hO rfl _ (by (first | exact at9 | exact at11 | fail)) ?_) | fail)
        clear CRb
        refine (C5 _ _ _ (hO.rdp 8 rfl hvo3) (hO.rdp 10 rfl hvo4)).mono ?_
        rintro e u ⟨Q51, Q52, Q53, Q54, Q55, m51, m52, m53, m54, m55, W5, rfl, hvo5, hb⟩
        replace hO := hO.call hb
        clear hb
        simp only [List.cons_append, List.nil_append] at hO
        go_wp2_with (first | ((with_reducible refine zae ?_); refine zal rfl hO rfl ?_; (refine nm 13 rfl ?_; clear hO; intro b13 u hO); simp only [zL, zK] at hO) | ((with_reducible refine zaa ?_); refine zlf rfl hO rfl _ (by (first | exact at8 | exact at13 | fail)) ?_) | ((with_reducible refine zab ?_); refine zsc rfl hO rfl _ (by exact at13) ?_; clear hO; intro u hO; simp only [zC, zB] at hO) | fail)
        have hit2 : X.items.length ≤ 1048576 := by rw [T3.out]; exact hit
        have CQ := fun u h h' => laws_sameItems Q51 Q21 m51 m21 X.items.length r.items.length X.items r.items u h h' hit2 T3.out.symm rfl rfl
        clear hit2 T3
        refine (CQ _ (RdV.slI (hO.rdp 0 rfl hvo5)) (RdV.slI (hO.rdp 1 rfl hvo2))).mono ?_
        rintro e u ⟨rfl, hb⟩
        (replace hO := hO.step hb; clear hb)
        go_wp2_with (first | (with_reducible refine zam ?_) | fail)
        refine ⟨?_⟩
        go_ret
        exact ⟨rfl, hO.below⟩
    · have e1 : ¬ s.toList = [] := fun h => hs (by rw [ByteArray.toList_eq] at h; exact ByteArray.ext (Array.toList_inj.1 (by simpa using h)))
      have e2 : s.toList.isEmpty = false := by simp [e1]
      have e3 : (!s.toList.isEmpty) = true := by simp [e1]
      clear hs HM
      go_wp2_with (first | ((with_reducible refine zaa ?_); refine zlb rfl hO rfl _ (by (first | exact at6 | exact at7 | fail)) ?_) | fail)
      refine (CE _ _ _ (hO.rdp 1 rfl hvo1) (hO.rdp 0 rfl hvo2)).mono ?_
      rintro e u ⟨rfl, hb⟩
      (replace hO := hO.step hb; clear hb)
      go_wp2_with (first | ((with_reducible refine zaa ?_); refine zlb rfl hO rfl _ (by (first | exact at6 | exact at7 | fail)) ?_) | fail)
      refine (CE _ _ _ (hO.rdp 1 rfl hvo1) (hO.rdp 0 rfl hvo2)).mono ?_
      rintro e u ⟨rfl, hb⟩
      (replace hO := hO.step hb; clear hb)
      go_wp2_with (first | (with_reducible refine zam ?_) | fail)
      refine ⟨?_⟩
      go_ret
      exact ⟨rfl, hO.below⟩

end Go.Proofs.Ytmofcbpabdbjlaa
