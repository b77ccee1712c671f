/-
  What is proved: the statement on what is missing in operands (FnMissing).
  Condition: none beyond those of the theorems.
-/
import Derived.Test.YtmofcbpabdbjlaaGreatMz4
import Derived.Test.YtmofcbpabdbjlaaGreatMz16
import Derived.Test.YtmofcbpabdbjlaaGreatMz19
import Derived.Test.YtmofcbpabdbjlaaGreatMz20
import Derived.Test.YtmofcbpabdbjlaaGreatMz34
import Derived.Test.YtmofcbpabdbjlaaGreatMz35
import Derived.Test.YtmofcbpabdbjlaaGreatMz37
import Derived.Test.YtmofcbpabdbjlaaGreatMz38
import Derived.Test.YtmofcbpabdbjlaaGreatMz39
namespace Go.Proofs.YtmofcbpabdbjlaaGreat

set_option maxRecDepth 8000

open Go.RowKit Go.ChangeShapes Go.WideShapes Go.Deep

set_option linter.unusedVariables false

set_option linter.unusedSimpArgs false

theorem RdV.slM {w : World} {t : VT} {A : Option Addr} {n r : Nat} {v0 v2 v3 v4 v5 v6 v7 : Value} (h : RdV w t [v0, .slice A n r, v2, v3, v4, v5, v6, v7]) : Sl w 3 A t.items.length (itc t.items) := by
  cases h with
  | mk hi hp hl hr hn hc hv hcap => exact hi

theorem str_test {s : ByteArray} (h : s ≠ ⟨#[]⟩) : ¬ s.toList = [] ∧ s.toList.isEmpty = false ∧ (!s.toList.isEmpty) = true := by
  have e1 : ¬ s.toList = [] := fun h' => h (by rw [ByteArray.toList_eq] at h'; exact ByteArray.ext (Array.toList_inj.1 (by simpa using h')))
  exact ⟨e1, by simp [e1], by simp [e1]⟩

set_option maxRecDepth 20000 in
set_option maxHeartbeats 8000000 in
theorem fnMissing_walk (v0 : Value) (w : World) (h0 : ArgBytes w v0) : Calls Tryz.prog 3 #[v0] w fun e w' => e = .returned (.bool true) ∧ Below w.heap.size w w' := by
  obtain ⟨A, n, c, rfl, CB | ⟨CB, l, hC⟩⟩ := big_cases h0
  · go_enter Tryz.func3, Tryz.ntmps3
    go_wp2_with fail
    refine (CB _).mono ?_
    rintro e u ⟨rfl, rfl⟩
    go_wp2_with fail
    go_ret
    exact ⟨rfl, Below.refl _ _⟩
  · go_enter Tryz.func3, Tryz.ntmps3
    have hO := Own.nil w
    go_wp2_with fail
    refine (CB _).mono ?_
    rintro e u ⟨rfl, rfl⟩
    go_wp2_with fail
    refine (dw_ar A n c l _ (hC.below hO.below)).mono ?_
    rintro e u ⟨op, v, Fa, v', Fb, rfl, ⟨⟨xka, xia, xpa, xna, xca, xla, xoa, xea, Cia, Cpa, Cna, Cca, Cla, ria, rpa, rna, rca, rla, rfl, hva, hza⟩, ⟨xkb, xib, xpb, xnb, xcb, xlb, xob, xeb, Cib, Cpb, Cnb, Ccb, Clb, rib, rpb, rnb, rcb, rlb, rfl, hvb, hzb⟩⟩, hb⟩
    replace hO := hO.call hb
    simp only [List.cons_append, List.nil_append] at hO
    have HA := Lib.hid (Nat.le_trans hza (show 600000 ≤ 1048576 by decide))
    have HB := Lib.hid (Nat.le_trans hzb (show 600000 ≤ 1048576 by decide))
    clear hb CB hC hza hzb
    have CI := fun va vb u (ha : RdV u (.mk xka xia xpa xna xca xla xoa xea) va) (hb : RdV u (.mk xkb xib xpb xnb xcb xlb xob xeb) vb) => RetVE.ofS (impl_ar op (.mk xka xia xpa xna xca xla xoa xea) (.mk xkb xib xpb xnb xcb xlb xob xeb) va vb u ha hb HA.out HB.out)
    have CS := fun va vb u (ha : RdV u (.mk xka xia xpa xna xca xla xoa xea) va) (hb : RdV u (.mk xkb xib xpb xnb xcb xlb xob xeb) vb) => RetVE.ofS (spec_ar op (.mk xka xia xpa xna xca xla xoa xea) (.mk xkb xib xpb xnb xcb xlb xob xeb) va vb u ha hb HA.out HB.out)
    have CM := fun va vb u (ha : RdV u (.mk xka xia xpa xna xca xla xoa xea) va) (hb : RdV u (.mk xkb xib xpb xnb xcb xlb xob xeb) vb) => RetVE.ofS (impl_cm ltS (.mk xka xia xpa xna xca xla xoa xea) (.mk xkb xib xpb xnb xcb xlb xob xeb) va vb u ha hb HA.out HB.out)
    have CN := fun va vb u (ha : RdV u (.mk xka xia xpa xna xca xla xoa xea) va) (hb : RdV u (.mk xkb xib xpb xnb xcb xlb xob xeb) vb) => RetVE.ofS (spec_cm ltS (.mk xka xia xpa xna xca xla xoa xea) (.mk xkb xib xpb xnb xcb xlb xob xeb) va vb u ha hb HA.out HB.out)
    have HL := Lib.hid (Nat.le_trans (isV_small (arT_ok op (.mk xka xia xpa xna xca xla xoa xea) (.mk xkb xib xpb xnb xcb xlb xob xeb))) (show 341500 ≤ 1048576 by decide))
    have HM := Lib.hid (fun (h : arS op (.mk xka xia xpa xna xca xla xoa xea) (.mk xkb xib xpb xnb xcb xlb xob xeb) = ⟨#[]⟩) (h' : cmS ltS (.mk xka xia xpa xna xca xla xoa xea) (.mk xkb xib xpb xnb xcb xlb xob xeb) = ⟨#[]⟩) => mi_main h h')
    obtain ⟨r, hr⟩ : ∃ r, arT op (.mk xka xia xpa xna xca xla xoa xea) (.mk xkb xib xpb xnb xcb xlb xob xeb) = r := ⟨_, rfl⟩
    obtain ⟨s, hs⟩ : ∃ s, arS op (.mk xka xia xpa xna xca xla xoa xea) (.mk xkb xib xpb xnb xcb xlb xob xeb) = s := ⟨_, rfl⟩
    obtain ⟨q, hq⟩ : ∃ r, cmT ltS (.mk xka xia xpa xna xca xla xoa xea) (.mk xkb xib xpb xnb xcb xlb xob xeb) = r := ⟨_, rfl⟩
    obtain ⟨t, ht⟩ : ∃ s, cmS ltS (.mk xka xia xpa xna xca xla xoa xea) (.mk xkb xib xpb xnb xcb xlb xob xeb) = s := ⟨_, rfl⟩
    rw [hr] at CI CS HL HM
    rw [hs] at CI CS HM
    rw [hq] at CM CN HM
    rw [ht] at CM CN HM
    clear hr hs hq ht
    go_wp2_with (first | ((with_reducible refine zac ?_); refine zal rfl hO rfl ?_; (first | (refine nm 2 rfl ?_; clear hO; intro b2 u hO) | (refine nm 3 rfl ?_; clear hO; intro b3 u hO) | fail); simp only [zL, zK] at hO) | ((with_reducible refine zaa ?_); refine zlb rfl hO rfl _ (by (first | exact at2 | exact at3 | fail)) ?_) | ((with_reducible refine zab ?_); refine zsc rfl hO rfl _ (by (first | exact at2 | exact at3 | fail)) ?_; clear hO; intro u hO; simp only [zC, zB] at hO) | fail)
    refine (CI _ _ _ (hO.rdp 0 rfl hva) (hO.rdp 1 rfl hvb)).mono ?_
    rintro e u ⟨Q11, Q12, Q13, Q14, Q15, m11, m12, m13, m14, m15, W1, rfl, hvo1, hb⟩
    replace hO := hO.call hb
    clear hb
    simp only [List.cons_append, List.nil_append] at hO
    go_wp2_with (first | ((with_reducible refine zac ?_); refine zal rfl hO rfl ?_; (refine nm 5 rfl ?_; clear hO; intro b5 u hO); simp only [zL, zK] at hO) | ((with_reducible refine zaa ?_); refine zlb rfl hO rfl _ (by (first | exact at3 | exact at4 | fail)) ?_) | ((with_reducible refine zab ?_); refine zsc rfl hO rfl _ (by exact at5) ?_; clear hO; intro u hO; simp only [zC, zB] at hO) | fail)
    refine (CM _ _ _ (hO.rdp 1 rfl hva) (hO.rdp 2 rfl hvb)).mono ?_
    rintro e u ⟨Q21, Q22, Q23, Q24, Q25, m21, m22, m23, m24, m25, W2, rfl, hvo2, hb⟩
    replace hO := hO.call hb
    clear hb
    simp only [List.cons_append, List.nil_append] at hO
    go_wp2_with (first | ((with_reducible refine zac ?_); refine zal rfl hO rfl ?_; (refine nm 7 rfl ?_; clear hO; intro b7 u hO); simp only [zL, zK] at hO) | ((with_reducible refine zaa ?_); refine zlb rfl hO rfl _ (by (first | exact at4 | exact at5 | fail)) ?_) | ((with_reducible refine zab ?_); refine zsc rfl hO rfl _ (by exact at7) ?_; clear hO; intro u hO; simp only [zC, zB] at hO) | fail)
    refine (CS _ _ _ (hO.rdp 2 rfl hva) (hO.rdp 3 rfl hvb)).mono ?_
    rintro e u ⟨Q31, Q32, Q33, Q34, Q35, m31, m32, m33, m34, m35, W3, rfl, hvo3, hb⟩
    replace hO := hO.call hb
    clear hb
    simp only [List.cons_append, List.nil_append] at hO
    go_wp2_with (first | ((with_reducible refine zac ?_); refine zal rfl hO rfl ?_; (refine nm 9 rfl ?_; clear hO; intro b9 u hO); simp only [zL, zK] at hO) | ((with_reducible refine zaa ?_); refine zlb rfl hO rfl _ (by (first | exact at5 | exact at6 | fail)) ?_) | ((with_reducible refine zab ?_); refine zsc rfl hO rfl _ (by exact at9) ?_; clear hO; intro u hO; simp only [zC, zB] at hO) | fail)
    refine (CN _ _ _ (hO.rdp 3 rfl hva) (hO.rdp 4 rfl hvb)).mono ?_
    rintro e u ⟨Q41, Q42, Q43, Q44, Q45, m41, m42, m43, m44, m45, W4, rfl, hvo4, hb⟩
    replace hO := hO.call hb
    clear hb
    simp only [List.cons_append, List.nil_append] at hO
    clear CI CS CM CN
    go_upto_region 8 with (first | ((with_reducible refine zac ?_); refine zal rfl hO rfl ?_; (refine nm 11 rfl ?_; clear hO; intro b11 u hO); simp only [zL, zK] at hO) | ((with_reducible refine zab ?_); refine zsc rfl hO rfl _ (by exact at11) ?_; clear hO; intro u hO; simp only [zC, zB] at hO) | fail)
    by_cases hs : s = ⟨#[]⟩
    · subst hs
      by_cases ht : t = ⟨#[]⟩
      · subst ht
        obtain ⟨m1, m2, m3, m4⟩ := HM.out rfl rfl
        have CX := fun va u (h : RdV u r va) => RetVE.ofS (impl_mi r va u h HL.out)
        rw [m1] at CX
        obtain ⟨L, hL⟩ : ∃ L, msT r = L := ⟨_, rfl⟩
        rw [hL] at m2 m4 CX
        have M4 := Lib.hid m4
        have hit : r.items.length ≤ 1048576 := by
          have h1 := HL.out
          have h2 : r.items.length ≤ szV r := by
            obtain ⟨k, is, ps, ns, cs, ls, c, e⟩ := r
            show is.length ≤ szI is + szL ps + szS ns + szS cs + szS ls
            unfold szI
            omega
          omega
        clear HM m1 m4 hL
        go_wp2_with (first | ((with_reducible refine zaa ?_); refine zlb rfl hO rfl _ (by exact at8) ?_) | fail)
        refine (CX _ _ (hO.rdp 3 rfl hvo1)).mono ?_
        rintro e u ⟨Q51, Q52, Q53, Q54, Q55, m51, m52, m53, m54, m55, W5, rfl, hvo5, hb⟩
        replace hO := hO.call hb
        clear hb
        simp only [List.cons_append, List.nil_append] at hO
        clear CX
        have g1 : ((L.items.length : Int) != (r.items.length : Int)) = false := by rw [m2]; simp
        have g2 : ((q.items.length : Int) != (r.items.length : Int)) = false := by rw [m3]; simp
        replace m2 := Lib.hid m2
        replace m3 := Lib.hid m3
        go_upto_region 14 with (first | ((with_reducible refine zac ?_); refine zal rfl hO rfl ?_; (refine nm 13 rfl ?_; clear hO; intro b13 u hO); simp only [zL, zK] at hO) | ((with_reducible refine zaa ?_); refine zlf rfl hO rfl _ (by (first | exact at9 | exact at10 | exact at13 | fail)) ?_) | ((with_reducible refine zab ?_); refine zsc rfl hO rfl _ (by exact at13) ?_; clear hO; intro u hO; simp only [zC, zB] at hO) | fail)
        replace hO := hO.pick [5, 6, 4, 3, 0, 7, 8, 9, 10, 13] (by decide)
        simp only [zN, zO, zE, zD] at hO
        go_loopw [16] (fun i u => ∃ (m : Nat), m ≤ r.items.length ∧ i = .int .i64 m ∧ Own w [pack Fa, pack Fb, pack W1, pack W2, pack W5, box b2 28 [.int .i64 xka, .slice Cia xia.length ria, .slice Cpa xpa.length rpa, .slice Cna xna.length rna, .slice Cca xca.length rca, .slice Cla xla.length rla, .int .i64 xoa, .int .i64 xea], box b3 28 [.int .i64 xkb, .slice Cib xib.length rib, .slice Cpb xpb.length rpb, .slice Cnb xnb.length rnb, .slice Ccb xcb.length rcb, .slice Clb xlb.length rlb, .int .i64 xob, .int .i64 xeb], box b5 28 [.int .i64 r.kind, .slice Q11 r.items.length m11, .slice Q12 r.parts.length m12, .slice Q13 r.names.length m13, .slice Q14 r.cls.length m14, .slice Q15 r.levels.length m15, .int .i64 r.code, .int .i64 r.env], box b7 28 [.int .i64 q.kind, .slice Q21 q.items.length m21, .slice Q22 q.parts.length m22, .slice Q23 q.names.length m23, .slice Q24 q.cls.length m24, .slice Q25 q.levels.length m25, .int .i64 q.code, .int .i64 q.env], box b13 28 [.int .i64 L.kind, .slice Q51 L.items.length m51, .slice Q52 L.parts.length m52, .slice Q53 L.names.length m53, .slice Q54 L.cls.length m54, .slice Q55 L.levels.length m55, .int .i64 L.code, .int .i64 L.env]] u) (fun i _ => r.items.length - (intOf i).toNat)
        case atStart => exact ⟨0, Nat.zero_le _, rfl, hO⟩
        case round =>
          clear hO
          obtain ⟨m, hm, rfl, hO⟩ := hrel
          by_cases hlt : m < r.items.length
          · have hq : m < q.items.length := by rw [m3.out]; exact hlt
            have hl : m < L.items.length := by rw [m2.out]; exact hlt
            obtain ⟨p1, p2, HC⟩ := M4.out m hlt hq hl
            replace p1 : 0 < xia.length := p1
            replace p2 : 0 < xib.length := p2
            have i0 : (0 : Int) ≤ (m : Int) := by omega
            have i1 : (m : Int) < (r.items.length : Int) := by omega
            have i2 : (m : Int) < (q.items.length : Int) := by omega
            have i3 : (m : Int) < (L.items.length : Int) := by omega
            have n1 : ¬ xia.length = 0 := by omega
            have n2 : ¬ xib.length = 0 := by omega
            obtain ⟨ja, hja⟩ : ∃ j, m % xia.length = j := ⟨_, rfl⟩
            obtain ⟨jb, hjb⟩ : ∃ j, m % xib.length = j := ⟨_, rfl⟩
            have a1 : ja < xia.length := by rw [← hja]; exact Nat.mod_lt _ p1
            have a2 : jb < xib.length := by rw [← hjb]; exact Nat.mod_lt _ p2
            have m1 : (m : Int) % (xia.length : Int) = (ja : Int) := by rw [← Int.natCast_emod, hja]
            have m2' : (m : Int) % (xib.length : Int) = (jb : Int) := by rw [← Int.natCast_emod, hjb]
            have t1 : (m : Int).tmod (xia.length : Int) = (ja : Int) := by rw [← hja]; exact (Int.ofNat_tmod _ _).symm
            have t2 : (m : Int).tmod (xib.length : Int) = (jb : Int) := by rw [← hjb]; exact (Int.ofNat_tmod _ _).symm
            have c1 : (ja : Int) < (xia.length : Int) := by omega
            have c2 : (jb : Int) < (xib.length : Int) := by omega
            have c3 : (0 : Int) ≤ (ja : Int) := by omega
            have c4 : (0 : Int) ≤ (jb : Int) := by omega
            replace HC : xia[ja].den = 0 ∨ xib[jb].den = 0 → r.items[m].den = 0 ∧ q.items[m].den = 0 ∧ L.items[m].num = 1 := by
              have h1 := atI_eq hja a1
              have h2 := atI_eq hjb a2
              rw [show VT.items (.mk xka xia xpa xna xca xla xoa xea) = xia from rfl, show VT.items (.mk xkb xib xpb xnb xcb xlb xob xeb) = xib from rfl, h1, h2] at HC
              exact HC
            obtain ⟨x, hx⟩ : ∃ x, xia[ja] = x := ⟨_, rfl⟩
            obtain ⟨y, hy⟩ : ∃ y, xib[jb] = y := ⟨_, rfl⟩
            obtain ⟨z, hz⟩ : ∃ z, r.items[m] = z := ⟨_, rfl⟩
            obtain ⟨z2, hz2⟩ : ∃ z, q.items[m] = z := ⟨_, rfl⟩
            obtain ⟨z3, hz3⟩ : ∃ z, L.items[m] = z := ⟨_, rfl⟩
            obtain ⟨ba, oa, rfl, _, _⟩ := (hO.rdp 0 rfl hva).slM.it (Below.refl _ _) a1 hx
            obtain ⟨bc, oc, rfl, _, _⟩ := (hO.rdp 1 rfl hvb).slM.it (Below.refl _ _) a2 hy
            obtain ⟨bd, od, rfl, _, _⟩ := (hO.rdp 2 rfl hvo1).slM.it (Below.refl _ _) hlt hz
            obtain ⟨be, oe, rfl, _, _⟩ := (hO.rdp 3 rfl hvo2).slM.it (Below.refl _ _) hq hz2
            obtain ⟨bf, of, rfl, _, _⟩ := (hO.rdp 4 rfl hvo5).slM.it (Below.refl _ _) hl hz3
            have CRa := fun u (h : Sl u 3 (some ⟨ba, oa, none⟩) xia.length (itc xia)) => Sl.it2 h rfl a1 hx
            have CRb := fun u (h : Sl u 3 (some ⟨bc, oc, none⟩) xib.length (itc xib)) => Sl.it2 h rfl a2 hy
            have CRc := fun u (h : Sl u 3 (some ⟨bd, od, none⟩) r.items.length (itc r.items)) => Sl.it2 h rfl hlt hz
            have CRd := fun u (h : Sl u 3 (some ⟨be, oe, none⟩) q.items.length (itc q.items)) => Sl.it2 h rfl hq hz2
            have CRe := fun u (h : Sl u 3 (some ⟨bf, of, none⟩) L.items.length (itc L.items)) => Sl.it2 h rfl hl hz3
            rw [hx, hy, hz, hz2, hz3] at HC
            clear hja hjb p1 p2 hx hy hz hz2 hz3 hq hl
            obtain ⟨xan, xad, xat⟩ := x
            obtain ⟨ybn, ybd, ybt⟩ := y
            obtain ⟨zn, zd, zt⟩ := z
            obtain ⟨z2n, z2d, z2t⟩ := z2
            obtain ⟨z3n, z3d, z3t⟩ := z3
            simp only at CRa CRb CRc CRd CRe HC
            by_cases hd1 : xad = 0
            · obtain ⟨q1, q2, q3⟩ := HC (.inl hd1)
              subst hd1 q1 q2 q3
              clear HC
              go_wp2_with (first | ((with_reducible refine zaa ?_); refine zlf rfl hO rfl _ (by exact at7) ?_) | fail)
              refine J.wp_region_t (n := 158) [0, 1, 2, 3, 4, 5, 6, 7, 8, 9, 10, 11, 12, 13, 14, 15, 16, 17, 18, 19, 20, 21, 22, 23, 24, 25, 26, 27, 28, 29, 30, 31, 32, 33, 34, 35, 36, 37, 38, 39, 40, 41, 42, 43, 44, 45, 46, 47, 48, 49, 50] [] [0, 1, 0, 0, 8, 24, 60, 127, 255, 511, 1023, 2047, 4095, 8191, 4095, 4095, 36863, 102399, 249855, 524287, 1048575, 2097151, 4194303, 8388607, 16777215, 33554431, 67108863, 33554431, 268435455, 536870911, 1073741823, 2147483647, 4294967295, 8589934591, 17179869183, 8589934591, 68719476735, 137438953471, 274877906943, 549755813887, 1099511627775, 2199023255551, 4398046511103, 8796093022207, 4398046511103, 35184372088831, 70368744177663, 140737488355327, 281474976710655, 562949953421311, 1125899906842623] (deps := fun i => [[], [0], [], [], [3], [3, 4], [2, 3, 4, 5], [0, 1, 2, 3, 4, 5, 6], [0, 1, 2, 3, 4, 5, 6, 7], [0, 1, 2, 3, 4, 5, 6, 7, 8], [0, 1, 2, 3, 4, 5, 6, 7, 8, 9], [0, 1, 2, 3, 4, 5, 6, 7, 8, 9, 10], [0, 1, 2, 3, 4, 5, 6, 7, 8, 9, 10, 11], [0, 1, 2, 3, 4, 5, 6, 7, 8, 9, 10, 11, 12], [0, 1, 2, 3, 4, 5, 6, 7, 8, 9, 10, 11], [0, 1, 2, 3, 4, 5, 6, 7, 8, 9, 10, 11], [0, 1, 2, 3, 4, 5, 6, 7, 8, 9, 10, 11, 15], [0, 1, 2, 3, 4, 5, 6, 7, 8, 9, 10, 11, 15, 16], [0, 1, 2, 3, 4, 5, 6, 7, 8, 9, 10, 11, 14, 15, 16, 17], [0, 1, 2, 3, 4, 5, 6, 7, 8, 9, 10, 11, 12, 13, 14, 15, 16, 17, 18], [0, 1, 2, 3, 4, 5, 6, 7, 8, 9, 10, 11, 12, 13, 14, 15, 16, 17, 18, 19], [0, 1, 2, 3, 4, 5, 6, 7, 8, 9, 10, 11, 12, 13, 14, 15, 16, 17, 18, 19, 20], [0, 1, 2, 3, 4, 5, 6, 7, 8, 9, 10, 11, 12, 13, 14, 15, 16, 17, 18, 19, 20, 21], [0, 1, 2, 3, 4, 5, 6, 7, 8, 9, 10, 11, 12, 13, 14, 15, 16, 17, 18, 19, 20, 21, 22], [0, 1, 2, 3, 4, 5, 6, 7, 8, 9, 10, 11, 12, 13, 14, 15, 16, 17, 18, 19, 20, 21, 22, 23], [0, 1, 2, 3, 4, 5, 6, 7, 8, 9, 10, 11, 12, 13, 14, 15, 16, 17, 18, 19, 20, 21, 22, 23, 24], [0, 1, 2, 3, 4, 5, 6, 7, 8, 9, 10, 11, 12, 13, 14, 15, 16, 17, 18, 19, 20, 21, 22, 23, 24, 25], [0, 1, 2, 3, 4, 5, 6, 7, 8, 9, 10, 11, 12, 13, 14, 15, 16, 17, 18, 19, 20, 21, 22, 23, 24], [0, 1, 2, 3, 4, 5, 6, 7, 8, 9, 10, 11, 12, 13, 14, 15, 16, 17, 18, 19, 20, 21, 22, 23, 24, 25, 26, 27], [0, 1, 2, 3, 4, 5, 6, 7, 8, 9, 10, 11, 12, 13, 14, 15, 16, 17, 18, 19, 20, 21, 22, 23, 24, 25, 26, 27, 28], [0, 1, 2, 3, 4, 5, 6, 7, 8, 9, 10, 11, 12, 13, 14, 15, 16, 17, 18, 19, 20, 21, 22, 23, 24, 25, 26, 27, 28, 29], [0, 1, 2, 3, 4, 5, 6, 7, 8, 9, 10, 11, 12, 13, 14, 15, 16, 17, 18, 19, 20, 21, 22, 23, 24, 25, 26, 27, 28, 29, 30], [0, 1, 2, 3, 4, 5, 6, 7, 8, 9, 10, 11, 12, 13, 14, 15, 16, 17, 18, 19, 20, 21, 22, 23, 24, 25, 26, 27, 28, 29, 30, 31], [0, 1, 2, 3, 4, 5, 6, 7, 8, 9, 10, 11, 12, 13, 14, 15, 16, 17, 18, 19, 20, 21, 22, 23, 24, 25, 26, 27, 28, 29, 30, 31, 32], [0, 1, 2, 3, 4, 5, 6, 7, 8, 9, 10, 11, 12, 13, 14, 15, 16, 17, 18, 19, 20, 21, 22, 23, 24, 25, 26, 27, 28, 29, 30, 31, 32, 33], [0, 1, 2, 3, 4, 5, 6, 7, 8, 9, 10, 11, 12, 13, 14, 15, 16, 17, 18, 19, 20, 21, 22, 23, 24, 25, 26, 27, 28, 29, 30, 31, 32], [0, 1, 2, 3, 4, 5, 6, 7, 8, 9, 10, 11, 12, 13, 14, 15, 16, 17, 18, 19, 20, 21, 22, 23, 24, 25, 26, 27, 28, 29, 30, 31, 32, 33, 34, 35], [0, 1, 2, 3, 4, 5, 6, 7, 8, 9, 10, 11, 12, 13, 14, 15, 16, 17, 18, 19, 20, 21, 22, 23, 24, 25, 26, 27, 28, 29, 30, 31, 32, 33, 34, 35, 36], [0, 1, 2, 3, 4, 5, 6, 7, 8, 9, 10, 11, 12, 13, 14, 15, 16, 17, 18, 19, 20, 21, 22, 23, 24, 25, 26, 27, 28, 29, 30, 31, 32, 33, 34, 35, 36, 37], [0, 1, 2, 3, 4, 5, 6, 7, 8, 9, 10, 11, 12, 13, 14, 15, 16, 17, 18, 19, 20, 21, 22, 23, 24, 25, 26, 27, 28, 29, 30, 31, 32, 33, 34, 35, 36, 37, 38], [0, 1, 2, 3, 4, 5, 6, 7, 8, 9, 10, 11, 12, 13, 14, 15, 16, 17, 18, 19, 20, 21, 22, 23, 24, 25, 26, 27, 28, 29, 30, 31, 32, 33, 34, 35, 36, 37, 38, 39], [0, 1, 2, 3, 4, 5, 6, 7, 8, 9, 10, 11, 12, 13, 14, 15, 16, 17, 18, 19, 20, 21, 22, 23, 24, 25, 26, 27, 28, 29, 30, 31, 32, 33, 34, 35, 36, 37, 38, 39, 40], [0, 1, 2, 3, 4, 5, 6, 7, 8, 9, 10, 11, 12, 13, 14, 15, 16, 17, 18, 19, 20, 21, 22, 23, 24, 25, 26, 27, 28, 29, 30, 31, 32, 33, 34, 35, 36, 37, 38, 39, 40, 41], [0, 1, 2, 3, 4, 5, 6, 7, 8, 9, 10, 11, 12, 13, 14, 15, 16, 17, 18, 19, 20, 21, 22, 23, 24, 25, 26, 27, 28, 29, 30, 31, 32, 33, 34, 35, 36, 37, 38, 39, 40, 41, 42], [0, 1, 2, 3, 4, 5, 6, 7, 8, 9, 10, 11, 12, 13, 14, 15, 16, 17, 18, 19, 20, 21, 22, 23, 24, 25, 26, 27, 28, 29, 30, 31, 32, 33, 34, 35, 36, 37, 38, 39, 40, 41], [0, 1, 2, 3, 4, 5, 6, 7, 8, 9, 10, 11, 12, 13, 14, 15, 16, 17, 18, 19, 20, 21, 22, 23, 24, 25, 26, 27, 28, 29, 30, 31, 32, 33, 34, 35, 36, 37, 38, 39, 40, 41, 42, 43, 44], [0, 1, 2, 3, 4, 5, 6, 7, 8, 9, 10, 11, 12, 13, 14, 15, 16, 17, 18, 19, 20, 21, 22, 23, 24, 25, 26, 27, 28, 29, 30, 31, 32, 33, 34, 35, 36, 37, 38, 39, 40, 41, 42, 43, 44, 45], [0, 1, 2, 3, 4, 5, 6, 7, 8, 9, 10, 11, 12, 13, 14, 15, 16, 17, 18, 19, 20, 21, 22, 23, 24, 25, 26, 27, 28, 29, 30, 31, 32, 33, 34, 35, 36, 37, 38, 39, 40, 41, 42, 43, 44, 45, 46], [0, 1, 2, 3, 4, 5, 6, 7, 8, 9, 10, 11, 12, 13, 14, 15, 16, 17, 18, 19, 20, 21, 22, 23, 24, 25, 26, 27, 28, 29, 30, 31, 32, 33, 34, 35, 36, 37, 38, 39, 40, 41, 42, 43, 44, 45, 46, 47], [0, 1, 2, 3, 4, 5, 6, 7, 8, 9, 10, 11, 12, 13, 14, 15, 16, 17, 18, 19, 20, 21, 22, 23, 24, 25, 26, 27, 28, 29, 30, 31, 32, 33, 34, 35, 36, 37, 38, 39, 40, 41, 42, 43, 44, 45, 46, 47, 48], [0, 1, 2, 3, 4, 5, 6, 7, 8, 9, 10, 11, 12, 13, 14, 15, 16, 17, 18, 19, 20, 21, 22, 23, 24, 25, 26, 27, 28, 29, 30, 31, 32, 33, 34, 35, 36, 37, 38, 39, 40, 41, 42, 43, 44, 45, 46, 47, 48, 49]].getD i []) (fun _ _ _ => True) (r := 0) (lst := #[true, true, true, true, true, true, true, true, true, true, true, true, true, true, true, true, true, true, true, true, true, true, true, true, true, true, true, true, true, true, true, true, true, true, true, true, true, true, true, true, true, true, true, true, true, true, true, true, true, true, true]) (by kernel_rfl) (by kernel_rfl) (by kernel_rfl) rfl (by decide) (by kernel_rfl) hO ?_
              refine zcp (h := ?_)
              refine zcc (f := fun M u hO K hK => by (exact zae hO rfl rfl _ (by exact at5) (by rfl) (by rfl) (hK _ hO))) (h := ?_)
              refine zcp (h := ?_)
              refine zcp (h := ?_)
              refine zcc (f := fun M u hO K hK => by (exact zae hO rfl rfl _ (by exact at5) (by rfl) (by rfl) (hK _ hO))) (h := ?_)
              refine zcp (h := ?_)
              refine zcp (h := ?_)
              refine zcp (h := ?_)
              refine zcp (h := ?_)
              refine zcc (f := fun M u hO K hK => by ((have f1 := CRa _ (hO.rdp 0 rfl hva).slM; have f2 := CRb _ (hO.rdp 1 rfl hvb).slM; have f3 := CRc _ (hO.rdp 2 rfl hvo1).slM; have f4 := CRd _ (hO.rdp 3 rfl hvo2).slM; have f5 := CRe _ (hO.rdp 4 rfl hvo5).slM; obtain ⟨e0, e1, e2⟩ := f1; obtain ⟨e3, e4, e5⟩ := f2; obtain ⟨g0, g1, g2⟩ := f3; obtain ⟨g3, g4, g5⟩ := f4; obtain ⟨g6, g7, g8⟩ := f5; simp only [wp_at_zero, wp_at_succ]; go_step; exact hK _ hO))) (h := ?_)
              refine zcp (h := ?_)
              refine zcp (h := ?_)
              refine zck (h := ?_)
              refine zck (h := ?_)
              refine zck (h := ?_)
              refine zck (h := ?_)
              refine zck (h := ?_)
              refine zck (h := ?_)
              refine zck (h := ?_)
              refine zck (h := ?_)
              refine zck (h := ?_)
              refine zck (h := ?_)
              refine zck (h := ?_)
              refine zcp (h := ?_)
              refine zcp (h := ?_)
              refine zcp (h := ?_)
              refine zcc (f := fun M u hO K hK => by (exact zae hO rfl rfl _ (by exact at7) (by rfl) (by rfl) (hK _ hO))) (h := ?_)
              refine zcp (h := ?_)
              refine zcp (h := ?_)
              refine zcp (h := ?_)
              refine zcc (f := fun M u hO K hK => by ((have f1 := CRa _ (hO.rdp 0 rfl hva).slM; have f2 := CRb _ (hO.rdp 1 rfl hvb).slM; have f3 := CRc _ (hO.rdp 2 rfl hvo1).slM; have f4 := CRd _ (hO.rdp 3 rfl hvo2).slM; have f5 := CRe _ (hO.rdp 4 rfl hvo5).slM; obtain ⟨e0, e1, e2⟩ := f1; obtain ⟨e3, e4, e5⟩ := f2; obtain ⟨g0, g1, g2⟩ := f3; obtain ⟨g3, g4, g5⟩ := f4; obtain ⟨g6, g7, g8⟩ := f5; simp only [wp_at_zero, wp_at_succ]; go_step; exact hK _ hO))) (h := ?_)
              refine zcp (h := ?_)
              refine zcp (h := ?_)
              refine zcp (h := ?_)
              refine zcc (f := fun M u hO K hK => by (exact zae hO rfl rfl _ (by exact at8) (by rfl) (by rfl) (hK _ hO))) (h := ?_)
              refine zcp (h := ?_)
              refine zcp (h := ?_)
              refine zcp (h := ?_)
              refine zcc (f := fun M u hO K hK => by ((have f1 := CRa _ (hO.rdp 0 rfl hva).slM; have f2 := CRb _ (hO.rdp 1 rfl hvb).slM; have f3 := CRc _ (hO.rdp 2 rfl hvo1).slM; have f4 := CRd _ (hO.rdp 3 rfl hvo2).slM; have f5 := CRe _ (hO.rdp 4 rfl hvo5).slM; obtain ⟨e0, e1, e2⟩ := f1; obtain ⟨e3, e4, e5⟩ := f2; obtain ⟨g0, g1, g2⟩ := f3; obtain ⟨g3, g4, g5⟩ := f4; obtain ⟨g6, g7, g8⟩ := f5; simp only [wp_at_zero, wp_at_succ]; go_step; exact hK _ hO))) (h := ?_)
              refine zcp (h := ?_)
              refine zcp (h := ?_)
              refine zcp (h := ?_)
              refine zcp (h := ?_)
              refine zcc (f := fun M u hO K hK => by (exact zae hO rfl rfl _ (by exact at9) (by rfl) (by rfl) (hK _ hO))) (h := ?_)
              refine zcp (h := ?_)
              refine zcp (h := ?_)
              refine zcp (h := ?_)
              refine zcc (f := fun M u hO K hK => by ((have f1 := CRa _ (hO.rdp 0 rfl hva).slM; have f2 := CRb _ (hO.rdp 1 rfl hvb).slM; have f3 := CRc _ (hO.rdp 2 rfl hvo1).slM; have f4 := CRd _ (hO.rdp 3 rfl hvo2).slM; have f5 := CRe _ (hO.rdp 4 rfl hvo5).slM; obtain ⟨e0, e1, e2⟩ := f1; obtain ⟨e3, e4, e5⟩ := f2; obtain ⟨g0, g1, g2⟩ := f3; obtain ⟨g3, g4, g5⟩ := f4; obtain ⟨g6, g7, g8⟩ := f5; simp only [wp_at_zero, wp_at_succ]; go_step; exact hK _ hO))) (h := ?_)
              refine zcp (h := ?_)
              refine zcp (h := ?_)
              refine zcp (h := ?_)
              refine J.Chain.nil ⟨?_, ?_⟩
              · exact J.Each.nil
              intro vs u hO hF
              clear hF
              simp only [List.flatMap_cons, List.flatMap_nil, List.append_nil, zL, zK] at hO
              simp only [J.putL]
              clear vs
              refine wpAny_done (by kernel_rfl) ?_ _
              go_wp2_with fail
              go_roundw
              case rel => exact ⟨m + 1, by omega, by go_num, hO⟩
              case measure => simp [intOf]; omega
            · have d1 : (xad == 0) = false := by simpa using hd1
              by_cases hd2 : ybd = 0
              · obtain ⟨q1, q2, q3⟩ := HC (.inr hd2)
                subst hd2 q1 q2 q3
                clear HC
                go_wp2_with (first | ((with_reducible refine zaa ?_); refine zlf rfl hO rfl _ (by exact at7) ?_) | fail)
                refine J.wp_region_t (n := 158) [0, 1, 2, 3, 4, 5, 6, 7, 8, 9, 10, 11, 12, 13, 14, 15, 16, 17, 18, 19, 20, 21, 22, 23, 24, 25, 26, 27, 28, 29, 30, 31, 32, 33, 34, 35, 36, 37, 38, 39, 40, 41, 42, 43, 44, 45, 46, 47, 48, 49, 50] [] [0, 1, 0, 0, 8, 24, 60, 127, 255, 511, 1023, 2047, 4095, 8191, 4095, 4095, 36863, 102399, 249855, 524287, 1048575, 2097151, 4194303, 8388607, 16777215, 33554431, 67108863, 33554431, 268435455, 536870911, 1073741823, 2147483647, 4294967295, 8589934591, 17179869183, 8589934591, 68719476735, 137438953471, 274877906943, 549755813887, 1099511627775, 2199023255551, 4398046511103, 8796093022207, 4398046511103, 35184372088831, 70368744177663, 140737488355327, 281474976710655, 562949953421311, 1125899906842623] (deps := fun i => [[], [0], [], [], [3], [3, 4], [2, 3, 4, 5], [0, 1, 2, 3, 4, 5, 6], [0, 1, 2, 3, 4, 5, 6, 7], [0, 1, 2, 3, 4, 5, 6, 7, 8], [0, 1, 2, 3, 4, 5, 6, 7, 8, 9], [0, 1, 2, 3, 4, 5, 6, 7, 8, 9, 10], [0, 1, 2, 3, 4, 5, 6, 7, 8, 9, 10, 11], [0, 1, 2, 3, 4, 5, 6, 7, 8, 9, 10, 11, 12], [0, 1, 2, 3, 4, 5, 6, 7, 8, 9, 10, 11], [0, 1, 2, 3, 4, 5, 6, 7, 8, 9, 10, 11], [0, 1, 2, 3, 4, 5, 6, 7, 8, 9, 10, 11, 15], [0, 1, 2, 3, 4, 5, 6, 7, 8, 9, 10, 11, 15, 16], [0, 1, 2, 3, 4, 5, 6, 7, 8, 9, 10, 11, 14, 15, 16, 17], [0, 1, 2, 3, 4, 5, 6, 7, 8, 9, 10, 11, 12, 13, 14, 15, 16, 17, 18], [0, 1, 2, 3, 4, 5, 6, 7, 8, 9, 10, 11, 12, 13, 14, 15, 16, 17, 18, 19], [0, 1, 2, 3, 4, 5, 6, 7, 8, 9, 10, 11, 12, 13, 14, 15, 16, 17, 18, 19, 20], [0, 1, 2, 3, 4, 5, 6, 7, 8, 9, 10, 11, 12, 13, 14, 15, 16, 17, 18, 19, 20, 21], [0, 1, 2, 3, 4, 5, 6, 7, 8, 9, 10, 11, 12, 13, 14, 15, 16, 17, 18, 19, 20, 21, 22], [0, 1, 2, 3, 4, 5, 6, 7, 8, 9, 10, 11, 12, 13, 14, 15, 16, 17, 18, 19, 20, 21, 22, 23], [0, 1, 2, 3, 4, 5, 6, 7, 8, 9, 10, 11, 12, 13, 14, 15, 16, 17, 18, 19, 20, 21, 22, 23, 24], [0, 1, 2, 3, 4, 5, 6, 7, 8, 9, 10, 11, 12, 13, 14, 15, 16, 17, 18, 19, 20, 21, 22, 23, 24, 25], [0, 1, 2, 3, 4, 5, 6, 7, 8, 9, 10, 11, 12, 13, 14, 15, 16, 17, 18, 19, 20, 21, 22, 23, 24], [0, 1, 2, 3, 4, 5, 6, 7, 8, 9, 10, 11, 12, 13, 14, 15, 16, 17, 18, 19, 20, 21, 22, 23, 24, 25, 26, 27], [0, 1, 2, 3, 4, 5, 6, 7, 8, 9, 10, 11, 12, 13, 14, 15, 16, 17, 18, 19, 20, 21, 22, 23, 24, 25, 26, 27, 28], [0, 1, 2, 3, 4, 5, 6, 7, 8, 9, 10, 11, 12, 13, 14, 15, 16, 17, 18, 19, 20, 21, 22, 23, 24, 25, 26, 27, 28, 29], [0, 1, 2, 3, 4, 5, 6, 7, 8, 9, 10, 11, 12, 13, 14, 15, 16, 17, 18, 19, 20, 21, 22, 23, 24, 25, 26, 27, 28, 29, 30], [0, 1, 2, 3, 4, 5, 6, 7, 8, 9, 10, 11, 12, 13, 14, 15, 16, 17, 18, 19, 20, 21, 22, 23, 24, 25, 26, 27, 28, 29, 30, 31], [0, 1, 2, 3, 4, 5, 6, 7, 8, 9, 10, 11, 12, 13, 14, 15, 16, 17, 18, 19, 20, 21, 22, 23, 24, 25, 26, 27, 28, 29, 30, 31, 32], [0, 1, 2, 3, 4, 5, 6, 7, 8, 9, 10, 11, 12, 13, 14, 15, 16, 17, 18, 19, 20, 21, 22, 23, 24, 25, 26, 27, 28, 29, 30, 31, 32, 33], [0, 1, 2, 3, 4, 5, 6, 7, 8, 9, 10, 11, 12, 13, 14, 15, 16, 17, 18, 19, 20, 21, 22, 23, 24, 25, 26, 27, 28, 29, 30, 31, 32], [0, 1, 2, 3, 4, 5, 6, 7, 8, 9, 10, 11, 12, 13, 14, 15, 16, 17, 18, 19, 20, 21, 22, 23, 24, 25, 26, 27, 28, 29, 30, 31, 32, 33, 34, 35], [0, 1, 2, 3, 4, 5, 6, 7, 8, 9, 10, 11, 12, 13, 14, 15, 16, 17, 18, 19, 20, 21, 22, 23, 24, 25, 26, 27, 28, 29, 30, 31, 32, 33, 34, 35, 36], [0, 1, 2, 3, 4, 5, 6, 7, 8, 9, 10, 11, 12, 13, 14, 15, 16, 17, 18, 19, 20, 21, 22, 23, 24, 25, 26, 27, 28, 29, 30, 31, 32, 33, 34, 35, 36, 37], [0, 1, 2, 3, 4, 5, 6, 7, 8, 9, 10, 11, 12, 13, 14, 15, 16, 17, 18, 19, 20, 21, 22, 23, 24, 25, 26, 27, 28, 29, 30, 31, 32, 33, 34, 35, 36, 37, 38], [0, 1, 2, 3, 4, 5, 6, 7, 8, 9, 10, 11, 12, 13, 14, 15, 16, 17, 18, 19, 20, 21, 22, 23, 24, 25, 26, 27, 28, 29, 30, 31, 32, 33, 34, 35, 36, 37, 38, 39], [0, 1, 2, 3, 4, 5, 6, 7, 8, 9, 10, 11, 12, 13, 14, 15, 16, 17, 18, 19, 20, 21, 22, 23, 24, 25, 26, 27, 28, 29, 30, 31, 32, 33, 34, 35, 36, 37, 38, 39, 40], [0, 1, 2, 3, 4, 5, 6, 7, 8, 9, 10, 11, 12, 13, 14, 15, 16, 17, 18, 19, 20, 21, 22, 23, 24, 25, 26, 27, 28, 29, 30, 31, 32, 33, 34, 35, 36, 37, 38, 39, 40, 41], [0, 1, 2, 3, 4, 5, 6, 7, 8, 9, 10, 11, 12, 13, 14, 15, 16, 17, 18, 19, 20, 21, 22, 23, 24, 25, 26, 27, 28, 29, 30, 31, 32, 33, 34, 35, 36, 37, 38, 39, 40, 41, 42], [0, 1, 2, 3, 4, 5, 6, 7, 8, 9, 10, 11, 12, 13, 14, 15, 16, 17, 18, 19, 20, 21, 22, 23, 24, 25, 26, 27, 28, 29, 30, 31, 32, 33, 34, 35, 36, 37, 38, 39, 40, 41], [0, 1, 2, 3, 4, 5, 6, 7, 8, 9, 10, 11, 12, 13, 14, 15, 16, 17, 18, 19, 20, 21, 22, 23, 24, 25, 26, 27, 28, 29, 30, 31, 32, 33, 34, 35, 36, 37, 38, 39, 40, 41, 42, 43, 44], [0, 1, 2, 3, 4, 5, 6, 7, 8, 9, 10, 11, 12, 13, 14, 15, 16, 17, 18, 19, 20, 21, 22, 23, 24, 25, 26, 27, 28, 29, 30, 31, 32, 33, 34, 35, 36, 37, 38, 39, 40, 41, 42, 43, 44, 45], [0, 1, 2, 3, 4, 5, 6, 7, 8, 9, 10, 11, 12, 13, 14, 15, 16, 17, 18, 19, 20, 21, 22, 23, 24, 25, 26, 27, 28, 29, 30, 31, 32, 33, 34, 35, 36, 37, 38, 39, 40, 41, 42, 43, 44, 45, 46], [0, 1, 2, 3, 4, 5, 6, 7, 8, 9, 10, 11, 12, 13, 14, 15, 16, 17, 18, 19, 20, 21, 22, 23, 24, 25, 26, 27, 28, 29, 30, 31, 32, 33, 34, 35, 36, 37, 38, 39, 40, 41, 42, 43, 44, 45, 46, 47], [0, 1, 2, 3, 4, 5, 6, 7, 8, 9, 10, 11, 12, 13, 14, 15, 16, 17, 18, 19, 20, 21, 22, 23, 24, 25, 26, 27, 28, 29, 30, 31, 32, 33, 34, 35, 36, 37, 38, 39, 40, 41, 42, 43, 44, 45, 46, 47, 48], [0, 1, 2, 3, 4, 5, 6, 7, 8, 9, 10, 11, 12, 13, 14, 15, 16, 17, 18, 19, 20, 21, 22, 23, 24, 25, 26, 27, 28, 29, 30, 31, 32, 33, 34, 35, 36, 37, 38, 39, 40, 41, 42, 43, 44, 45, 46, 47, 48, 49]].getD i []) (fun _ _ _ => True) (r := 0) (lst := #[true, true, true, true, true, true, true, true, true, true, true, true, true, true, true, true, true, true, true, true, true, true, true, true, true, true, true, true, true, true, true, true, true, true, true, true, true, true, true, true, true, true, true, true, true, true, true, true, true, true, true]) (by kernel_rfl) (by kernel_rfl) (by kernel_rfl) rfl (by decide) (by kernel_rfl) hO ?_
                refine zcp (h := ?_)
                refine zcc (f := fun M u hO K hK => by (exact zae hO rfl rfl _ (by exact at5) (by rfl) (by rfl) (hK _ hO))) (h := ?_)
                refine zcp (h := ?_)
                refine zcp (h := ?_)
                refine zcc (f := fun M u hO K hK => by (exact zae hO rfl rfl _ (by exact at5) (by rfl) (by rfl) (hK _ hO))) (h := ?_)
                refine zcp (h := ?_)
                refine zcp (h := ?_)
                refine zcp (h := ?_)
                refine zcp (h := ?_)
                refine zcc (f := fun M u hO K hK => by ((have f1 := CRa _ (hO.rdp 0 rfl hva).slM; have f2 := CRb _ (hO.rdp 1 rfl hvb).slM; have f3 := CRc _ (hO.rdp 2 rfl hvo1).slM; have f4 := CRd _ (hO.rdp 3 rfl hvo2).slM; have f5 := CRe _ (hO.rdp 4 rfl hvo5).slM; obtain ⟨e0, e1, e2⟩ := f1; obtain ⟨e3, e4, e5⟩ := f2; obtain ⟨g0, g1, g2⟩ := f3; obtain ⟨g3, g4, g5⟩ := f4; obtain ⟨g6, g7, g8⟩ := f5; simp only [wp_at_zero, wp_at_succ]; go_step; exact hK _ hO))) (h := ?_)
                refine zcp (h := ?_)
                refine zcp (h := ?_)
                refine zcp (h := ?_)
                refine zcc (f := fun M u hO K hK => by (exact zae hO rfl rfl _ (by exact at6) (by rfl) (by rfl) (hK _ hO))) (h := ?_)
                refine zcp (h := ?_)
                refine zcp (h := ?_)
                refine zcc (f := fun M u hO K hK => by (exact zae hO rfl rfl _ (by exact at6) (by rfl) (by rfl) (hK _ hO))) (h := ?_)
                refine zcp (h := ?_)
                refine zcp (h := ?_)
                refine zcp (h := ?_)
                refine zcp (h := ?_)
                refine zcc (f := fun M u hO K hK => by ((have f1 := CRa _ (hO.rdp 0 rfl hva).slM; have f2 := CRb _ (hO.rdp 1 rfl hvb).slM; have f3 := CRc _ (hO.rdp 2 rfl hvo1).slM; have f4 := CRd _ (hO.rdp 3 rfl hvo2).slM; have f5 := CRe _ (hO.rdp 4 rfl hvo5).slM; obtain ⟨e0, e1, e2⟩ := f1; obtain ⟨e3, e4, e5⟩ := f2; obtain ⟨g0, g1, g2⟩ := f3; obtain ⟨g3, g4, g5⟩ := f4; obtain ⟨g6, g7, g8⟩ := f5; simp only [wp_at_zero, wp_at_succ]; go_step; exact hK _ hO))) (h := ?_)
                refine zcp (h := ?_)
                refine zcp (h := ?_)
                refine zcp (h := ?_)
                refine zcp (h := ?_)
                refine zcc (f := fun M u hO K hK => by (exact zae hO rfl rfl _ (by exact at7) (by rfl) (by rfl) (hK _ hO))) (h := ?_)
                refine zcp (h := ?_)
                refine zcp (h := ?_)
                refine zcp (h := ?_)
                refine zcc (f := fun M u hO K hK => by ((have f1 := CRa _ (hO.rdp 0 rfl hva).slM; have f2 := CRb _ (hO.rdp 1 rfl hvb).slM; have f3 := CRc _ (hO.rdp 2 rfl hvo1).slM; have f4 := CRd _ (hO.rdp 3 rfl hvo2).slM; have f5 := CRe _ (hO.rdp 4 rfl hvo5).slM; obtain ⟨e0, e1, e2⟩ := f1; obtain ⟨e3, e4, e5⟩ := f2; obtain ⟨g0, g1, g2⟩ := f3; obtain ⟨g3, g4, g5⟩ := f4; obtain ⟨g6, g7, g8⟩ := f5; simp only [wp_at_zero, wp_at_succ]; go_step; exact hK _ hO))) (h := ?_)
                refine zcp (h := ?_)
                refine zcp (h := ?_)
                refine zcp (h := ?_)
                refine zcc (f := fun M u hO K hK => by (exact zae hO rfl rfl _ (by exact at8) (by rfl) (by rfl) (hK _ hO))) (h := ?_)
                refine zcp (h := ?_)
                refine zcp (h := ?_)
                refine zcp (h := ?_)
                refine zcc (f := fun M u hO K hK => by ((have f1 := CRa _ (hO.rdp 0 rfl hva).slM; have f2 := CRb _ (hO.rdp 1 rfl hvb).slM; have f3 := CRc _ (hO.rdp 2 rfl hvo1).slM; have f4 := CRd _ (hO.rdp 3 rfl hvo2).slM; have f5 := CRe _ (hO.rdp 4 rfl hvo5).slM; obtain ⟨e0, e1, e2⟩ := f1; obtain ⟨e3, e4, e5⟩ := f2; obtain ⟨g0, g1, g2⟩ := f3; obtain ⟨g3, g4, g5⟩ := f4; obtain ⟨g6, g7, g8⟩ := f5; simp only [wp_at_zero, wp_at_succ]; go_step; exact hK _ hO))) (h := ?_)
                refine zcp (h := ?_)
                refine zcp (h := ?_)
                refine zcp (h := ?_)
                refine zcp (h := ?_)
                refine zcc (f := fun M u hO K hK => by (exact zae hO rfl rfl _ (by exact at9) (by rfl) (by rfl) (hK _ hO))) (h := ?_)
                refine zcp (h := ?_)
                refine zcp (h := ?_)
                refine zcp (h := ?_)
                refine zcc (f := fun M u hO K hK => by ((have f1 := CRa _ (hO.rdp 0 rfl hva).slM; have f2 := CRb _ (hO.rdp 1 rfl hvb).slM; have f3 := CRc _ (hO.rdp 2 rfl hvo1).slM; have f4 := CRd _ (hO.rdp 3 rfl hvo2).slM; have f5 := CRe _ (hO.rdp 4 rfl hvo5).slM; obtain ⟨e0, e1, e2⟩ := f1; obtain ⟨e3, e4, e5⟩ := f2; obtain ⟨g0, g1, g2⟩ := f3; obtain ⟨g3, g4, g5⟩ := f4; obtain ⟨g6, g7, g8⟩ := f5; simp only [wp_at_zero, wp_at_succ]; go_step; exact hK _ hO))) (h := ?_)
                refine zcp (h := ?_)
                refine zcp (h := ?_)
                refine zcp (h := ?_)
                refine J.Chain.nil ⟨?_, ?_⟩
                · exact J.Each.nil
                intro vs u hO hF
                clear hF
                simp only [List.flatMap_cons, List.flatMap_nil, List.append_nil, zL, zK] at hO
                simp only [J.putL]
                clear vs
                refine wpAny_done (by kernel_rfl) ?_ _
                go_wp2_with fail
                go_roundw
                case rel => exact ⟨m + 1, by omega, by go_num, hO⟩
                case measure => simp [intOf]; omega
              · have d2 : (ybd == 0) = false := by simpa using hd2
                clear HC
                go_wp2_with (first | ((with_reducible refine zaa ?_); refine zlf rfl hO rfl _ (by exact at7) ?_) | fail)
                refine J.wp_region_t (n := 158) [0, 1, 2, 3, 4, 5, 6, 7, 8, 9, 10, 11, 12, 13, 14, 15, 16, 17, 18, 19, 20, 21, 22, 23, 24, 25, 26, 27, 28, 29, 30, 31, 32, 33, 34, 35, 36, 37, 38, 39, 40, 41, 42, 43, 44, 45, 46, 47, 48, 49, 50] [] [0, 1, 0, 0, 8, 24, 60, 127, 255, 511, 1023, 2047, 4095, 8191, 4095, 4095, 36863, 102399, 249855, 524287, 1048575, 2097151, 4194303, 8388607, 16777215, 33554431, 67108863, 33554431, 268435455, 536870911, 1073741823, 2147483647, 4294967295, 8589934591, 17179869183, 8589934591, 68719476735, 137438953471, 274877906943, 549755813887, 1099511627775, 2199023255551, 4398046511103, 8796093022207, 4398046511103, 35184372088831, 70368744177663, 140737488355327, 281474976710655, 562949953421311, 1125899906842623] (deps := fun i => [[], [0], [], [], [3], [3, 4], [2, 3, 4, 5], [0, 1, 2, 3, 4, 5, 6], [0, 1, 2, 3, 4, 5, 6, 7], [0, 1, 2, 3, 4, 5, 6, 7, 8], [0, 1, 2, 3, 4, 5, 6, 7, 8, 9], [0, 1, 2, 3, 4, 5, 6, 7, 8, 9, 10], [0, 1, 2, 3, 4, 5, 6, 7, 8, 9, 10, 11], [0, 1, 2, 3, 4, 5, 6, 7, 8, 9, 10, 11, 12], [0, 1, 2, 3, 4, 5, 6, 7, 8, 9, 10, 11], [0, 1, 2, 3, 4, 5, 6, 7, 8, 9, 10, 11], [0, 1, 2, 3, 4, 5, 6, 7, 8, 9, 10, 11, 15], [0, 1, 2, 3, 4, 5, 6, 7, 8, 9, 10, 11, 15, 16], [0, 1, 2, 3, 4, 5, 6, 7, 8, 9, 10, 11, 14, 15, 16, 17], [0, 1, 2, 3, 4, 5, 6, 7, 8, 9, 10, 11, 12, 13, 14, 15, 16, 17, 18], [0, 1, 2, 3, 4, 5, 6, 7, 8, 9, 10, 11, 12, 13, 14, 15, 16, 17, 18, 19], [0, 1, 2, 3, 4, 5, 6, 7, 8, 9, 10, 11, 12, 13, 14, 15, 16, 17, 18, 19, 20], [0, 1, 2, 3, 4, 5, 6, 7, 8, 9, 10, 11, 12, 13, 14, 15, 16, 17, 18, 19, 20, 21], [0, 1, 2, 3, 4, 5, 6, 7, 8, 9, 10, 11, 12, 13, 14, 15, 16, 17, 18, 19, 20, 21, 22], [0, 1, 2, 3, 4, 5, 6, 7, 8, 9, 10, 11, 12, 13, 14, 15, 16, 17, 18, 19, 20, 21, 22, 23], [0, 1, 2, 3, 4, 5, 6, 7, 8, 9, 10, 11, 12, 13, 14, 15, 16, 17, 18, 19, 20, 21, 22, 23, 24], [0, 1, 2, 3, 4, 5, 6, 7, 8, 9, 10, 11, 12, 13, 14, 15, 16, 17, 18, 19, 20, 21, 22, 23, 24, 25], [0, 1, 2, 3, 4, 5, 6, 7, 8, 9, 10, 11, 12, 13, 14, 15, 16, 17, 18, 19, 20, 21, 22, 23, 24], [0, 1, 2, 3, 4, 5, 6, 7, 8, 9, 10, 11, 12, 13, 14, 15, 16, 17, 18, 19, 20, 21, 22, 23, 24, 25, 26, 27], [0, 1, 2, 3, 4, 5, 6, 7, 8, 9, 10, 11, 12, 13, 14, 15, 16, 17, 18, 19, 20, 21, 22, 23, 24, 25, 26, 27, 28], [0, 1, 2, 3, 4, 5, 6, 7, 8, 9, 10, 11, 12, 13, 14, 15, 16, 17, 18, 19, 20, 21, 22, 23, 24, 25, 26, 27, 28, 29], [0, 1, 2, 3, 4, 5, 6, 7, 8, 9, 10, 11, 12, 13, 14, 15, 16, 17, 18, 19, 20, 21, 22, 23, 24, 25, 26, 27, 28, 29, 30], [0, 1, 2, 3, 4, 5, 6, 7, 8, 9, 10, 11, 12, 13, 14, 15, 16, 17, 18, 19, 20, 21, 22, 23, 24, 25, 26, 27, 28, 29, 30, 31], [0, 1, 2, 3, 4, 5, 6, 7, 8, 9, 10, 11, 12, 13, 14, 15, 16, 17, 18, 19, 20, 21, 22, 23, 24, 25, 26, 27, 28, 29, 30, 31, 32], [0, 1, 2, 3, 4, 5, 6, 7, 8, 9, 10, 11, 12, 13, 14, 15, 16, 17, 18, 19, 20, 21, 22, 23, 24, 25, 26, 27, 28, 29, 30, 31, 32, 33], [0, 1, 2, 3, 4, 5, 6, 7, 8, 9, 10, 11, 12, 13, 14, 15, 16, 17, 18, 19, 20, 21, 22, 23, 24, 25, 26, 27, 28, 29, 30, 31, 32], [0, 1, 2, 3, 4, 5, 6, 7, 8, 9, 10, 11, 12, 13, 14, 15, 16, 17, 18, 19, 20, 21, 22, 23, 24, 25, 26, 27, 28, 29, 30, 31, 32, 33, 34, 35], [0, 1, 2, 3, 4, 5, 6, 7, 8, 9, 10, 11, 12, 13, 14, 15, 16, 17, 18, 19, 20, 21, 22, 23, 24, 25, 26, 27, 28, 29, 30, 31, 32, 33, 34, 35, 36], [0, 1, 2, 3, 4, 5, 6, 7, 8, 9, 10, 11, 12, 13, 14, 15, 16, 17, 18, 19, 20, 21, 22, 23, 24, 25, 26, 27, 28, 29, 30, 31, 32, 33, 34, 35, 36, 37], [0, 1, 2, 3, 4, 5, 6, 7, 8, 9, 10, 11, 12, 13, 14, 15, 16, 17, 18, 19, 20, 21, 22, 23, 24, 25, 26, 27, 28, 29, 30, 31, 32, 33, 34, 35, 36, 37, 38], [0, 1, 2, 3, 4, 5, 6, 7, 8, 9, 10, 11, 12, 13, 14, 15, 16, 17, 18, 19, 20, 21, 22, 23, 24, 25, 26, 27, 28, 29, 30, 31, 32, 33, 34, 35, 36, 37, 38, 39], [0, 1, 2, 3, 4, 5, 6, 7, 8, 9, 10, 11, 12, 13, 14, 15, 16, 17, 18, 19, 20, 21, 22, 23, 24, 25, 26, 27, 28, 29, 30, 31, 32, 33, 34, 35, 36, 37, 38, 39, 40], [0, 1, 2, 3, 4, 5, 6, 7, 8, 9, 10, 11, 12, 13, 14, 15, 16, 17, 18, 19, 20, 21, 22, 23, 24, 25, 26, 27, 28, 29, 30, 31, 32, 33, 34, 35, 36, 37, 38, 39, 40, 41], [0, 1, 2, 3, 4, 5, 6, 7, 8, 9, 10, 11, 12, 13, 14, 15, 16, 17, 18, 19, 20, 21, 22, 23, 24, 25, 26, 27, 28, 29, 30, 31, 32, 33, 34, 35, 36, 37, 38, 39, 40, 41, 42], [0, 1, 2, 3, 4, 5, 6, 7, 8, 9, 10, 11, 12, 13, 14, 15, 16, 17, 18, 19, 20, 21, 22, 23, 24, 25, 26, 27, 28, 29, 30, 31, 32, 33, 34, 35, 36, 37, 38, 39, 40, 41], [0, 1, 2, 3, 4, 5, 6, 7, 8, 9, 10, 11, 12, 13, 14, 15, 16, 17, 18, 19, 20, 21, 22, 23, 24, 25, 26, 27, 28, 29, 30, 31, 32, 33, 34, 35, 36, 37, 38, 39, 40, 41, 42, 43, 44], [0, 1, 2, 3, 4, 5, 6, 7, 8, 9, 10, 11, 12, 13, 14, 15, 16, 17, 18, 19, 20, 21, 22, 23, 24, 25, 26, 27, 28, 29, 30, 31, 32, 33, 34, 35, 36, 37, 38, 39, 40, 41, 42, 43, 44, 45], [0, 1, 2, 3, 4, 5, 6, 7, 8, 9, 10, 11, 12, 13, 14, 15, 16, 17, 18, 19, 20, 21, 22, 23, 24, 25, 26, 27, 28, 29, 30, 31, 32, 33, 34, 35, 36, 37, 38, 39, 40, 41, 42, 43, 44, 45, 46], [0, 1, 2, 3, 4, 5, 6, 7, 8, 9, 10, 11, 12, 13, 14, 15, 16, 17, 18, 19, 20, 21, 22, 23, 24, 25, 26, 27, 28, 29, 30, 31, 32, 33, 34, 35, 36, 37, 38, 39, 40, 41, 42, 43, 44, 45, 46, 47], [0, 1, 2, 3, 4, 5, 6, 7, 8, 9, 10, 11, 12, 13, 14, 15, 16, 17, 18, 19, 20, 21, 22, 23, 24, 25, 26, 27, 28, 29, 30, 31, 32, 33, 34, 35, 36, 37, 38, 39, 40, 41, 42, 43, 44, 45, 46, 47, 48], [0, 1, 2, 3, 4, 5, 6, 7, 8, 9, 10, 11, 12, 13, 14, 15, 16, 17, 18, 19, 20, 21, 22, 23, 24, 25, 26, 27, 28, 29, 30, 31, 32, 33, 34, 35, 36, 37, 38, 39, 40, 41, 42, 43, 44, 45, 46, 47, 48, 49]].getD i []) (fun _ _ _ => True) (r := 0) (lst := #[true, true, true, true, true, true, true, true, true, true, true, true, true, true, true, true, true, true, true, true, true, true, true, true, true, true, true, true, true, true, true, true, true, true, true, true, true, true, true, true, true, true, true, true, true, true, true, true, true, true, true]) (by kernel_rfl) (by kernel_rfl) (by kernel_rfl) rfl (by decide) (by kernel_rfl) hO ?_
                refine zcp (h := ?_)
                refine zcc (f := fun M u hO K hK => by (exact zae hO rfl rfl _ (by exact at5) (by rfl) (by rfl) (hK _ hO))) (h := ?_)
                refine zcp (h := ?_)
                refine zcp (h := ?_)
                refine zcc (f := fun M u hO K hK => by (exact zae hO rfl rfl _ (by exact at5) (by rfl) (by rfl) (hK _ hO))) (h := ?_)
                refine zcp (h := ?_)
                refine zcp (h := ?_)
                refine zcp (h := ?_)
                refine zcp (h := ?_)
                refine zcc (f := fun M u hO K hK => by ((have f1 := CRa _ (hO.rdp 0 rfl hva).slM; have f2 := CRb _ (hO.rdp 1 rfl hvb).slM; have f3 := CRc _ (hO.rdp 2 rfl hvo1).slM; have f4 := CRd _ (hO.rdp 3 rfl hvo2).slM; have f5 := CRe _ (hO.rdp 4 rfl hvo5).slM; obtain ⟨e0, e1, e2⟩ := f1; obtain ⟨e3, e4, e5⟩ := f2; obtain ⟨g0, g1, g2⟩ := f3; obtain ⟨g3, g4, g5⟩ := f4; obtain ⟨g6, g7, g8⟩ := f5; simp only [wp_at_zero, wp_at_succ]; go_step; exact hK _ hO))) (h := ?_)
                refine zcp (h := ?_)
                refine zcp (h := ?_)
                refine zcp (h := ?_)
                refine zcc (f := fun M u hO K hK => by (exact zae hO rfl rfl _ (by exact at6) (by rfl) (by rfl) (hK _ hO))) (h := ?_)
                refine zcp (h := ?_)
                refine zcp (h := ?_)
                refine zcc (f := fun M u hO K hK => by (exact zae hO rfl rfl _ (by exact at6) (by rfl) (by rfl) (hK _ hO))) (h := ?_)
                refine zcp (h := ?_)
                refine zcp (h := ?_)
                refine zcp (h := ?_)
                refine zcp (h := ?_)
                refine zcc (f := fun M u hO K hK => by ((have f1 := CRa _ (hO.rdp 0 rfl hva).slM; have f2 := CRb _ (hO.rdp 1 rfl hvb).slM; have f3 := CRc _ (hO.rdp 2 rfl hvo1).slM; have f4 := CRd _ (hO.rdp 3 rfl hvo2).slM; have f5 := CRe _ (hO.rdp 4 rfl hvo5).slM; obtain ⟨e0, e1, e2⟩ := f1; obtain ⟨e3, e4, e5⟩ := f2; obtain ⟨g0, g1, g2⟩ := f3; obtain ⟨g3, g4, g5⟩ := f4; obtain ⟨g6, g7, g8⟩ := f5; simp only [wp_at_zero, wp_at_succ]; go_step; exact hK _ hO))) (h := ?_)
                refine zcp (h := ?_)
                refine zcp (h := ?_)
                refine zcp (h := ?_)
                refine zck (h := ?_)
                refine zck (h := ?_)
                refine zck (h := ?_)
                refine zck (h := ?_)
                refine zck (h := ?_)
                refine zck (h := ?_)
                refine zck (h := ?_)
                refine zck (h := ?_)
                refine zck (h := ?_)
                refine zck (h := ?_)
                refine zck (h := ?_)
                refine zck (h := ?_)
                refine zck (h := ?_)
                refine zck (h := ?_)
                refine zck (h := ?_)
                refine zck (h := ?_)
                refine zck (h := ?_)
                refine zck (h := ?_)
                refine zck (h := ?_)
                refine zck (h := ?_)
                refine zck (h := ?_)
                refine zck (h := ?_)
                refine zck (h := ?_)
                refine zck (h := ?_)
                refine zck (h := ?_)
                refine zcp (h := ?_)
                refine J.Chain.nil ⟨?_, ?_⟩
                · exact J.Each.nil
                intro vs u hO hF
                clear hF
                simp only [List.flatMap_cons, List.flatMap_nil, List.append_nil, zL, zK] at hO
                simp only [J.putL]
                clear vs
                refine wpAny_done (by kernel_rfl) ?_ _
                go_wp2_with fail
                go_roundw
                case rel => exact ⟨m + 1, by omega, by go_num, hO⟩
                case measure => simp [intOf]; omega
          · have e : m = r.items.length := by omega
            subst e
            go_wp2_with (first | (with_reducible refine zaq ?_) | ((with_reducible refine zaa ?_); refine zlf rfl hO rfl _ (by exact at7) ?_) | fail)
            refine ⟨?_⟩
            go_ret
            exact ⟨rfl, hO.below⟩
      · obtain ⟨e1, e2, e3⟩ := str_test ht
        clear ht HM
        go_wp2_with (first | (with_reducible refine zaq ?_) | fail)
        refine ⟨?_⟩
        go_ret
        exact ⟨rfl, hO.below⟩
    · obtain ⟨e1, e2, e3⟩ := str_test hs
      clear hs HM
      go_wp2_with (first | (with_reducible refine zaq ?_) | fail)
      refine ⟨?_⟩
      go_ret
      exact ⟨rfl, hO.below⟩

end Go.Proofs.YtmofcbpabdbjlaaGreat
