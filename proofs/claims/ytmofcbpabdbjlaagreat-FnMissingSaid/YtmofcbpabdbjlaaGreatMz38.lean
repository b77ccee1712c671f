/-
  What is proved: what the program's MissingIn returns.
  Condition: vectors of size at most 1048576.
-/
import Derived.Test.YtmofcbpabdbjlaaGreatMz4
import Derived.Test.YtmofcbpabdbjlaaGreatMz14
namespace Go.Proofs.YtmofcbpabdbjlaaGreat

set_option maxRecDepth 8000

open Go.RowKit Go.ChangeShapes Go.WideShapes Go.Deep

set_option linter.unusedVariables false

set_option linter.unusedSimpArgs false

set_option maxRecDepth 20000 in
set_option maxHeartbeats 4000000 in
theorem impl_mi (t : VT) (vs : List Value) (w : World) (hv : RdV w t vs) (hz : szV t ≤ 1048576) : Calls Tryz.prog 10 #[.agg vs.toArray] w (RetVS (msT t) (msS t) w) := by
  have CA := fun u (hb : Below w.heap.size w u) => impl_isVec t _ u (hv.grow hb) hz
  obtain ⟨k, is, ps, ns, cs, ls, c, e⟩ := t
  have HE : Hid (msT (.mk k is ps ns cs ls c e) = if isV (.mk k is ps ns cs ls c e) then vecN 1 ((msB (.mk k is ps ns cs ls c e)).map msI) ns else vecI 0 []) := Lib.hid rfl
  have HS : Hid (msS (.mk k is ps ns cs ls c e) = if isV (.mk k is ps ns cs ls c e) then ⟨#[]⟩ else badS) := Lib.hid rfl
  obtain ⟨q, hq⟩ : ∃ q, isV (.mk k is ps ns cs ls c e) = q := ⟨_, rfl⟩
  rw [hq] at CA HE HS
  obtain ⟨Ai, Ap, An, Ac, Al, ci, cp, cn, cc, cl, pvs, rfl, h1, h2, h3, h4, h5⟩ := hv.open
  have hnz : ns.length ≤ 1048576 := by
    unfold szV szS at hz
    omega
  have hiz : is.length ≤ 1048576 := by
    unfold szV szI at hz
    omega
  obtain ⟨hzp, hzn⟩ := szV_parts hz
  clear hv hz hq
  cases q with
  | false =>
    have HF : Hid (msT (.mk k is ps ns cs ls c e) = vecI 0 []) := Lib.hid (by rw [HE.out]; rfl)
    have HG : Hid (msS (.mk k is ps ns cs ls c e) = badS) := Lib.hid (by rw [HS.out]; rfl)
    go_enter Tryz.func10, Tryz.ntmps10
    have hO := Own.nil w
    go_wp2_with (first | ((with_reducible refine (CA _ hO.below).mono ?_); rintro e u ⟨rfl, hb⟩; (first | (replace hO := hO.step hb; clear hb) | subst hb)) | ((with_reducible refine zac ?_); refine zal rfl hO rfl ?_; (first | (refine nm 0 rfl ?_; clear hO; intro b0 u hO) | (refine nm 1 rfl ?_; clear hO; intro b1 u hO) | (refine nm 2 rfl ?_; clear hO; intro b2 u hO) | (refine nm 3 rfl ?_; clear hO; intro b3 u hO)); simp only [zL, zK] at hO) | ((with_reducible refine zad ?_); refine zbx rfl hO rfl rfl ?_; (first | (refine nm 0 rfl ?_; clear hO; intro b0 u hO) | (refine nm 1 rfl ?_; clear hO; intro b1 u hO) | (refine nm 2 rfl ?_; clear hO; intro b2 u hO) | (refine nm 3 rfl ?_; clear hO; intro b3 u hO)); simp only [zL, zK] at hO) | ((with_reducible refine zaa ?_); refine zay rfl (by (first | rfl | (simp only [Region.wanted, yielded, *]; go_simp; done) | (simp [Region.wanted, yielded, *]; done) | fail)) hO rfl _ (by (first | exact at0 | exact at1 | exact at2 | exact at3)) (by rfl) (by simp only [Act.put, zA, zB, zC]; rfl) ?_) | ((with_reducible refine zaa ?_); refine zag rfl (by (first | rfl | (simp only [Region.wanted, yielded, *]; go_simp; done) | (simp [Region.wanted, yielded, *]; done) | fail)) hO rfl _ (by (first | exact at0 | exact at1 | exact at2 | exact at3)) (by rfl) (by simp only [Act.put, zA, zB, zC]; rfl) ?_) | ((with_reducible refine zab ?_); refine zsb rfl hO rfl _ (by (first | exact at0 | exact at1 | exact at2 | exact at3)) rfl ?_; clear hO; intro u hO; simp only [zC, zB] at hO) | ((with_reducible refine zab ?_); refine zsf rfl hO rfl _ (by (first | exact at0 | exact at1 | exact at2 | exact at3)) (zM rfl) ?_; clear hO; intro u hO; simp only [zC, zB] at hO) | ((with_reducible refine wpl_call ?_); refine wpList_append_str hO rfl (by rfl) rfl rfl _ (by (first | exact at0 | exact at1 | exact at2 | exact at3)) (by omega) rfl (fun A' c' => by simp only [Act.put, zA, zB, zC]; rfl) ?_; clear hO; intro A' c' u hO; simp only [zC, zB] at hO) | ((with_reducible refine wpl_call ?_); refine wpList_append_lit hO rfl (by rfl) rfl rfl _ (by (first | exact at0 | exact at1 | exact at2 | exact at3)) (by rfl) (by simp [Value.oneCell']) (by omega) (by omega) rfl (fun A' c' => by simp only [Act.put, zA, zB, zC]; rfl) ?_; clear hO; intro A' c' u hO; simp only [zC, zB] at hO) | fail)
    obtain ⟨F, hvo, hF⟩ := Own.vec0 u 0
    exact zau rfl hO rfl 1 at1 rfl rfl rfl ⟨_, _, by rw [HG.out]; rfl, by rw [HF.out]; exact hvo, (hO.call hF).pick [0] (by decide)⟩
  | true =>
  have HG : Hid (msS (.mk k is ps ns cs ls c e) = ⟨#[]⟩) := Lib.hid (by rw [HS.out]; rfl)
  have S := fun u (hb : Below w.heap.size w u) => zbe An cn ns u (h3.below hb) hnz
  by_cases hk : k = 5
  · subst hk
    have HF : Hid (msT (.mk 5 is ps ns cs ls c e) = vecN 1 [msI false] ns) := Lib.hid (by rw [HE.out]; rfl)
    clear HE HS h1 h2
    go_enter Tryz.func10, Tryz.ntmps10
    have hO := Own.nil w
    go_wp2_with (first | ((with_reducible refine (CA _ hO.below).mono ?_); rintro e u ⟨rfl, hb⟩; (first | (replace hO := hO.step hb; clear hb) | subst hb)) | ((with_reducible refine zac ?_); refine zal rfl hO rfl ?_; (first | (refine nm 0 rfl ?_; clear hO; intro b0 u hO) | (refine nm 1 rfl ?_; clear hO; intro b1 u hO) | (refine nm 2 rfl ?_; clear hO; intro b2 u hO) | (refine nm 3 rfl ?_; clear hO; intro b3 u hO) | (refine nm 4 rfl ?_; clear hO; intro b4 u hO) | (refine nm 5 rfl ?_; clear hO; intro b5 u hO) | (refine nm 6 rfl ?_; clear hO; intro b6 u hO)); simp only [zL, zK] at hO) | ((with_reducible refine zad ?_); refine zbx rfl hO rfl rfl ?_; (first | (refine nm 0 rfl ?_; clear hO; intro b0 u hO) | (refine nm 1 rfl ?_; clear hO; intro b1 u hO) | (refine nm 2 rfl ?_; clear hO; intro b2 u hO) | (refine nm 3 rfl ?_; clear hO; intro b3 u hO) | (refine nm 4 rfl ?_; clear hO; intro b4 u hO) | (refine nm 5 rfl ?_; clear hO; intro b5 u hO) | (refine nm 6 rfl ?_; clear hO; intro b6 u hO)); simp only [zL, zK] at hO) | ((with_reducible refine zaa ?_); refine zay rfl (by (first | rfl | (simp only [Region.wanted, yielded, *]; go_simp; done) | (simp [Region.wanted, yielded, *]; done) | fail)) hO rfl _ (by (first | exact at0 | exact at1 | exact at2 | exact at3 | exact at4 | exact at5 | exact at6)) (by rfl) (by simp only [Act.put, zA, zB, zC]; rfl) ?_) | ((with_reducible refine zaa ?_); refine zag rfl (by (first | rfl | (simp only [Region.wanted, yielded, *]; go_simp; done) | (simp [Region.wanted, yielded, *]; done) | fail)) hO rfl _ (by (first | exact at0 | exact at1 | exact at2 | exact at3 | exact at4 | exact at5 | exact at6)) (by rfl) (by simp only [Act.put, zA, zB, zC]; rfl) ?_) | ((with_reducible refine zab ?_); refine zsb rfl hO rfl _ (by (first | exact at0 | exact at1 | exact at2 | exact at3 | exact at4 | exact at5 | exact at6)) rfl ?_; clear hO; intro u hO; simp only [zC, zB] at hO) | ((with_reducible refine zab ?_); refine zsf rfl hO rfl _ (by (first | exact at0 | exact at1 | exact at2 | exact at3 | exact at4 | exact at5 | exact at6)) (zM rfl) ?_; clear hO; intro u hO; simp only [zC, zB] at hO) | fail)
    clear CA
    refine (S _ hO.below).mono ?_
    rintro e u ⟨N', d', rfl, hb⟩
    replace hO := hO.call hb
    clear hb
    simp only [zK, zL] at hO
    go_wp2_with (first | ((with_reducible refine (impl_boolItem _ _).mono ?_); rintro e u ⟨rfl, hb⟩; (first | (replace hO := hO.step hb; clear hb) | subst hb)) | ((with_reducible refine zac ?_); refine zal rfl hO rfl ?_; (first | (refine nm 0 rfl ?_; clear hO; intro b0 u hO) | (refine nm 1 rfl ?_; clear hO; intro b1 u hO) | (refine nm 2 rfl ?_; clear hO; intro b2 u hO) | (refine nm 3 rfl ?_; clear hO; intro b3 u hO) | (refine nm 4 rfl ?_; clear hO; intro b4 u hO) | (refine nm 5 rfl ?_; clear hO; intro b5 u hO) | (refine nm 6 rfl ?_; clear hO; intro b6 u hO)); simp only [zL, zK] at hO) | ((with_reducible refine zad ?_); refine zbx rfl hO rfl rfl ?_; (first | (refine nm 0 rfl ?_; clear hO; intro b0 u hO) | (refine nm 1 rfl ?_; clear hO; intro b1 u hO) | (refine nm 2 rfl ?_; clear hO; intro b2 u hO) | (refine nm 3 rfl ?_; clear hO; intro b3 u hO) | (refine nm 4 rfl ?_; clear hO; intro b4 u hO) | (refine nm 5 rfl ?_; clear hO; intro b5 u hO) | (refine nm 6 rfl ?_; clear hO; intro b6 u hO)); simp only [zL, zK] at hO) | ((with_reducible refine zaa ?_); refine zay rfl (by (first | rfl | (simp only [Region.wanted, yielded, *]; go_simp; done) | (simp [Region.wanted, yielded, *]; done) | fail)) hO rfl _ (by (first | exact at0 | exact at1 | exact at2 | exact at3 | exact at4 | exact at5 | exact at6)) (by rfl) (by simp only [Act.put, zA, zB, zC]; rfl) ?_) | ((with_reducible refine zaa ?_); refine zag rfl (by (first | rfl | (simp only [Region.wanted, yielded, *]; go_simp; done) | (simp [Region.wanted, yielded, *]; done) | fail)) hO rfl _ (by (first | exact at0 | exact at1 | exact at2 | exact at3 | exact at4 | exact at5 | exact at6)) (by rfl) (by simp only [Act.put, zA, zB, zC]; rfl) ?_) | ((with_reducible refine zab ?_); refine zsb rfl hO rfl _ (by (first | exact at0 | exact at1 | exact at2 | exact at3 | exact at4 | exact at5 | exact at6)) rfl ?_; clear hO; intro u hO; simp only [zC, zB] at hO) | ((with_reducible refine zab ?_); refine zsf rfl hO rfl _ (by (first | exact at0 | exact at1 | exact at2 | exact at3 | exact at4 | exact at5 | exact at6)) (zM rfl) ?_; clear hO; intro u hO; simp only [zC, zB] at hO) | ((with_reducible refine zao ?_); refine zaw (cs := [.int .i64 0, .int .i64 1, .string ⟨#[]⟩]) hO rfl (by rfl) (by simp only [Act.eval, zJ, zF, zD, zE, zP]; rfl) rfl rfl (zM rfl) rfl (fun b => by simp only [Act.put, zA, zB, zC]; rfl) ?_; clear hO; intro bb u hO; simp only [zL, zK] at hO) | ((with_reducible refine za2 ?_); refine zav hO rfl (by rfl) rfl rfl _ (by (first | exact at0 | exact at1 | exact at2 | exact at3 | exact at4 | exact at5 | exact at6 | exact at7)) _ (by (first | exact at0 | exact at1 | exact at2 | exact at3 | exact at4 | exact at5 | exact at6 | exact at7)) (by rfl) (by simp [Value.oneCell']) (by omega) (by omega) rfl (fun A' c' => by simp only [Act.put, zA, zB, zC]; rfl) ?_; clear hO; intro A' c' u hO; simp only [zC, zB] at hO) | fail)
    have hR := hO.pick [4, 0] (by decide)
    simp only [List.filterMap_cons, List.filterMap_nil, List.getElem?_cons_zero, List.getElem?_cons_succ] at hR
    replace hR := hR.box_row 3 1 rfl (by decide)
    refine zau rfl hO rfl 2 at2 rfl rfl rfl ?_
    clear hO
    obtain ⟨F, hvo, hF⟩ := Own.vecN (is := [msI false]) hR 1
    exact ⟨_, _, by rw [HG.out]; rfl, by rw [HF.out]; exact hvo, hF⟩
  · have HF : Hid (msT (.mk k is ps ns cs ls c e) = vecN 1 (is.map (fun x => msI (misB x)) ++ ps.map (fun x => msI (misP x))) ns) := Lib.hid (by
      rw [HE.out, if_pos rfl]
      rw [show msB (.mk k is ps ns cs ls c e) = is.map misB ++ ps.map misP from if_neg hk, List.map_append, List.map_map, List.map_map]
      rfl)
    have HP := Lib.hid hzp
    have q5 : (k == 5) = false := by simpa using hk
    clear HE HS hk
    go_enter Tryz.func10, Tryz.ntmps10
    have hO := Own.nil w
    go_wp2_with (first | ((with_reducible refine (CA _ hO.below).mono ?_); rintro e u ⟨rfl, hb⟩; (first | (replace hO := hO.step hb; clear hb) | subst hb)) | ((with_reducible refine zac ?_); refine zal rfl hO rfl ?_; (first | (refine nm 0 rfl ?_; clear hO; intro b0 u hO) | (refine nm 1 rfl ?_; clear hO; intro b1 u hO) | (refine nm 2 rfl ?_; clear hO; intro b2 u hO) | (refine nm 3 rfl ?_; clear hO; intro b3 u hO) | (refine nm 4 rfl ?_; clear hO; intro b4 u hO) | (refine nm 5 rfl ?_; clear hO; intro b5 u hO) | (refine nm 6 rfl ?_; clear hO; intro b6 u hO) | (refine nm 7 rfl ?_; clear hO; intro b7 u hO) | (refine nm 8 rfl ?_; clear hO; intro b8 u hO)); simp only [zL, zK] at hO) | ((with_reducible refine zad ?_); refine zbx rfl hO rfl rfl ?_; (first | (refine nm 0 rfl ?_; clear hO; intro b0 u hO) | (refine nm 1 rfl ?_; clear hO; intro b1 u hO) | (refine nm 2 rfl ?_; clear hO; intro b2 u hO) | (refine nm 3 rfl ?_; clear hO; intro b3 u hO) | (refine nm 4 rfl ?_; clear hO; intro b4 u hO) | (refine nm 5 rfl ?_; clear hO; intro b5 u hO) | (refine nm 6 rfl ?_; clear hO; intro b6 u hO) | (refine nm 7 rfl ?_; clear hO; intro b7 u hO) | (refine nm 8 rfl ?_; clear hO; intro b8 u hO)); simp only [zL, zK] at hO) | ((with_reducible refine zaa ?_); refine zay rfl (by (first | rfl | (simp only [Region.wanted, yielded, *]; go_simp; done) | (simp [Region.wanted, yielded, *]; done) | fail)) hO rfl _ (by (first | exact at0 | exact at1 | exact at2 | exact at3 | exact at4 | exact at5 | exact at6 | exact at7 | exact at8)) (by rfl) (by simp only [Act.put, zA, zB, zC]; rfl) ?_) | ((with_reducible refine zaa ?_); refine zag rfl (by (first | rfl | (simp only [Region.wanted, yielded, *]; go_simp; done) | (simp [Region.wanted, yielded, *]; done) | fail)) hO rfl _ (by (first | exact at0 | exact at1 | exact at2 | exact at3 | exact at4 | exact at5 | exact at6 | exact at7 | exact at8)) (by rfl) (by simp only [Act.put, zA, zB, zC]; rfl) ?_) | ((with_reducible refine zab ?_); refine zsb rfl hO rfl _ (by (first | exact at0 | exact at1 | exact at2 | exact at3 | exact at4 | exact at5 | exact at6 | exact at7 | exact at8)) rfl ?_; clear hO; intro u hO; simp only [zC, zB] at hO) | ((with_reducible refine zab ?_); refine zsf rfl hO rfl _ (by (first | exact at0 | exact at1 | exact at2 | exact at3 | exact at4 | exact at5 | exact at6 | exact at7 | exact at8)) (zM rfl) ?_; clear hO; intro u hO; simp only [zC, zB] at hO) | fail)
    clear CA
    refine (S _ hO.below).mono ?_
    rintro e u ⟨N', d', rfl, hb⟩
    replace hO := hO.call hb
    clear hb
    simp only [zK, zL] at hO
    go_wp2_with (first | ((with_reducible refine zac ?_); refine zal rfl hO rfl ?_; (first | (refine nm 0 rfl ?_; clear hO; intro b0 u hO) | (refine nm 1 rfl ?_; clear hO; intro b1 u hO) | (refine nm 2 rfl ?_; clear hO; intro b2 u hO) | (refine nm 3 rfl ?_; clear hO; intro b3 u hO) | (refine nm 4 rfl ?_; clear hO; intro b4 u hO) | (refine nm 5 rfl ?_; clear hO; intro b5 u hO) | (refine nm 6 rfl ?_; clear hO; intro b6 u hO) | (refine nm 7 rfl ?_; clear hO; intro b7 u hO) | (refine nm 8 rfl ?_; clear hO; intro b8 u hO)); simp only [zL, zK] at hO) | ((with_reducible refine zad ?_); refine zbx rfl hO rfl rfl ?_; (first | (refine nm 0 rfl ?_; clear hO; intro b0 u hO) | (refine nm 1 rfl ?_; clear hO; intro b1 u hO) | (refine nm 2 rfl ?_; clear hO; intro b2 u hO) | (refine nm 3 rfl ?_; clear hO; intro b3 u hO) | (refine nm 4 rfl ?_; clear hO; intro b4 u hO) | (refine nm 5 rfl ?_; clear hO; intro b5 u hO) | (refine nm 6 rfl ?_; clear hO; intro b6 u hO) | (refine nm 7 rfl ?_; clear hO; intro b7 u hO) | (refine nm 8 rfl ?_; clear hO; intro b8 u hO)); simp only [zL, zK] at hO) | ((with_reducible refine zaa ?_); refine zay rfl (by (first | rfl | (simp only [Region.wanted, yielded, *]; go_simp; done) | (simp [Region.wanted, yielded, *]; done) | fail)) hO rfl _ (by (first | exact at0 | exact at1 | exact at2 | exact at3 | exact at4 | exact at5 | exact at6 | exact at7 | exact at8)) (by rfl) (by simp only [Act.put, zA, zB, zC]; rfl) ?_) | ((with_reducible refine zaa ?_); refine zag rfl (by (first | rfl | (simp only [Region.wanted, yielded, *]; go_simp; done) | (simp [Region.wanted, yielded, *]; done) | fail)) hO rfl _ (by (first | exact at0 | exact at1 | exact at2 | exact at3 | exact at4 | exact at5 | exact at6 | exact at7 | exact at8)) (by rfl) (by simp only [Act.put, zA, zB, zC]; rfl) ?_) | ((with_reducible refine zab ?_); refine zsb rfl hO rfl _ (by (first | exact at0 | exact at1 | exact at2 | exact at3 | exact at4 | exact at5 | exact at6 | exact at7 | exact at8)) rfl ?_; clear hO; intro u hO; simp only [zC, zB] at hO) | ((with_reducible refine zab ?_); refine zsf rfl hO rfl _ (by (first | exact at0 | exact at1 | exact at2 | exact at3 | exact at4 | exact at5 | exact at6 | exact at7 | exact at8)) (zM rfl) ?_; clear hO; intro u hO; simp only [zC, zB] at hO) | fail)
    replace hO := hO.pick [1, 2, 3, 0] (by decide)
    simp only [zN, zO, zE, zD] at hO
    replace hO := hO.addNil 35 3
    simp only [List.cons_append, List.nil_append] at hO
    go_loopw [27] (fun i u => ∃ (m : Nat) (A' : Option Addr) (c' : Nat), m ≤ is.length ∧ i = .int .i64 m ∧ Own w [box b0 28 [.int .i64 k, .slice Ai is.length ci, .slice Ap ps.length cp, .slice An ns.length cn, .slice Ac cs.length cc, .slice Al ls.length cl, .int .i64 c, .int .i64 e], box b1 28 [.int .i64 0, .slice none 0 0, .slice none 0 0, .slice none 0 0, .slice none 0 0, .slice none 0 0, .int .i64 0, .int .i64 0], box b3 28 [.int .i64 1, .slice A' m c', .slice none 0 0, .slice N' ns.length d', .slice none 0 0, .slice none 0 0, .int .i64 0, .int .i64 0], row 9 1 (.slice N' ns.length d') ns.length (stc ns), row 35 3 (.slice A' m c') m (itc ((is.take m).map fun x => msI (misB x)))] u) (fun i _ => is.length - (intOf i).toNat)
    case atStart => exact ⟨0, none, 0, Nat.zero_le _, rfl, hO⟩
    case round =>
      clear hO
      obtain ⟨m, A', c', hm, rfl, hO⟩ := hrel
      by_cases hlt : m < is.length
      · have HSS := Lib.hid (itc_map_succ (fun x => msI (misB x)) hlt)
        obtain ⟨x, hx⟩ : ∃ x, is[m] = x := ⟨_, rfl⟩
        obtain ⟨b, off, rfl, hb, d0, d1, d2⟩ := h1.it hO.below hlt hx
        rw [hx] at HSS
        clear hx
        obtain ⟨xn, xd, xt⟩ := x
        rw [show itc1 (msI (misB ⟨xn, xd, xt⟩)) = [.int .i64 (b2i (misB ⟨xn, xd, xt⟩)), .int .i64 1, .string ⟨#[]⟩] from rfl] at HSS
        obtain ⟨y, hy⟩ : ∃ y, misB ⟨xn, xd, xt⟩ = y := ⟨_, rfl⟩
        have CM := fun u => zba xn xd xt u
        rw [hy] at HSS CM
        clear hy
        go_wp2_with (first | ((with_reducible refine zac ?_); refine zal rfl hO rfl ?_; (first | (refine nm 0 rfl ?_; clear hO; intro b0 u hO) | (refine nm 1 rfl ?_; clear hO; intro b1 u hO) | (refine nm 2 rfl ?_; clear hO; intro b2 u hO) | (refine nm 3 rfl ?_; clear hO; intro b3 u hO) | (refine nm 4 rfl ?_; clear hO; intro b4 u hO) | (refine nm 5 rfl ?_; clear hO; intro b5 u hO) | (refine nm 6 rfl ?_; clear hO; intro b6 u hO) | (refine nm 7 rfl ?_; clear hO; intro b7 u hO) | (refine nm 8 rfl ?_; clear hO; intro b8 u hO)); simp only [zL, zK] at hO) | ((with_reducible refine zad ?_); refine zbx rfl hO rfl rfl ?_; (first | (refine nm 0 rfl ?_; clear hO; intro b0 u hO) | (refine nm 1 rfl ?_; clear hO; intro b1 u hO) | (refine nm 2 rfl ?_; clear hO; intro b2 u hO) | (refine nm 3 rfl ?_; clear hO; intro b3 u hO) | (refine nm 4 rfl ?_; clear hO; intro b4 u hO) | (refine nm 5 rfl ?_; clear hO; intro b5 u hO) | (refine nm 6 rfl ?_; clear hO; intro b6 u hO) | (refine nm 7 rfl ?_; clear hO; intro b7 u hO) | (refine nm 8 rfl ?_; clear hO; intro b8 u hO)); simp only [zL, zK] at hO) | ((with_reducible refine zaa ?_); refine zay rfl (by (first | rfl | (simp only [Region.wanted, yielded, *]; go_simp; done) | (simp [Region.wanted, yielded, *]; done) | fail)) hO rfl _ (by (first | exact at0 | exact at1 | exact at2 | exact at3 | exact at4 | exact at5 | exact at6 | exact at7 | exact at8)) (by rfl) (by simp only [Act.put, zA, zB, zC]; rfl) ?_) | ((with_reducible refine zaa ?_); refine zag rfl (by (first | rfl | (simp only [Region.wanted, yielded, *]; go_simp; done) | (simp [Region.wanted, yielded, *]; done) | fail)) hO rfl _ (by (first | exact at0 | exact at1 | exact at2 | exact at3 | exact at4 | exact at5 | exact at6 | exact at7 | exact at8)) (by rfl) (by simp only [Act.put, zA, zB, zC]; rfl) ?_) | ((with_reducible refine zab ?_); refine zsb rfl hO rfl _ (by (first | exact at0 | exact at1 | exact at2 | exact at3 | exact at4 | exact at5 | exact at6 | exact at7 | exact at8)) rfl ?_; clear hO; intro u hO; simp only [zC, zB] at hO) | ((with_reducible refine zab ?_); refine zsf rfl hO rfl _ (by (first | exact at0 | exact at1 | exact at2 | exact at3 | exact at4 | exact at5 | exact at6 | exact at7 | exact at8)) (zM rfl) ?_; clear hO; intro u hO; simp only [zC, zB] at hO) | fail)
        clear d0 d1 d2
        refine J.wp_region_c (n := 66) [0, 1, 2, 3, 4] [5] (deps := fun i => [[], [0], [], [2], [2, 3], [2, 3, 4], [], [], []].getD i []) (fun _ _ => (J.freshS 35 [.int .i64 (b2i y), .int .i64 1, .string ⟨#[]⟩])) (r := 3) (lst := #[true, true, true, true, true, true, false, false, false]) (by kernel_rfl) (by kernel_rfl) (by kernel_rfl) rfl (by decide) (by kernel_rfl) hO ?_
        refine zcp (h := ?_)
        refine zcc (f := fun M u hO K hK => by ((first | exact zah hO rfl rfl _ (by (first | exact at0 | exact at1 | exact at2 | exact at3 | exact at4 | exact at5 | exact at6 | exact at7 | exact at8)) (by rfl) (by rfl) (hK _ hO) | exact zae hO rfl rfl _ (by (first | exact at0 | exact at1 | exact at2 | exact at3 | exact at4 | exact at5 | exact at6 | exact at7 | exact at8)) (by rfl) (by rfl) (hK _ hO)))) (h := ?_)
        refine zcc (f := fun M u hO K hK => by ((first | exact zah hO rfl rfl _ (by (first | exact at0 | exact at1 | exact at2 | exact at3 | exact at4 | exact at5 | exact at6 | exact at7 | exact at8)) (by rfl) (by rfl) (hK _ hO) | exact zae hO rfl rfl _ (by (first | exact at0 | exact at1 | exact at2 | exact at3 | exact at4 | exact at5 | exact at6 | exact at7 | exact at8)) (by rfl) (by rfl) (hK _ hO)))) (h := ?_)
        refine zcc (f := fun M u hO K hK => by (simp only [wp_at_zero, wp_at_succ]; go_step; refine (CM _).mono ?_; rintro e u ⟨rfl, hb⟩; (first | exact hK _ (hO.step hb) | (subst hb; exact hK _ hO)))) (h := ?_)
        refine zcc (f := fun M u hO K hK => by (simp only [wp_at_zero, wp_at_succ]; go_step; refine (impl_boolItem _ _).mono ?_; rintro e u ⟨rfl, hb⟩; (first | exact hK _ (hO.step hb) | (subst hb; exact hK _ hO)))) (h := ?_)
        refine J.Chain.nil ⟨?_, ?_⟩
        · refine J.Each.cons (by rfl) ?_ ?_; exact ⟨rfl, fun vs M u hO _ K hK => by (refine za4 (cs := [.int .i64 (b2i y), .int .i64 1, .string ⟨#[]⟩]) hO rfl (by simp only [Act.eval, zJ, zP, J.putL, zI, zG, zH, J.dstOf, zF, zD, zE, zS, zQ, zR, Act.put, zA, zB, zC]; rfl) rfl rfl (zM rfl) rfl fun b u hO => ?_; exact hK _ _ _ (show (J.freshS 35 [.int .i64 (b2i y), .int .i64 1, .string ⟨#[]⟩]) _ from ⟨b, rfl⟩) hO)⟩; exact J.Each.nil
        intro vs u hO hF
        obtain ⟨b4, h5⟩ : J.freshS _ _ (vs 5) := hF 5 (by decide)
        clear hF
        simp only [List.flatMap_cons, List.flatMap_nil, h5, List.append_nil, zL, zK] at hO
        simp only [h5, J.putL, zI, zG, zH, J.dstOf, zF, zD, zE, zS, zQ, zR, Act.put, zA, zB, zC]
        clear h5 vs
        refine J.wpAny_one (i := 6) (by kernel_rfl) (by rfl) rfl fun K hK => ?_
        refine za3 hO rfl rfl rfl _ (by (first | exact at0 | exact at1 | exact at2 | exact at3 | exact at4 | exact at5 | exact at6 | exact at7 | exact at8 | exact at9)) _ (by (first | exact at0 | exact at1 | exact at2 | exact at3 | exact at4 | exact at5 | exact at6 | exact at7 | exact at8 | exact at9)) (by rfl) (by simp [Value.oneCell']) (by omega) (by omega) rfl ?_
        clear hO
        intro A' c' u hO
        simp only [zC, zB] at hO
        simp only [Act.put, zA, zB, zC]
        refine hK _ _ ?_
        clear hK K
        refine J.wpAny_one (i := 7) (by kernel_rfl) (by rfl) rfl fun K hK => ?_
        simp only [wp_at_zero, wp_at_succ]
        go_step
        refine hK _ _ ?_
        clear hK K
        refine J.wpAny_one (i := 8) (by kernel_rfl) (by rfl) rfl fun K hK => ?_
        (first | (refine zaf hO rfl rfl _ (by (first | exact at0 | exact at1 | exact at2 | exact at3 | exact at4 | exact at5 | exact at6 | exact at7 | exact at8)) rfl (by rfl) (by rfl) (by rfl) (by rfl) (by rfl) ?_; clear hO; intro u hO; simp only [zC, zB] at hO; refine hK _ _ ?_; clear hK K) | (refine za1 hO rfl rfl _ (by (first | exact at0 | exact at1 | exact at2 | exact at3 | exact at4 | exact at5 | exact at6 | exact at7 | exact at8)) (zM rfl) (by simp only [Act.eval, zJ, zF, zD, zE, zP]; rfl) (by rfl) (by rfl) (by rfl) ?_; clear hO; intro u hO; simp only [zC, zB] at hO; refine hK _ _ ?_; clear hK K))
        refine wpAny_done (by kernel_rfl) ?_ _
        go_wp2_with (first | ((with_reducible refine zac ?_); refine zal rfl hO rfl ?_; (first | (refine nm 0 rfl ?_; clear hO; intro b0 u hO) | (refine nm 1 rfl ?_; clear hO; intro b1 u hO) | (refine nm 2 rfl ?_; clear hO; intro b2 u hO) | (refine nm 3 rfl ?_; clear hO; intro b3 u hO) | (refine nm 4 rfl ?_; clear hO; intro b4 u hO) | (refine nm 5 rfl ?_; clear hO; intro b5 u hO) | (refine nm 6 rfl ?_; clear hO; intro b6 u hO) | (refine nm 7 rfl ?_; clear hO; intro b7 u hO) | (refine nm 8 rfl ?_; clear hO; intro b8 u hO)); simp only [zL, zK] at hO) | ((with_reducible refine zad ?_); refine zbx rfl hO rfl rfl ?_; (first | (refine nm 0 rfl ?_; clear hO; intro b0 u hO) | (refine nm 1 rfl ?_; clear hO; intro b1 u hO) | (refine nm 2 rfl ?_; clear hO; intro b2 u hO) | (refine nm 3 rfl ?_; clear hO; intro b3 u hO) | (refine nm 4 rfl ?_; clear hO; intro b4 u hO) | (refine nm 5 rfl ?_; clear hO; intro b5 u hO) | (refine nm 6 rfl ?_; clear hO; intro b6 u hO) | (refine nm 7 rfl ?_; clear hO; intro b7 u hO) | (refine nm 8 rfl ?_; clear hO; intro b8 u hO)); simp only [zL, zK] at hO) | ((with_reducible refine zaa ?_); refine zay rfl (by (first | rfl | (simp only [Region.wanted, yielded, *]; go_simp; done) | (simp [Region.wanted, yielded, *]; done) | fail)) hO rfl _ (by (first | exact at0 | exact at1 | exact at2 | exact at3 | exact at4 | exact at5 | exact at6 | exact at7 | exact at8)) (by rfl) (by simp only [Act.put, zA, zB, zC]; rfl) ?_) | ((with_reducible refine zaa ?_); refine zag rfl (by (first | rfl | (simp only [Region.wanted, yielded, *]; go_simp; done) | (simp [Region.wanted, yielded, *]; done) | fail)) hO rfl _ (by (first | exact at0 | exact at1 | exact at2 | exact at3 | exact at4 | exact at5 | exact at6 | exact at7 | exact at8)) (by rfl) (by simp only [Act.put, zA, zB, zC]; rfl) ?_) | ((with_reducible refine zab ?_); refine zsb rfl hO rfl _ (by (first | exact at0 | exact at1 | exact at2 | exact at3 | exact at4 | exact at5 | exact at6 | exact at7 | exact at8)) rfl ?_; clear hO; intro u hO; simp only [zC, zB] at hO) | ((with_reducible refine zab ?_); refine zsf rfl hO rfl _ (by (first | exact at0 | exact at1 | exact at2 | exact at3 | exact at4 | exact at5 | exact at6 | exact at7 | exact at8)) (zM rfl) ?_; clear hO; intro u hO; simp only [zC, zB] at hO) | fail)
        replace hO := hO.pick [0, 1, 2, 3, 4] (by decide)
        simp only [zN, zO, zE, zD] at hO
        rw [← HSS.out] at hO
        go_roundw
        case rel => exact ⟨m + 1, _, _, by omega, by go_num, hO⟩
        case measure => simp [intOf]; omega
      · have hmn : m = is.length := by omega
        subst hmn
        rw [List.take_length] at hO
        go_wp2_with (first | ((with_reducible refine zac ?_); refine zal rfl hO rfl ?_; (first | (refine nm 0 rfl ?_; clear hO; intro b0 u hO) | (refine nm 1 rfl ?_; clear hO; intro b1 u hO) | (refine nm 2 rfl ?_; clear hO; intro b2 u hO) | (refine nm 3 rfl ?_; clear hO; intro b3 u hO) | (refine nm 4 rfl ?_; clear hO; intro b4 u hO) | (refine nm 5 rfl ?_; clear hO; intro b5 u hO) | (refine nm 6 rfl ?_; clear hO; intro b6 u hO) | (refine nm 7 rfl ?_; clear hO; intro b7 u hO) | (refine nm 8 rfl ?_; clear hO; intro b8 u hO)); simp only [zL, zK] at hO) | ((with_reducible refine zad ?_); refine zbx rfl hO rfl rfl ?_; (first | (refine nm 0 rfl ?_; clear hO; intro b0 u hO) | (refine nm 1 rfl ?_; clear hO; intro b1 u hO) | (refine nm 2 rfl ?_; clear hO; intro b2 u hO) | (refine nm 3 rfl ?_; clear hO; intro b3 u hO) | (refine nm 4 rfl ?_; clear hO; intro b4 u hO) | (refine nm 5 rfl ?_; clear hO; intro b5 u hO) | (refine nm 6 rfl ?_; clear hO; intro b6 u hO) | (refine nm 7 rfl ?_; clear hO; intro b7 u hO) | (refine nm 8 rfl ?_; clear hO; intro b8 u hO)); simp only [zL, zK] at hO) | ((with_reducible refine zaa ?_); refine zay rfl (by (first | rfl | (simp only [Region.wanted, yielded, *]; go_simp; done) | (simp [Region.wanted, yielded, *]; done) | fail)) hO rfl _ (by (first | exact at0 | exact at1 | exact at2 | exact at3 | exact at4 | exact at5 | exact at6 | exact at7 | exact at8)) (by rfl) (by simp only [Act.put, zA, zB, zC]; rfl) ?_) | ((with_reducible refine zaa ?_); refine zag rfl (by (first | rfl | (simp only [Region.wanted, yielded, *]; go_simp; done) | (simp [Region.wanted, yielded, *]; done) | fail)) hO rfl _ (by (first | exact at0 | exact at1 | exact at2 | exact at3 | exact at4 | exact at5 | exact at6 | exact at7 | exact at8)) (by rfl) (by simp only [Act.put, zA, zB, zC]; rfl) ?_) | ((with_reducible refine zab ?_); refine zsb rfl hO rfl _ (by (first | exact at0 | exact at1 | exact at2 | exact at3 | exact at4 | exact at5 | exact at6 | exact at7 | exact at8)) rfl ?_; clear hO; intro u hO; simp only [zC, zB] at hO) | ((with_reducible refine zab ?_); refine zsf rfl hO rfl _ (by (first | exact at0 | exact at1 | exact at2 | exact at3 | exact at4 | exact at5 | exact at6 | exact at7 | exact at8)) (zM rfl) ?_; clear hO; intro u hO; simp only [zC, zB] at hO) | fail)
        go_loopw [43] (fun i u => ∃ (m : Nat) (A' : Option Addr) (c' : Nat), m ≤ ps.length ∧ i = .int .i64 m ∧ Own w [box b0 28 [.int .i64 k, .slice Ai is.length ci, .slice Ap ps.length cp, .slice An ns.length cn, .slice Ac cs.length cc, .slice Al ls.length cl, .int .i64 c, .int .i64 e], box b1 28 [.int .i64 0, .slice none 0 0, .slice none 0 0, .slice none 0 0, .slice none 0 0, .slice none 0 0, .int .i64 0, .int .i64 0], box b3 28 [.int .i64 1, .slice A' (is.length + m) c', .slice none 0 0, .slice N' ns.length d', .slice none 0 0, .slice none 0 0, .int .i64 0, .int .i64 0], row 9 1 (.slice N' ns.length d') ns.length (stc ns), row 35 3 (.slice A' (is.length + m) c') (is.length + m) (itc ((is.map fun x => msI (misB x)) ++ (ps.take m).map fun x => msI (misP x)))] u) (fun i _ => ps.length - (intOf i).toNat)
        case atStart => exact ⟨0, _, _, Nat.zero_le _, rfl, by simpa using hO⟩
        case round =>
          clear hO
          obtain ⟨m, A', c', hm, rfl, hO⟩ := hrel
          by_cases hlt : m < ps.length
          · have HSS := Lib.hid (itc_snocM (is.map fun x => msI (misB x)) (fun x => msI (misP x)) hlt)
            have hps := szL_mem HP.out hlt
            obtain ⟨x, hx⟩ : ∃ x, ps[m]'hlt = x := ⟨_, rfl⟩
            obtain ⟨xk, xi, xp, xn, xc, xl, xo, xe⟩ := x
            obtain ⟨b, off, rfl, hb, Bi, Bp, Bn, Bc, Bl, di, dp, dn, dc, dl, hrd, c0, c1, c2, c3, c4, c5, c6, c7⟩ := h2.ptc hO.below hlt hx
            rw [hx] at HSS hps
            clear hx
            rw [show itc1 (msI (misP (.mk xk xi xp xn xc xl xo xe))) = [.int .i64 (b2i (misP (.mk xk xi xp xn xc xl xo xe))), .int .i64 1, .string ⟨#[]⟩] from rfl] at HSS
            obtain ⟨y, hy⟩ : ∃ y, misP (.mk xk xi xp xn xc xl xo xe) = y := ⟨_, rfl⟩
            rw [hy] at HSS
            have hxl : xi.length ≤ 1048576 := by
              unfold szV szI at hps
              omega
            clear hps
            by_cases h1' : xi.length = 1
            · obtain ⟨z, rfl⟩ : ∃ z, xi = [z] := List.length_eq_one_iff.1 h1'
              obtain ⟨zn, zd, zt⟩ := z
              obtain ⟨Ci, Cp, Cn, Cc, Cl, ri, rp, rn, rc, rl, pvs', hvs, g1, _⟩ := hrd.open
              simp only [List.cons.injEq, Value.slice.injEq, and_true, true_and] at hvs
              obtain ⟨⟨rfl, rfl⟩, ⟨rfl, rfl⟩, ⟨rfl, rfl⟩, ⟨rfl, rfl⟩, ⟨rfl, rfl⟩⟩ := hvs
              obtain ⟨b2, off2, rfl, hb2, d0, d1, d2⟩ := g1.it (Below.refl _ _) (x := ⟨zn, zd, zt⟩) (show 0 < [(⟨zn, zd, zt⟩ : It)].length from Nat.one_pos) rfl
              have CM := fun u => zba zn zd zt u
              rw [show misB ⟨zn, zd, zt⟩ = y from hy] at CM
              simp only [Nat.zero_mul, Nat.add_zero, List.length_singleton] at c1 d0 d1 d2
              clear hy h1' hxl g1 hrd
              go_wp2_with (first | ((with_reducible refine zac ?_); refine zal rfl hO rfl ?_; (first | (refine nm 0 rfl ?_; clear hO; intro b0 u hO) | (refine nm 1 rfl ?_; clear hO; intro b1 u hO) | (refine nm 2 rfl ?_; clear hO; intro b2 u hO) | (refine nm 3 rfl ?_; clear hO; intro b3 u hO) | (refine nm 4 rfl ?_; clear hO; intro b4 u hO) | (refine nm 5 rfl ?_; clear hO; intro b5 u hO) | (refine nm 6 rfl ?_; clear hO; intro b6 u hO) | (refine nm 7 rfl ?_; clear hO; intro b7 u hO) | (refine nm 8 rfl ?_; clear hO; intro b8 u hO)); simp only [zL, zK] at hO) | ((with_reducible refine zad ?_); refine zbx rfl hO rfl rfl ?_; (first | (refine nm 0 rfl ?_; clear hO; intro b0 u hO) | (refine nm 1 rfl ?_; clear hO; intro b1 u hO) | (refine nm 2 rfl ?_; clear hO; intro b2 u hO) | (refine nm 3 rfl ?_; clear hO; intro b3 u hO) | (refine nm 4 rfl ?_; clear hO; intro b4 u hO) | (refine nm 5 rfl ?_; clear hO; intro b5 u hO) | (refine nm 6 rfl ?_; clear hO; intro b6 u hO) | (refine nm 7 rfl ?_; clear hO; intro b7 u hO) | (refine nm 8 rfl ?_; clear hO; intro b8 u hO)); simp only [zL, zK] at hO) | ((with_reducible refine zaa ?_); refine zay rfl (by (first | rfl | (simp only [Region.wanted, yielded, *]; go_simp; done) | (simp [Region.wanted, yielded, *]; done) | fail)) hO rfl _ (by (first | exact at0 | exact at1 | exact at2 | exact at3 | exact at4 | exact at5 | exact at6 | exact at7 | exact at8)) (by rfl) (by simp only [Act.put, zA, zB, zC]; rfl) ?_) | ((with_reducible refine zaa ?_); refine zag rfl (by (first | rfl | (simp only [Region.wanted, yielded, *]; go_simp; done) | (simp [Region.wanted, yielded, *]; done) | fail)) hO rfl _ (by (first | exact at0 | exact at1 | exact at2 | exact at3 | exact at4 | exact at5 | exact at6 | exact at7 | exact at8)) (by rfl) (by simp only [Act.put, zA, zB, zC]; rfl) ?_) | ((with_reducible refine zab ?_); refine zsb rfl hO rfl _ (by (first | exact at0 | exact at1 | exact at2 | exact at3 | exact at4 | exact at5 | exact at6 | exact at7 | exact at8)) rfl ?_; clear hO; intro u hO; simp only [zC, zB] at hO) | ((with_reducible refine zab ?_); refine zsf rfl hO rfl _ (by (first | exact at0 | exact at1 | exact at2 | exact at3 | exact at4 | exact at5 | exact at6 | exact at7 | exact at8)) (zM rfl) ?_; clear hO; intro u hO; simp only [zC, zB] at hO) | fail)
              clear c0 c1 c2 c3 c4 c5 c6 c7
              refine J.wp_region_c (n := 66) [0, 1, 2, 3, 4, 5, 6, 7, 8, 9, 10, 11, 12, 13] [14] (deps := fun i => [[], [0], [], [2], [2, 3], [2, 3, 4], [2, 3, 4, 5], [2, 3, 4, 5, 6], [2, 3, 4, 5, 6, 7], [2, 3, 4, 5, 6, 7, 8], [2, 3, 4, 5, 6, 7, 8, 9], [2, 3, 4, 5, 6, 7, 8, 9, 10], [2, 3, 4, 5, 6, 7, 8, 9, 10, 11], [2, 3, 4, 5, 6, 7, 8, 9, 10, 11, 12], [2, 3, 4, 5, 6, 7, 8, 9, 10, 11, 12, 13], [], [], []].getD i []) (fun _ _ => (J.freshS 35 [.int .i64 (b2i y), .int .i64 1, .string ⟨#[]⟩])) (r := 3) (lst := #[true, true, true, true, true, true, true, true, true, true, true, true, true, true, true, false, false, false]) (by kernel_rfl) (by kernel_rfl) (by kernel_rfl) rfl (by decide) (by kernel_rfl) hO ?_
              refine zcp (h := ?_)
              refine zcc (f := fun M u hO K hK => by ((first | exact zah hO rfl rfl _ (by (first | exact at0 | exact at1 | exact at2 | exact at3 | exact at4 | exact at5 | exact at6 | exact at7 | exact at8)) (by rfl) (by rfl) (hK _ hO) | exact zae hO rfl rfl _ (by (first | exact at0 | exact at1 | exact at2 | exact at3 | exact at4 | exact at5 | exact at6 | exact at7 | exact at8)) (by rfl) (by rfl) (hK _ hO) | (have e0 := (hO.old hb2).trans d0; have e1 := (hO.old hb2).trans d1; have e2 := (hO.old hb2).trans d2; simp only [wp_at_zero, wp_at_succ]; go_step; exact hK _ hO)))) (h := ?_)
              refine zcp (h := ?_)
              refine zcc (f := fun M u hO K hK => by ((first | exact zah hO rfl rfl _ (by (first | exact at0 | exact at1 | exact at2 | exact at3 | exact at4 | exact at5 | exact at6 | exact at7 | exact at8)) (by rfl) (by rfl) (hK _ hO) | exact zae hO rfl rfl _ (by (first | exact at0 | exact at1 | exact at2 | exact at3 | exact at4 | exact at5 | exact at6 | exact at7 | exact at8)) (by rfl) (by rfl) (hK _ hO) | (have e0 := (hO.old hb2).trans d0; have e1 := (hO.old hb2).trans d1; have e2 := (hO.old hb2).trans d2; simp only [wp_at_zero, wp_at_succ]; go_step; exact hK _ hO)))) (h := ?_)
              refine zcp (h := ?_)
              refine zcp (h := ?_)
              refine zcp (h := ?_)
              refine zcp (h := ?_)
              refine zcc (f := fun M u hO K hK => by ((first | exact zah hO rfl rfl _ (by (first | exact at0 | exact at1 | exact at2 | exact at3 | exact at4 | exact at5 | exact at6 | exact at7 | exact at8)) (by rfl) (by rfl) (hK _ hO) | exact zae hO rfl rfl _ (by (first | exact at0 | exact at1 | exact at2 | exact at3 | exact at4 | exact at5 | exact at6 | exact at7 | exact at8)) (by rfl) (by rfl) (hK _ hO) | (have e0 := (hO.old hb2).trans d0; have e1 := (hO.old hb2).trans d1; have e2 := (hO.old hb2).trans d2; simp only [wp_at_zero, wp_at_succ]; go_step; exact hK _ hO)))) (h := ?_)
              refine zcp (h := ?_)
              refine zcc (f := fun M u hO K hK => by ((first | exact zah hO rfl rfl _ (by (first | exact at0 | exact at1 | exact at2 | exact at3 | exact at4 | exact at5 | exact at6 | exact at7 | exact at8)) (by rfl) (by rfl) (hK _ hO) | exact zae hO rfl rfl _ (by (first | exact at0 | exact at1 | exact at2 | exact at3 | exact at4 | exact at5 | exact at6 | exact at7 | exact at8)) (by rfl) (by rfl) (hK _ hO) | (have e0 := (hO.old hb2).trans d0; have e1 := (hO.old hb2).trans d1; have e2 := (hO.old hb2).trans d2; simp only [wp_at_zero, wp_at_succ]; go_step; exact hK _ hO)))) (h := ?_)
              refine zcc (f := fun M u hO K hK => by (simp only [wp_at_zero, wp_at_succ]; go_step; refine (CM _).mono ?_; rintro e u ⟨rfl, hb⟩; (first | exact hK _ (hO.step hb) | (subst hb; exact hK _ hO)))) (h := ?_)
              refine zcp (h := ?_)
              refine zcc (f := fun M u hO K hK => by (simp only [wp_at_zero, wp_at_succ]; go_step; refine (impl_boolItem _ _).mono ?_; rintro e u ⟨rfl, hb⟩; (first | exact hK _ (hO.step hb) | (subst hb; exact hK _ hO)))) (h := ?_)
              refine J.Chain.nil ⟨?_, ?_⟩
              · refine J.Each.cons (by rfl) ?_ ?_; exact ⟨rfl, fun vs M u hO _ K hK => by (refine za4 (cs := [.int .i64 (b2i y), .int .i64 1, .string ⟨#[]⟩]) hO rfl (by simp only [Act.eval, zJ, zP, J.putL, zI, zG, zH, J.dstOf, zF, zD, zE, zS, zQ, zR, Act.put, zA, zB, zC]; rfl) rfl rfl (zM rfl) rfl fun b u hO => ?_; exact hK _ _ _ (show (J.freshS 35 [.int .i64 (b2i y), .int .i64 1, .string ⟨#[]⟩]) _ from ⟨b, rfl⟩) hO)⟩; exact J.Each.nil
              intro vs u hO hF
              obtain ⟨b5, h14⟩ : J.freshS _ _ (vs 14) := hF 14 (by decide)
              clear hF
              simp only [List.flatMap_cons, List.flatMap_nil, h14, List.append_nil, zL, zK] at hO
              simp only [h14, J.putL, zI, zG, zH, J.dstOf, zF, zD, zE, zS, zQ, zR, Act.put, zA, zB, zC]
              clear h14 vs
              refine J.wpAny_one (i := 15) (by kernel_rfl) (by rfl) rfl fun K hK => ?_
              refine za3 hO rfl rfl rfl _ (by (first | exact at0 | exact at1 | exact at2 | exact at3 | exact at4 | exact at5 | exact at6 | exact at7 | exact at8 | exact at9)) _ (by (first | exact at0 | exact at1 | exact at2 | exact at3 | exact at4 | exact at5 | exact at6 | exact at7 | exact at8 | exact at9)) (by rfl) (by simp [Value.oneCell']) (by omega) (by omega) rfl ?_
              clear hO
              intro A' c' u hO
              simp only [zC, zB] at hO
              simp only [Act.put, zA, zB, zC]
              refine hK _ _ ?_
              clear hK K
              refine J.wpAny_one (i := 16) (by kernel_rfl) (by rfl) rfl fun K hK => ?_
              simp only [wp_at_zero, wp_at_succ]
              go_step
              refine hK _ _ ?_
              clear hK K
              refine J.wpAny_one (i := 17) (by kernel_rfl) (by rfl) rfl fun K hK => ?_
              (first | (refine zaf hO rfl rfl _ (by (first | exact at0 | exact at1 | exact at2 | exact at3 | exact at4 | exact at5 | exact at6 | exact at7 | exact at8)) rfl (by rfl) (by rfl) (by rfl) (by rfl) (by rfl) ?_; clear hO; intro u hO; simp only [zC, zB] at hO; refine hK _ _ ?_; clear hK K) | (refine za1 hO rfl rfl _ (by (first | exact at0 | exact at1 | exact at2 | exact at3 | exact at4 | exact at5 | exact at6 | exact at7 | exact at8)) (zM rfl) (by simp only [Act.eval, zJ, zF, zD, zE, zP]; rfl) (by rfl) (by rfl) (by rfl) ?_; clear hO; intro u hO; simp only [zC, zB] at hO; refine hK _ _ ?_; clear hK K))
              refine wpAny_done (by kernel_rfl) ?_ _
              go_wp2_with (first | ((with_reducible refine zac ?_); refine zal rfl hO rfl ?_; (first | (refine nm 0 rfl ?_; clear hO; intro b0 u hO) | (refine nm 1 rfl ?_; clear hO; intro b1 u hO) | (refine nm 2 rfl ?_; clear hO; intro b2 u hO) | (refine nm 3 rfl ?_; clear hO; intro b3 u hO) | (refine nm 4 rfl ?_; clear hO; intro b4 u hO) | (refine nm 5 rfl ?_; clear hO; intro b5 u hO) | (refine nm 6 rfl ?_; clear hO; intro b6 u hO) | (refine nm 7 rfl ?_; clear hO; intro b7 u hO) | (refine nm 8 rfl ?_; clear hO; intro b8 u hO)); simp only [zL, zK] at hO) | ((with_reducible refine zad ?_); refine zbx rfl hO rfl rfl ?_; (first | (refine nm 0 rfl ?_; clear hO; intro b0 u hO) | (refine nm 1 rfl ?_; clear hO; intro b1 u hO) | (refine nm 2 rfl ?_; clear hO; intro b2 u hO) | (refine nm 3 rfl ?_; clear hO; intro b3 u hO) | (refine nm 4 rfl ?_; clear hO; intro b4 u hO) | (refine nm 5 rfl ?_; clear hO; intro b5 u hO) | (refine nm 6 rfl ?_; clear hO; intro b6 u hO) | (refine nm 7 rfl ?_; clear hO; intro b7 u hO) | (refine nm 8 rfl ?_; clear hO; intro b8 u hO)); simp only [zL, zK] at hO) | ((with_reducible refine zaa ?_); refine zay rfl (by (first | rfl | (simp only [Region.wanted, yielded, *]; go_simp; done) | (simp [Region.wanted, yielded, *]; done) | fail)) hO rfl _ (by (first | exact at0 | exact at1 | exact at2 | exact at3 | exact at4 | exact at5 | exact at6 | exact at7 | exact at8)) (by rfl) (by simp only [Act.put, zA, zB, zC]; rfl) ?_) | ((with_reducible refine zaa ?_); refine zag rfl (by (first | rfl | (simp only [Region.wanted, yielded, *]; go_simp; done) | (simp [Region.wanted, yielded, *]; done) | fail)) hO rfl _ (by (first | exact at0 | exact at1 | exact at2 | exact at3 | exact at4 | exact at5 | exact at6 | exact at7 | exact at8)) (by rfl) (by simp only [Act.put, zA, zB, zC]; rfl) ?_) | ((with_reducible refine zab ?_); refine zsb rfl hO rfl _ (by (first | exact at0 | exact at1 | exact at2 | exact at3 | exact at4 | exact at5 | exact at6 | exact at7 | exact at8)) rfl ?_; clear hO; intro u hO; simp only [zC, zB] at hO) | ((with_reducible refine zab ?_); refine zsf rfl hO rfl _ (by (first | exact at0 | exact at1 | exact at2 | exact at3 | exact at4 | exact at5 | exact at6 | exact at7 | exact at8)) (zM rfl) ?_; clear hO; intro u hO; simp only [zC, zB] at hO) | fail)
              replace hO := hO.pick [0, 1, 2, 3, 4] (by decide)
              simp only [zN, zO, zE, zD] at hO
              rw [← HSS.out] at hO
              go_roundw
              case rel => exact ⟨m + 1, _, _, by omega, by go_num, hO⟩
              case measure => simp [intOf]; omega
            · have q1 : ((xi.length : Int) == 1) = false := by simp; omega
              have hy' : y = false := by rw [← hy]; exact if_neg h1'
              subst hy'
              clear hy h1' hrd
              go_wp2_with (first | ((with_reducible refine zac ?_); refine zal rfl hO rfl ?_; (first | (refine nm 0 rfl ?_; clear hO; intro b0 u hO) | (refine nm 1 rfl ?_; clear hO; intro b1 u hO) | (refine nm 2 rfl ?_; clear hO; intro b2 u hO) | (refine nm 3 rfl ?_; clear hO; intro b3 u hO) | (refine nm 4 rfl ?_; clear hO; intro b4 u hO) | (refine nm 5 rfl ?_; clear hO; intro b5 u hO) | (refine nm 6 rfl ?_; clear hO; intro b6 u hO) | (refine nm 7 rfl ?_; clear hO; intro b7 u hO) | (refine nm 8 rfl ?_; clear hO; intro b8 u hO)); simp only [zL, zK] at hO) | ((with_reducible refine zad ?_); refine zbx rfl hO rfl rfl ?_; (first | (refine nm 0 rfl ?_; clear hO; intro b0 u hO) | (refine nm 1 rfl ?_; clear hO; intro b1 u hO) | (refine nm 2 rfl ?_; clear hO; intro b2 u hO) | (refine nm 3 rfl ?_; clear hO; intro b3 u hO) | (refine nm 4 rfl ?_; clear hO; intro b4 u hO) | (refine nm 5 rfl ?_; clear hO; intro b5 u hO) | (refine nm 6 rfl ?_; clear hO; intro b6 u hO) | (refine nm 7 rfl ?_; clear hO; intro b7 u hO) | (refine nm 8 rfl ?_; clear hO; intro b8 u hO)); simp only [zL, zK] at hO) | ((with_reducible refine zaa ?_); refine zay rfl (by (first | rfl | (simp only [Region.wanted, yielded, *]; go_simp; done) | (simp [Region.wanted, yielded, *]; done) | fail)) hO rfl _ (by (first | exact at0 | exact at1 | exact at2 | exact at3 | exact at4 | exact at5 | exact at6 | exact at7 | exact at8)) (by rfl) (by simp only [Act.put, zA, zB, zC]; rfl) ?_) | ((with_reducible refine zaa ?_); refine zag rfl (by (first | rfl | (simp only [Region.wanted, yielded, *]; go_simp; done) | (simp [Region.wanted, yielded, *]; done) | fail)) hO rfl _ (by (first | exact at0 | exact at1 | exact at2 | exact at3 | exact at4 | exact at5 | exact at6 | exact at7 | exact at8)) (by rfl) (by simp only [Act.put, zA, zB, zC]; rfl) ?_) | ((with_reducible refine zab ?_); refine zsb rfl hO rfl _ (by (first | exact at0 | exact at1 | exact at2 | exact at3 | exact at4 | exact at5 | exact at6 | exact at7 | exact at8)) rfl ?_; clear hO; intro u hO; simp only [zC, zB] at hO) | ((with_reducible refine zab ?_); refine zsf rfl hO rfl _ (by (first | exact at0 | exact at1 | exact at2 | exact at3 | exact at4 | exact at5 | exact at6 | exact at7 | exact at8)) (zM rfl) ?_; clear hO; intro u hO; simp only [zC, zB] at hO) | fail)
              clear c0 c1 c2 c3 c4 c5 c6 c7
              refine J.wp_region_c (n := 66) [0, 1, 2, 3, 4, 5, 6, 7, 8, 9, 10, 11, 12, 13] [14] (deps := fun i => [[], [0], [], [2], [2, 3], [2, 3, 4], [2, 3, 4, 5], [2, 3, 4, 5, 6], [2, 3, 4, 5, 6, 7], [2, 3, 4, 5, 6, 7, 8], [2, 3, 4, 5, 6, 7, 8, 9], [2, 3, 4, 5, 6, 7, 8, 9, 10], [2, 3, 4, 5, 6, 7, 8, 9, 10, 11], [2, 3, 4, 5, 6, 7, 8, 9, 10, 11, 12], [2, 3, 4, 5, 6, 7, 8, 9, 10, 11, 12, 13], [], [], []].getD i []) (fun _ _ => (J.freshS 35 [.int .i64 (b2i false), .int .i64 1, .string ⟨#[]⟩])) (r := 3) (lst := #[true, true, true, true, true, true, true, true, true, true, true, true, true, true, true, false, false, false]) (by kernel_rfl) (by kernel_rfl) (by kernel_rfl) rfl (by decide) (by kernel_rfl) hO ?_
              refine zcp (h := ?_)
              refine zcc (f := fun M u hO K hK => by ((first | exact zah hO rfl rfl _ (by (first | exact at0 | exact at1 | exact at2 | exact at3 | exact at4 | exact at5 | exact at6 | exact at7 | exact at8)) (by rfl) (by rfl) (hK _ hO) | exact zae hO rfl rfl _ (by (first | exact at0 | exact at1 | exact at2 | exact at3 | exact at4 | exact at5 | exact at6 | exact at7 | exact at8)) (by rfl) (by rfl) (hK _ hO) | (have e0 := (hO.old hb2).trans d0; have e1 := (hO.old hb2).trans d1; have e2 := (hO.old hb2).trans d2; simp only [wp_at_zero, wp_at_succ]; go_step; exact hK _ hO)))) (h := ?_)
              refine zcp (h := ?_)
              refine zcc (f := fun M u hO K hK => by ((first | exact zah hO rfl rfl _ (by (first | exact at0 | exact at1 | exact at2 | exact at3 | exact at4 | exact at5 | exact at6 | exact at7 | exact at8)) (by rfl) (by rfl) (hK _ hO) | exact zae hO rfl rfl _ (by (first | exact at0 | exact at1 | exact at2 | exact at3 | exact at4 | exact at5 | exact at6 | exact at7 | exact at8)) (by rfl) (by rfl) (hK _ hO) | (have e0 := (hO.old hb2).trans d0; have e1 := (hO.old hb2).trans d1; have e2 := (hO.old hb2).trans d2; simp only [wp_at_zero, wp_at_succ]; go_step; exact hK _ hO)))) (h := ?_)
              refine zcp (h := ?_)
              refine zcp (h := ?_)
              refine zcp (h := ?_)
              refine zck (h := ?_)
              refine zck (h := ?_)
              refine zck (h := ?_)
              refine zck (h := ?_)
              refine zck (h := ?_)
              refine zcp (h := ?_)
              refine zcc (f := fun M u hO K hK => by (simp only [wp_at_zero, wp_at_succ]; go_step; refine (impl_boolItem _ _).mono ?_; rintro e u ⟨rfl, hb⟩; (first | exact hK _ (hO.step hb) | (subst hb; exact hK _ hO)))) (h := ?_)
              refine J.Chain.nil ⟨?_, ?_⟩
              · refine J.Each.cons (by rfl) ?_ ?_; exact ⟨rfl, fun vs M u hO _ K hK => by (refine za4 (cs := [.int .i64 (b2i false), .int .i64 1, .string ⟨#[]⟩]) hO rfl (by simp only [Act.eval, zJ, zP, J.putL, zI, zG, zH, J.dstOf, zF, zD, zE, zS, zQ, zR, Act.put, zA, zB, zC]; rfl) rfl rfl (zM rfl) rfl fun b u hO => ?_; exact hK _ _ _ (show (J.freshS 35 [.int .i64 (b2i false), .int .i64 1, .string ⟨#[]⟩]) _ from ⟨b, rfl⟩) hO)⟩; exact J.Each.nil
              intro vs u hO hF
              obtain ⟨b5, h14⟩ : J.freshS _ _ (vs 14) := hF 14 (by decide)
              clear hF
              simp only [List.flatMap_cons, List.flatMap_nil, h14, List.append_nil, zL, zK] at hO
              simp only [h14, J.putL, zI, zG, zH, J.dstOf, zF, zD, zE, zS, zQ, zR, Act.put, zA, zB, zC]
              clear h14 vs
              refine J.wpAny_one (i := 15) (by kernel_rfl) (by rfl) rfl fun K hK => ?_
              refine za3 hO rfl rfl rfl _ (by (first | exact at0 | exact at1 | exact at2 | exact at3 | exact at4 | exact at5 | exact at6 | exact at7 | exact at8 | exact at9)) _ (by (first | exact at0 | exact at1 | exact at2 | exact at3 | exact at4 | exact at5 | exact at6 | exact at7 | exact at8 | exact at9)) (by rfl) (by simp [Value.oneCell']) (by omega) (by omega) rfl ?_
              clear hO
              intro A' c' u hO
              simp only [zC, zB] at hO
              simp only [Act.put, zA, zB, zC]
              refine hK _ _ ?_
              clear hK K
              refine J.wpAny_one (i := 16) (by kernel_rfl) (by rfl) rfl fun K hK => ?_
              simp only [wp_at_zero, wp_at_succ]
              go_step
              refine hK _ _ ?_
              clear hK K
              refine J.wpAny_one (i := 17) (by kernel_rfl) (by rfl) rfl fun K hK => ?_
              (first | (refine zaf hO rfl rfl _ (by (first | exact at0 | exact at1 | exact at2 | exact at3 | exact at4 | exact at5 | exact at6 | exact at7 | exact at8)) rfl (by rfl) (by rfl) (by rfl) (by rfl) (by rfl) ?_; clear hO; intro u hO; simp only [zC, zB] at hO; refine hK _ _ ?_; clear hK K) | (refine za1 hO rfl rfl _ (by (first | exact at0 | exact at1 | exact at2 | exact at3 | exact at4 | exact at5 | exact at6 | exact at7 | exact at8)) (zM rfl) (by simp only [Act.eval, zJ, zF, zD, zE, zP]; rfl) (by rfl) (by rfl) (by rfl) ?_; clear hO; intro u hO; simp only [zC, zB] at hO; refine hK _ _ ?_; clear hK K))
              refine wpAny_done (by kernel_rfl) ?_ _
              go_wp2_with (first | ((with_reducible refine zac ?_); refine zal rfl hO rfl ?_; (first | (refine nm 0 rfl ?_; clear hO; intro b0 u hO) | (refine nm 1 rfl ?_; clear hO; intro b1 u hO) | (refine nm 2 rfl ?_; clear hO; intro b2 u hO) | (refine nm 3 rfl ?_; clear hO; intro b3 u hO) | (refine nm 4 rfl ?_; clear hO; intro b4 u hO) | (refine nm 5 rfl ?_; clear hO; intro b5 u hO) | (refine nm 6 rfl ?_; clear hO; intro b6 u hO) | (refine nm 7 rfl ?_; clear hO; intro b7 u hO) | (refine nm 8 rfl ?_; clear hO; intro b8 u hO)); simp only [zL, zK] at hO) | ((with_reducible refine zad ?_); refine zbx rfl hO rfl rfl ?_; (first | (refine nm 0 rfl ?_; clear hO; intro b0 u hO) | (refine nm 1 rfl ?_; clear hO; intro b1 u hO) | (refine nm 2 rfl ?_; clear hO; intro b2 u hO) | (refine nm 3 rfl ?_; clear hO; intro b3 u hO) | (refine nm 4 rfl ?_; clear hO; intro b4 u hO) | (refine nm 5 rfl ?_; clear hO; intro b5 u hO) | (refine nm 6 rfl ?_; clear hO; intro b6 u hO) | (refine nm 7 rfl ?_; clear hO; intro b7 u hO) | (refine nm 8 rfl ?_; clear hO; intro b8 u hO)); simp only [zL, zK] at hO) | ((with_reducible refine zaa ?_); refine zay rfl (by (first | rfl | (simp only [Region.wanted, yielded, *]; go_simp; done) | (simp [Region.wanted, yielded, *]; done) | fail)) hO rfl _ (by (first | exact at0 | exact at1 | exact at2 | exact at3 | exact at4 | exact at5 | exact at6 | exact at7 | exact at8)) (by rfl) (by simp only [Act.put, zA, zB, zC]; rfl) ?_) | ((with_reducible refine zaa ?_); refine zag rfl (by (first | rfl | (simp only [Region.wanted, yielded, *]; go_simp; done) | (simp [Region.wanted, yielded, *]; done) | fail)) hO rfl _ (by (first | exact at0 | exact at1 | exact at2 | exact at3 | exact at4 | exact at5 | exact at6 | exact at7 | exact at8)) (by rfl) (by simp only [Act.put, zA, zB, zC]; rfl) ?_) | ((with_reducible refine zab ?_); refine zsb rfl hO rfl _ (by (first | exact at0 | exact at1 | exact at2 | exact at3 | exact at4 | exact at5 | exact at6 | exact at7 | exact at8)) rfl ?_; clear hO; intro u hO; simp only [zC, zB] at hO) | ((with_reducible refine zab ?_); refine zsf rfl hO rfl _ (by (first | exact at0 | exact at1 | exact at2 | exact at3 | exact at4 | exact at5 | exact at6 | exact at7 | exact at8)) (zM rfl) ?_; clear hO; intro u hO; simp only [zC, zB] at hO) | fail)
              replace hO := hO.pick [0, 1, 2, 3, 4] (by decide)
              simp only [zN, zO, zE, zD] at hO
              rw [← HSS.out] at hO
              go_roundw
              case rel => exact ⟨m + 1, _, _, by omega, by go_num, hO⟩
              case measure => simp [intOf]; omega
          · have hmn : m = ps.length := by omega
            subst hmn
            have HN : Hid (is.length + ps.length = (is.map (fun x => msI (misB x)) ++ ps.map fun x => msI (misP x)).length) := Lib.hid (by simp)
            rw [List.take_length] at hO
            go_wp2_with (first | ((with_reducible refine zac ?_); refine zal rfl hO rfl ?_; (first | (refine nm 0 rfl ?_; clear hO; intro b0 u hO) | (refine nm 1 rfl ?_; clear hO; intro b1 u hO) | (refine nm 2 rfl ?_; clear hO; intro b2 u hO) | (refine nm 3 rfl ?_; clear hO; intro b3 u hO) | (refine nm 4 rfl ?_; clear hO; intro b4 u hO) | (refine nm 5 rfl ?_; clear hO; intro b5 u hO) | (refine nm 6 rfl ?_; clear hO; intro b6 u hO) | (refine nm 7 rfl ?_; clear hO; intro b7 u hO) | (refine nm 8 rfl ?_; clear hO; intro b8 u hO)); simp only [zL, zK] at hO) | ((with_reducible refine zad ?_); refine zbx rfl hO rfl rfl ?_; (first | (refine nm 0 rfl ?_; clear hO; intro b0 u hO) | (refine nm 1 rfl ?_; clear hO; intro b1 u hO) | (refine nm 2 rfl ?_; clear hO; intro b2 u hO) | (refine nm 3 rfl ?_; clear hO; intro b3 u hO) | (refine nm 4 rfl ?_; clear hO; intro b4 u hO) | (refine nm 5 rfl ?_; clear hO; intro b5 u hO) | (refine nm 6 rfl ?_; clear hO; intro b6 u hO) | (refine nm 7 rfl ?_; clear hO; intro b7 u hO) | (refine nm 8 rfl ?_; clear hO; intro b8 u hO)); simp only [zL, zK] at hO) | ((with_reducible refine zaa ?_); refine zay rfl (by (first | rfl | (simp only [Region.wanted, yielded, *]; go_simp; done) | (simp [Region.wanted, yielded, *]; done) | fail)) hO rfl _ (by (first | exact at0 | exact at1 | exact at2 | exact at3 | exact at4 | exact at5 | exact at6 | exact at7 | exact at8)) (by rfl) (by simp only [Act.put, zA, zB, zC]; rfl) ?_) | ((with_reducible refine zaa ?_); refine zag rfl (by (first | rfl | (simp only [Region.wanted, yielded, *]; go_simp; done) | (simp [Region.wanted, yielded, *]; done) | fail)) hO rfl _ (by (first | exact at0 | exact at1 | exact at2 | exact at3 | exact at4 | exact at5 | exact at6 | exact at7 | exact at8)) (by rfl) (by simp only [Act.put, zA, zB, zC]; rfl) ?_) | ((with_reducible refine zab ?_); refine zsb rfl hO rfl _ (by (first | exact at0 | exact at1 | exact at2 | exact at3 | exact at4 | exact at5 | exact at6 | exact at7 | exact at8)) rfl ?_; clear hO; intro u hO; simp only [zC, zB] at hO) | ((with_reducible refine zab ?_); refine zsf rfl hO rfl _ (by (first | exact at0 | exact at1 | exact at2 | exact at3 | exact at4 | exact at5 | exact at6 | exact at7 | exact at8)) (zM rfl) ?_; clear hO; intro u hO; simp only [zC, zB] at hO) | fail)
            have hR := hO.pick [4, 3] (by decide)
            simp only [List.filterMap_cons, List.filterMap_nil, List.getElem?_cons_zero, List.getElem?_cons_succ] at hR
            have hq := HN.out
            refine zau rfl hO rfl 1 at1 rfl rfl rfl ?_
            clear hO
            rw [hq] at hR ⊢
            obtain ⟨F, hvo, hF⟩ := Own.vecN hR 1
            exact ⟨_, _, by rw [HG.out]; rfl, by rw [HF.out]; exact hvo, hF⟩

end Go.Proofs.YtmofcbpabdbjlaaGreat
