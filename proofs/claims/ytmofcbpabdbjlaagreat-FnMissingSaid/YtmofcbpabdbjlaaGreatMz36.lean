/-
  What is proved: what CompareVectors (of the program) returns.
  Condition: vectors of size at most 1048576.
-/
import Derived.Test.YtmofcbpabdbjlaaGreatMz4
import Derived.Test.YtmofcbpabdbjlaaGreatMz34
namespace Go.Proofs.YtmofcbpabdbjlaaGreat

set_option maxRecDepth 8000

open Go.RowKit Go.ChangeShapes Go.WideShapes Go.Deep

set_option linter.unusedVariables false

set_option linter.unusedSimpArgs false

theorem enters_cp : Enters 26 := Enters.of (c := _) Tryz.func26 rfl rfl

set_option maxHeartbeats 1000000 in
theorem impl_cpF (op : ByteArray) (kind : Int) (b b' : Nat) (xn xd : Int) (xt : ByteArray) (yn yd : Int) (yt : ByteArray) (w : World) (ho : cK op < 6) (hb : b < w.heap.size) (hc : w.cell? ⟨b, 0, none⟩ = some (.string op)) (hb' : b' < w.heap.size) (hc' : w.cell? ⟨b', 0, none⟩ = some (.int .i64 kind)) :
    Calls Tryz.prog 26 #[.agg #[.int .i64 xn, .int .i64 xd, .string xt], .agg #[.int .i64 yn, .int .i64 yd, .string yt], .pointer (some ⟨b, 0, none⟩), .pointer (some ⟨b', 0, none⟩)] w fun e w' => e = .returned (.agg #[.int .i64 (cpF op kind ⟨xn, xd, xt⟩ ⟨yn, yd, yt⟩).num, .int .i64 (cpF op kind ⟨xn, xd, xt⟩ ⟨yn, yd, yt⟩).den, .string (cpF op kind ⟨xn, xd, xt⟩ ⟨yn, yd, yt⟩).text]) ∧ Below w.heap.size w w' := by
  have C1 := fun u => zba xn xd xt u
  have C2 := fun u => zba yn yd yt u
  have HE : Hid (cpF op kind ⟨xn, xd, xt⟩ ⟨yn, yd, yt⟩ = if misB ⟨xn, xd, xt⟩ || misB ⟨yn, yd, yt⟩ then ⟨0, 0, ⟨#[]⟩⟩ else msI (cmpV (cK op) (itmC kind ⟨xn, xd, xt⟩ ⟨yn, yd, yt⟩))) := Lib.hid rfl
  obtain ⟨X, hX⟩ : ∃ X, cpF op kind ⟨xn, xd, xt⟩ ⟨yn, yd, yt⟩ = X := ⟨_, rfl⟩
  rw [hX] at HE ⊢
  clear hX
  cases h1 : misB ⟨xn, xd, xt⟩ with
  | true =>
    rw [h1] at C1 HE
    have HF : Hid (X = ⟨0, 0, ⟨#[]⟩⟩) := Lib.hid (by rw [HE.out]; rfl)
    clear HE h1
    go_enter Tryz.func26, Tryz.ntmps26
    have hO := Own.nil w
    go_wp2_with (first | ((with_reducible refine (C1 _).mono ?_); rintro e u ⟨rfl, hb⟩; (replace hO := hO.step hb; clear hb)) | ((with_reducible refine zac ?_); refine zal rfl hO rfl ?_; (refine nm 2 rfl ?_; clear hO; intro b2 u hO); simp only [zL, zK] at hO) | ((with_reducible refine zad ?_); refine zbx rfl hO rfl rfl ?_; (first | (refine nm 0 rfl ?_; clear hO; intro b0 u hO) | (refine nm 1 rfl ?_; clear hO; intro b1 u hO) | fail); simp only [zL, zK] at hO) | ((with_reducible refine zaa ?_); refine zlb rfl hO rfl _ (by exact at0) ?_) | ((with_reducible refine zab ?_); refine zsb rfl hO rfl _ (by exact at2) rfl ?_; clear hO; intro u hO; simp only [zC, zB] at hO) | fail)
    exact zan rfl hO rfl 2 at2 rfl rfl ⟨by rw [HF.out], hO.below⟩
  | false =>
    rw [h1] at C1 HE
    cases h2 : misB ⟨yn, yd, yt⟩ with
    | true =>
      rw [h2] at C2 HE
      have HF : Hid (X = ⟨0, 0, ⟨#[]⟩⟩) := Lib.hid (by rw [HE.out]; rfl)
      clear HE h1 h2
      go_enter Tryz.func26, Tryz.ntmps26
      have hO := Own.nil w
      go_wp2_with (first | ((with_reducible refine (C1 _).mono ?_); rintro e u ⟨rfl, hb⟩; (replace hO := hO.step hb; clear hb)) | ((with_reducible refine (C2 _).mono ?_); rintro e u ⟨rfl, hb⟩; (replace hO := hO.step hb; clear hb)) | ((with_reducible refine zac ?_); refine zal rfl hO rfl ?_; (refine nm 2 rfl ?_; clear hO; intro b2 u hO); simp only [zL, zK] at hO) | ((with_reducible refine zad ?_); refine zbx rfl hO rfl rfl ?_; (first | (refine nm 0 rfl ?_; clear hO; intro b0 u hO) | (refine nm 1 rfl ?_; clear hO; intro b1 u hO) | fail); simp only [zL, zK] at hO) | ((with_reducible refine zaa ?_); refine zlb rfl hO rfl _ (by (first | exact at0 | exact at1 | fail)) ?_) | ((with_reducible refine zab ?_); refine zsb rfl hO rfl _ (by exact at2) rfl ?_; clear hO; intro u hO; simp only [zC, zB] at hO) | fail)
      exact zan rfl hO rfl 2 at2 rfl rfl ⟨by rw [HF.out], hO.below⟩
    | false =>
      rw [h2] at C2 HE
      have HF : Hid (X = msI (cmpV (cK op) (itmC kind ⟨xn, xd, xt⟩ ⟨yn, yd, yt⟩))) := Lib.hid (by rw [HE.out]; rfl)
      clear HE h1 h2
      go_enter Tryz.func26, Tryz.ntmps26
      have hO := Own.nil w
      go_wp2_with (first | ((with_reducible refine (C1 _).mono ?_); rintro e u ⟨rfl, hb⟩; (replace hO := hO.step hb; clear hb)) | ((with_reducible refine (C2 _).mono ?_); rintro e u ⟨rfl, hb⟩; (replace hO := hO.step hb; clear hb)) | ((with_reducible refine zac ?_); refine zal rfl hO rfl ?_; (refine nm 2 rfl ?_; clear hO; intro b2 u hO); simp only [zL, zK] at hO) | ((with_reducible refine zad ?_); refine zbx rfl hO rfl rfl ?_; (first | (refine nm 0 rfl ?_; clear hO; intro b0 u hO) | (refine nm 1 rfl ?_; clear hO; intro b1 u hO) | fail); simp only [zL, zK] at hO) | ((with_reducible refine zaa ?_); refine zlb rfl hO rfl _ (by (first | exact at0 | exact at1 | fail)) ?_) | fail)
      refine J.wp_region_c (n := 21) [0, 1, 2, 3, 4, 5, 6] [] (deps := fun i => [[], [], [], [], [1, 2, 3], [0, 1, 2, 3, 4], [0, 1, 2, 3, 4, 5], []].getD i []) (fun _ _ _ => True) (r := 1) (lst := #[true, true, true, true, true, true, true, false]) (by kernel_rfl) (by kernel_rfl) (by kernel_rfl) rfl (by decide) (by kernel_rfl) hO ?_
      refine zcc (f := fun M u hO K hK => by ((have e0 := (hO.old hb).trans hc; have e1 := (hO.old hb').trans hc'; simp only [wp_at_zero, wp_at_succ]; go_step; exact hK _ hO))) (h := ?_)
      refine zcc (f := fun M u hO K hK => by ((have e0 := (hO.old hb).trans hc; have e1 := (hO.old hb').trans hc'; simp only [wp_at_zero, wp_at_succ]; go_step; exact hK _ hO))) (h := ?_)
      refine zcc (f := fun M u hO K hK => by (exact zah hO rfl rfl _ (by exact at0) (by rfl) (by rfl) (hK _ hO))) (h := ?_)
      refine zcc (f := fun M u hO K hK => by (exact zah hO rfl rfl _ (by exact at1) (by rfl) (by rfl) (hK _ hO))) (h := ?_)
      refine zcc (f := fun M u hO K hK => by (simp only [wp_at_zero, wp_at_succ]; go_step; refine (impl_compareItems _ _ _ _ _ _ _ _).mono ?_; rintro e u ⟨rfl, hb⟩; exact hK _ (hO.step hb))) (h := ?_)
      refine zcc (f := fun M u hO K hK => by (simp only [wp_at_zero, wp_at_succ]; go_step; refine (impl_compared _ _ _ ho).mono ?_; rintro e u ⟨rfl, hb⟩; exact hK _ (hO.step hb))) (h := ?_)
      refine zcc (f := fun M u hO K hK => by (simp only [wp_at_zero, wp_at_succ]; go_step; refine (impl_boolItem _ _).mono ?_; rintro e u ⟨rfl, hb⟩; exact hK _ (hO.step hb))) (h := ?_)
      refine J.Chain.nil ⟨?_, ?_⟩
      · exact J.Each.nil
      intro vs u hO hF
      clear hF
      simp only [List.flatMap_cons, List.flatMap_nil, List.append_nil, zL, zK] at hO
      simp only [J.putL]
      clear vs
      refine J.wpAny_one (i := 7) (by kernel_rfl) (by rfl) rfl fun K hK => ?_
      (refine zaf hO rfl rfl _ (by exact at2) rfl (by rfl) (by rfl) (by rfl) (by rfl) (by rfl) ?_; clear hO; intro u hO; simp only [zC, zB] at hO; refine hK _ _ ?_; clear hK K)
      refine wpAny_done (by kernel_rfl) ?_ _
      go_wp2_with fail
      exact zan rfl hO rfl 2 at2 rfl rfl ⟨by rw [HF.out]; rfl, hO.below⟩

set_option maxRecDepth 20000 in
set_option maxHeartbeats 8000000 in
theorem impl_cm (op : ByteArray) (ta tb : VT) (va vb : List Value) (w : World) (ha : RdV w ta va) (hb : RdV w tb vb) (hza : szV ta ≤ 1048576) (hzb : szV tb ≤ 1048576) : Calls Tryz.prog 7 #[.string op, .agg va.toArray, .agg vb.toArray] w (RetVS (cmT op ta tb) (cmS op ta tb) w) := by
  have CA := fun u (h : Below w.heap.size w u) => impl_isVec ta _ u (ha.grow h) hza
  have CB := fun u (h : Below w.heap.size w u) => impl_isVec tb _ u (hb.grow h) hzb
  have CX := fun u (h : Below w.heap.size w u) (hV : isV ta = true) (h3 : ta.kind ≤ 3) => (impl_plain ta _ u (ha.grow h) hV h3).mono fun e' w' h => RetV.exC (xk := plK ta) (xi := plL ta) (xp := []) (xn := []) (xc := []) (xl := []) (xo := 0) (xe := 0) h
  have CY := fun u (h : Below w.heap.size w u) (hV : isV tb = true) (h3 : tb.kind ≤ 3) => (impl_plain tb _ u (hb.grow h) hV h3).mono fun e' w' h => RetV.exC (xk := plK tb) (xi := plL tb) (xp := []) (xn := []) (xc := []) (xl := []) (xo := 0) (xe := 0) h
  have KA : Hid (isV ta = true → ta.items.length ≤ 40 ∧ (ta.names.length = 0 ∨ ta.names.length = lenV ta) ∧ 0 ≤ ta.kind) := Lib.hid (fun h => isV_lensC h)
  have KB : Hid (isV tb = true → tb.items.length ≤ 40 ∧ (tb.names.length = 0 ∨ tb.names.length = lenV tb) ∧ 0 ≤ tb.kind) := Lib.hid (fun h => isV_lensC h)
  have PA : Hid (isV ta = true → ta.kind ≤ 3 → (0 ≤ plK ta ∧ plK ta ≤ 3) ∧ (∀ x ∈ plL ta, itemB (plK ta) x = true) ∧ (plL ta).length = ta.items.length ∧ szV (.mk (plK ta) (plL ta) [] [] [] [] 0 0) ≤ 1048576) := Lib.hid (fun h h3 => ⟨plK_bd h h3, pl_item h, pl_len ta, pl_sz h⟩)
  have PB : Hid (isV tb = true → tb.kind ≤ 3 → (0 ≤ plK tb ∧ plK tb ≤ 3) ∧ (∀ x ∈ plL tb, itemB (plK tb) x = true) ∧ (plL tb).length = tb.items.length ∧ szV (.mk (plK tb) (plL tb) [] [] [] [] 0 0) ≤ 1048576) := Lib.hid (fun h h3 => ⟨plK_bd h h3, pl_item h, pl_len tb, pl_sz h⟩)
  have HT : Hid (cmT op ta tb = if isV ta && isV tb then (if cK op < 6 then (if ta.kind ≤ 3 ∧ tb.kind ≤ 3 then (if recB ta.items.length tb.items.length then cmW op ta tb else vecI 0 []) else vecI 0 []) else vecI 0 []) else vecI 0 []) := Lib.hid rfl
  have HS : Hid (cmS op ta tb = if isV ta && isV tb then (if cK op < 6 then (if ta.kind ≤ 3 ∧ tb.kind ≤ 3 then (if recB ta.items.length tb.items.length then ⟨#[]⟩ else difS) else notAtS) else unkS) else badS) := Lib.hid rfl
  have HW : Hid (cmW op ta tb = vecN 1 (pwL (atI ((plL ta).map (cvI (plK ta) (if plK ta = 3 ∨ plK tb = 3 then 3 else 2)))) (atI ((plL tb).map (cvI (plK tb) (if plK ta = 3 ∨ plK tb = 3 then 3 else 2)))) (cpF op (if plK ta = 3 ∨ plK tb = 3 then 3 else 2)) (recN ta.items.length tb.items.length)) (nmQ (recN ta.items.length tb.items.length) (lenV ta) ta.names (lenV tb) tb.names)) := Lib.hid rfl
  obtain ⟨X, hX⟩ : ∃ X, cmT op ta tb = X := ⟨_, rfl⟩
  obtain ⟨Y, hY⟩ : ∃ Y, cmS op ta tb = Y := ⟨_, rfl⟩
  rw [hX] at HT
  rw [hY] at HS
  rw [hX, hY]
  obtain ⟨W, hW⟩ : ∃ W, cmW op ta tb = W := ⟨_, rfl⟩
  rw [hW] at HT HW
  obtain ⟨qa, hqa⟩ : ∃ q, isV ta = q := ⟨_, rfl⟩
  obtain ⟨qb, hqb⟩ : ∃ q, isV tb = q := ⟨_, rfl⟩
  rw [hqa] at CA CX HT HS KA PA
  rw [hqb] at CB CY HT HS KB PB
  obtain ⟨pk, hpk⟩ : ∃ q, plK ta = q := ⟨_, rfl⟩
  obtain ⟨pl, hpl⟩ : ∃ q, plL ta = q := ⟨_, rfl⟩
  obtain ⟨rk, hrk⟩ : ∃ q, plK tb = q := ⟨_, rfl⟩
  obtain ⟨rl, hrl⟩ : ∃ q, plL tb = q := ⟨_, rfl⟩
  rw [hpk, hpl] at CX PA HW
  rw [hrk, hrl] at CY PB HW
  clear hX hY hW hqa hqb hpk hpl hrk hrl
  obtain ⟨k, is, ps, ns, cs, ls, c, e⟩ := ta
  obtain ⟨k', is', ps', ns', cs', ls', c', e'⟩ := tb
  have hsa : szI is + szL ps + szS ns + szS cs + szS ls ≤ 1048576 := hza
  have hsb : szI is' + szL ps' + szS ns' + szS cs' + szS ls' ≤ 1048576 := hzb
  have ya : ns.length ≤ 1048576 := by unfold szS at hsa; omega
  have yb : ns'.length ≤ 1048576 := by unfold szS at hsb; omega
  have xa : (is.length : Int) + ps.length ≤ 9223372036854775807 := by have := szL_eq ps; unfold szI at hsa; omega
  have xb : (is'.length : Int) + ps'.length ≤ 9223372036854775807 := by have := szL_eq ps'; unfold szI at hsb; omega
  replace HT : Hid (X = if qa && qb then (if cK op < 6 then (if k ≤ 3 ∧ k' ≤ 3 then (if recB is.length is'.length then W else vecI 0 []) else vecI 0 []) else vecI 0 []) else vecI 0 []) := HT
  replace HS : Hid (Y = if qa && qb then (if cK op < 6 then (if k ≤ 3 ∧ k' ≤ 3 then (if recB is.length is'.length then ⟨#[]⟩ else difS) else notAtS) else unkS) else badS) := HS
  replace HW : Hid (W = vecN 1 (pwL (atI (pl.map (cvI pk (if pk = 3 ∨ rk = 3 then 3 else 2)))) (atI (rl.map (cvI rk (if pk = 3 ∨ rk = 3 then 3 else 2)))) (cpF op (if pk = 3 ∨ rk = 3 then 3 else 2)) (recN is.length is'.length)) (nmQ (recN is.length is'.length) (lenN k is.length ps.length) ns (lenN k' is'.length ps'.length) ns')) := HW
  replace KA : Hid (qa = true → is.length ≤ 40 ∧ (ns.length = 0 ∨ ns.length = lenN k is.length ps.length) ∧ 0 ≤ k) := KA
  replace KB : Hid (qb = true → is'.length ≤ 40 ∧ (ns'.length = 0 ∨ ns'.length = lenN k' is'.length ps'.length) ∧ 0 ≤ k') := KB
  replace PA : Hid (qa = true → k ≤ 3 → (0 ≤ pk ∧ pk ≤ 3) ∧ (∀ x ∈ pl, itemB pk x = true) ∧ pl.length = is.length ∧ szV (.mk pk pl [] [] [] [] 0 0) ≤ 1048576) := PA
  replace PB : Hid (qb = true → k' ≤ 3 → (0 ≤ rk ∧ rk ≤ 3) ∧ (∀ x ∈ rl, itemB rk x = true) ∧ rl.length = is'.length ∧ szV (.mk rk rl [] [] [] [] 0 0) ≤ 1048576) := PB
  obtain ⟨Ai, Ap, An, Ac, Al, ci, cp, cn, cc, cl, pvs, rfl, h1, h2, h3, h4, h5⟩ := ha.open
  obtain ⟨Bi, Bp, Bn, Bc, Bl, di, dp, dn, dc, dl, pvs', rfl, g1, g2, g3, g4, g5⟩ := hb.open
  have S3 := fun u (h : Below w.heap.size w u) => h3.below h
  have S4 := fun u (h : Below w.heap.size w u) => g3.below h
  clear ha hb hza hzb hsa hsb h1 h2 h3 h4 h5 g1 g2 g3 g4 g5
  cases qa with
  | false =>
    have HF : Hid (X = vecI 0 []) := Lib.hid (by rw [HT.out]; rfl)
    have HG : Hid (Y = badS) := Lib.hid (by rw [HS.out]; rfl)
    clear HT HS HW KA KB PA PB CX CY S3 S4
    go_enter Tryz.func7, Tryz.ntmps7
    have hO := Own.nil w
    go_wp2_with (first | ((with_reducible refine (CA _ hO.below).mono ?_); rintro e u ⟨rfl, hb⟩; (replace hO := hO.step hb; clear hb)) | (with_reducible refine zaq ?_) | ((with_reducible refine zac ?_); refine zal rfl hO rfl ?_; (refine nm 3 rfl ?_; clear hO; intro b3 u hO); simp only [zL, zK] at hO) | ((with_reducible refine zad ?_); refine zbx rfl hO rfl rfl ?_; (first | (refine nm 1 rfl ?_; clear hO; intro b1 u hO) | (refine nm 2 rfl ?_; clear hO; intro b2 u hO) | fail); simp only [zL, zK] at hO) | ((with_reducible refine zaa ?_); refine zlb rfl hO rfl _ (by exact at1) ?_) | ((with_reducible refine zab ?_); refine zsc rfl hO rfl _ (by exact at3) ?_; clear hO; intro u hO; simp only [zC, zB] at hO) | ((with_reducible refine zad ?_); refine za9 rfl (by rfl) hO rfl rfl (fun b => by simp only [Act.put, zA, zB, zC]; rfl) ?_; (refine nm 0 rfl ?_; clear hO; intro b0 u hO); simp only [zL, zK] at hO) | fail)
    obtain ⟨F0, hvo0, hF⟩ := Own.vec0 u 0
    exact ⟨zau rfl hO rfl 3 at3 rfl rfl rfl ⟨_, _, by rw [HG.out]; rfl, by rw [HF.out]; exact hvo0, (hO.call hF).pick [0] (by decide)⟩⟩
  | true =>
  cases qb with
  | false =>
    have HF : Hid (X = vecI 0 []) := Lib.hid (by rw [HT.out]; rfl)
    have HG : Hid (Y = badS) := Lib.hid (by rw [HS.out]; rfl)
    clear HT HS HW KA KB PA PB CX CY S3 S4
    go_enter Tryz.func7, Tryz.ntmps7
    have hO := Own.nil w
    go_wp2_with (first | ((with_reducible refine (CA _ hO.below).mono ?_); rintro e u ⟨rfl, hb⟩; (replace hO := hO.step hb; clear hb)) | ((with_reducible refine (CB _ hO.below).mono ?_); rintro e u ⟨rfl, hb⟩; (replace hO := hO.step hb; clear hb)) | (with_reducible refine zaq ?_) | ((with_reducible refine zac ?_); refine zal rfl hO rfl ?_; (refine nm 3 rfl ?_; clear hO; intro b3 u hO); simp only [zL, zK] at hO) | ((with_reducible refine zad ?_); refine zbx rfl hO rfl rfl ?_; (first | (refine nm 1 rfl ?_; clear hO; intro b1 u hO) | (refine nm 2 rfl ?_; clear hO; intro b2 u hO) | fail); simp only [zL, zK] at hO) | ((with_reducible refine zaa ?_); refine zlb rfl hO rfl _ (by (first | exact at1 | exact at2 | fail)) ?_) | ((with_reducible refine zab ?_); refine zsc rfl hO rfl _ (by exact at3) ?_; clear hO; intro u hO; simp only [zC, zB] at hO) | ((with_reducible refine zad ?_); refine za9 rfl (by rfl) hO rfl rfl (fun b => by simp only [Act.put, zA, zB, zC]; rfl) ?_; (refine nm 0 rfl ?_; clear hO; intro b0 u hO); simp only [zL, zK] at hO) | fail)
    obtain ⟨F0, hvo0, hF⟩ := Own.vec0 u 0
    exact ⟨zau rfl hO rfl 3 at3 rfl rfl rfl ⟨_, _, by rw [HG.out]; rfl, by rw [HF.out]; exact hvo0, (hO.call hF).pick [0] (by decide)⟩⟩
  | true =>
  obtain ⟨la, na, k0⟩ := KA.out rfl
  obtain ⟨lb, nb, k0'⟩ := KB.out rfl
  have CO := fun u => impl_isComparison op u
  by_cases ho : ¬ cK op < 6
  · have HF : Hid (X = vecI 0 []) := Lib.hid (by rw [HT.out]; simp [ho])
    have HG : Hid (Y = unkS) := Lib.hid (by rw [HS.out]; simp [ho])
    rw [decide_eq_false ho] at CO
    clear HT HS HW KA KB PA PB CX CY S3 S4
    go_enter Tryz.func7, Tryz.ntmps7
    have hO := Own.nil w
    go_wp2_with (first | ((with_reducible refine (CA _ hO.below).mono ?_); rintro e u ⟨rfl, hb⟩; (replace hO := hO.step hb; clear hb)) | ((with_reducible refine (CB _ hO.below).mono ?_); rintro e u ⟨rfl, hb⟩; (replace hO := hO.step hb; clear hb)) | ((with_reducible refine (CO _).mono ?_); rintro e u ⟨rfl, hb⟩; (replace hO := hO.step hb; clear hb)) | (with_reducible refine zaq ?_) | ((with_reducible refine zac ?_); refine zal rfl hO rfl ?_; (refine nm 3 rfl ?_; clear hO; intro b3 u hO); simp only [zL, zK] at hO) | ((with_reducible refine zad ?_); refine zbx rfl hO rfl rfl ?_; (first | (refine nm 1 rfl ?_; clear hO; intro b1 u hO) | (refine nm 2 rfl ?_; clear hO; intro b2 u hO) | fail); simp only [zL, zK] at hO) | ((with_reducible refine zaa ?_); refine zlb rfl hO rfl _ (by (first | exact at1 | exact at2 | fail)) ?_) | ((with_reducible refine zaa ?_); refine zlf rfl hO rfl _ (by exact at0) ?_) | ((with_reducible refine zab ?_); refine zsc rfl hO rfl _ (by exact at3) ?_; clear hO; intro u hO; simp only [zC, zB] at hO) | ((with_reducible refine zad ?_); refine za9 rfl (by rfl) hO rfl rfl (fun b => by simp only [Act.put, zA, zB, zC]; rfl) ?_; (refine nm 0 rfl ?_; clear hO; intro b0 u hO); simp only [zL, zK] at hO) | fail)
    obtain ⟨F0, hvo0, hF⟩ := Own.vec0 u 0
    exact ⟨zau rfl hO rfl 3 at3 rfl rfl rfl ⟨_, _, by rw [HG.out]; rfl, by rw [HF.out]; exact hvo0, (hO.call hF).pick [0] (by decide)⟩⟩
  replace ho := Decidable.not_not.1 ho
  rw [decide_eq_true ho] at CO
  by_cases h4 : 4 ≤ k
  · have hn : ¬ (k ≤ 3 ∧ k' ≤ 3) := by omega
    have HF : Hid (X = vecI 0 []) := Lib.hid (by rw [HT.out]; simp [ho, hn])
    have HG : Hid (Y = notAtS) := Lib.hid (by rw [HS.out]; simp [ho, hn])
    clear HT HS HW KA KB PA PB CX CY S3 S4
    clear hn
    go_enter Tryz.func7, Tryz.ntmps7
    have hO := Own.nil w
    go_wp2_with (first | ((with_reducible refine (CA _ hO.below).mono ?_); rintro e u ⟨rfl, hb⟩; (replace hO := hO.step hb; clear hb)) | ((with_reducible refine (CB _ hO.below).mono ?_); rintro e u ⟨rfl, hb⟩; (replace hO := hO.step hb; clear hb)) | ((with_reducible refine (CO _).mono ?_); rintro e u ⟨rfl, hb⟩; (replace hO := hO.step hb; clear hb)) | (with_reducible refine zaq ?_) | ((with_reducible refine zac ?_); refine zal rfl hO rfl ?_; (refine nm 3 rfl ?_; clear hO; intro b3 u hO); simp only [zL, zK] at hO) | ((with_reducible refine zad ?_); refine zbx rfl hO rfl rfl ?_; (first | (refine nm 1 rfl ?_; clear hO; intro b1 u hO) | (refine nm 2 rfl ?_; clear hO; intro b2 u hO) | fail); simp only [zL, zK] at hO) | ((with_reducible refine zaa ?_); refine zlb rfl hO rfl _ (by (first | exact at1 | exact at2 | fail)) ?_) | ((with_reducible refine zaa ?_); refine zlf rfl hO rfl _ (by (first | exact at0 | exact at1 | fail)) ?_) | ((with_reducible refine zab ?_); refine zsc rfl hO rfl _ (by exact at3) ?_; clear hO; intro u hO; simp only [zC, zB] at hO) | ((with_reducible refine zad ?_); refine za9 rfl (by rfl) hO rfl rfl (fun b => by simp only [Act.put, zA, zB, zC]; rfl) ?_; (refine nm 0 rfl ?_; clear hO; intro b0 u hO); simp only [zL, zK] at hO) | fail)
    obtain ⟨F0, hvo0, hF⟩ := Own.vec0 u 0
    exact ⟨zau rfl hO rfl 3 at3 rfl rfl rfl ⟨_, _, by rw [HG.out]; rfl, by rw [HF.out]; exact hvo0, (hO.call hF).pick [0] (by decide)⟩⟩
  by_cases h4' : 4 ≤ k'
  · have hn : ¬ (k ≤ 3 ∧ k' ≤ 3) := by omega
    have HF : Hid (X = vecI 0 []) := Lib.hid (by rw [HT.out]; simp [ho, hn])
    have HG : Hid (Y = notAtS) := Lib.hid (by rw [HS.out]; simp [ho, hn])
    clear HT HS HW KA KB PA PB CX CY S3 S4
    clear hn
    go_enter Tryz.func7, Tryz.ntmps7
    have hO := Own.nil w
    go_wp2_with (first | ((with_reducible refine (CA _ hO.below).mono ?_); rintro e u ⟨rfl, hb⟩; (replace hO := hO.step hb; clear hb)) | ((with_reducible refine (CB _ hO.below).mono ?_); rintro e u ⟨rfl, hb⟩; (replace hO := hO.step hb; clear hb)) | ((with_reducible refine (CO _).mono ?_); rintro e u ⟨rfl, hb⟩; (replace hO := hO.step hb; clear hb)) | (with_reducible refine zaq ?_) | ((with_reducible refine zac ?_); refine zal rfl hO rfl ?_; (refine nm 3 rfl ?_; clear hO; intro b3 u hO); simp only [zL, zK] at hO) | ((with_reducible refine zad ?_); refine zbx rfl hO rfl rfl ?_; (first | (refine nm 1 rfl ?_; clear hO; intro b1 u hO) | (refine nm 2 rfl ?_; clear hO; intro b2 u hO) | fail); simp only [zL, zK] at hO) | ((with_reducible refine zaa ?_); refine zlb rfl hO rfl _ (by (first | exact at1 | exact at2 | fail)) ?_) | ((with_reducible refine zaa ?_); refine zag rfl (by (first | rfl | (simp only [Region.wanted, yielded, *]; go_simp; done) | fail)) hO rfl _ (by (first | exact at0 | exact at1 | exact at2 | fail)) (by rfl) (by simp only [Act.put, zA, zB, zC]; rfl) ?_) | ((with_reducible refine zab ?_); refine zsc rfl hO rfl _ (by exact at3) ?_; clear hO; intro u hO; simp only [zC, zB] at hO) | ((with_reducible refine zad ?_); refine za9 rfl (by rfl) hO rfl rfl (fun b => by simp only [Act.put, zA, zB, zC]; rfl) ?_; (refine nm 0 rfl ?_; clear hO; intro b0 u hO); simp only [zL, zK] at hO) | fail)
    obtain ⟨F0, hvo0, hF⟩ := Own.vec0 u 0
    exact ⟨zau rfl hO rfl 3 at3 rfl rfl rfl ⟨_, _, by rw [HG.out]; rfl, by rw [HF.out]; exact hvo0, (hO.call hF).pick [0] (by decide)⟩⟩
  have k3 : k ≤ 3 := by omega
  have k3' : k' ≤ 3 := by omega
  obtain ⟨⟨p0, p3⟩, pit, plen, psz⟩ := PA.out rfl k3
  obtain ⟨⟨r0, r3⟩, rit, rlen, rsz⟩ := PB.out rfl k3'
  replace CX := fun u (h : Below w.heap.size w u) => CX u h rfl k3
  replace CY := fun u (h : Below w.heap.size w u) => CY u h rfl k3'
  have HT' : Hid (X = if recB is.length is'.length then W else vecI 0 []) := Lib.hid (by rw [HT.out]; simp [ho, k3, k3'])
  have HS' : Hid (Y = if recB is.length is'.length then ⟨#[]⟩ else difS) := Lib.hid (by rw [HS.out]; simp [ho, k3, k3'])
  obtain ⟨K, hK⟩ : ∃ K : Int, (if pk = 3 ∨ rk = 3 then 3 else 2 : Int) = K := ⟨_, rfl⟩
  rw [hK] at HW
  have hKK : pk ≤ K ∧ rk ≤ K ∧ K ≤ 3 := by
    by_cases h : pk = 3 ∨ rk = 3
    · rw [if_pos h] at hK; omega
    · rw [if_neg h] at hK; omega
  obtain ⟨pK, rK, K3⟩ := hKK
  have e5 : ∀ (x : Int) (l : List It), x ≤ 3 → x ≤ K → cvT K (.mk x l [] [] [] [] 0 0) = .mk K (l.map (cvI x K)) [] [] [] [] 0 0 := fun x l hx hxK => by
    show (if x = 5 then _ else if K < x then _ else if K = 4 then _ else _) = _
    rw [if_neg (by omega), if_neg (by omega), if_neg (by omega)]
    rfl
  have e6 : ∀ (x : Int) (l : List It), x ≤ 3 → x ≤ K → cvB K (.mk x l [] [] [] [] 0 0) = true := fun x l hx hxK => by
    show (if x = 5 then _ else decide (x ≤ K)) = true
    rw [if_neg (by omega)]
    exact decide_eq_true hxK
  have CP := fun vs u (h : RdV u (.mk pk pl [] [] [] [] 0 0) vs) => RetVE.ofB (impl_convert K (.mk pk pl [] [] [] [] 0 0) vs u h psz pit)
  have CR := fun vs u (h : RdV u (.mk rk rl [] [] [] [] 0 0) vs) => RetVE.ofB (impl_convert K (.mk rk rl [] [] [] [] 0 0) vs u h rsz rit)
  rw [e5 pk pl p3 pK, e6 pk pl p3 pK] at CP
  rw [e5 rk rl r3 rK, e6 rk rl r3 rK] at CR
  obtain ⟨xl, hxl⟩ : ∃ l, pl.map (cvI pk K) = l := ⟨_, rfl⟩
  obtain ⟨yl, hyl⟩ : ∃ l, rl.map (cvI rk K) = l := ⟨_, rfl⟩
  have lx : xl.length = is.length := by rw [← hxl, List.length_map, plen]
  have ly : yl.length = is'.length := by rw [← hyl, List.length_map, rlen]
  rw [hxl] at CP HW
  rw [hyl] at CR HW
  replace CP := fun vs u h => RetVX.of (CP vs u h)
  replace CR := fun vs u h => RetVX.of (CR vs u h)
  rw [← lx, ← ly] at HT' HS'
  have HW2 : Hid (W = vecN 1 (pwL (atI xl) (atI yl) (cpF op K) (recN xl.length yl.length)) (nmQ (recN xl.length yl.length) (lenN k is.length ps.length) ns (lenN k' is'.length ps'.length) ns')) := Lib.hid (by rw [HW.out, lx, ly])
  have x40 : xl.length ≤ 40 := by omega
  have y40 : yl.length ≤ 40 := by omega
  clear HT HS HW PA PB hxl hyl lx ly e5 e6 KA KB psz rsz pit rit plen rlen
  have CW : ∀ (b b2 : Nat) (Ci Di : Option Addr) (ri si : Nat) (v2 v3 v4 v5 v6 v7 u2 u3 u4 u5 u6 u7 : Value) (u : World), b < u.heap.size → u.cell? ⟨b, 0, none⟩ = some (.string op) → b2 < u.heap.size → u.cell? ⟨b2, 0, none⟩ = some (.int .i64 K) → Sl u 3 Ci xl.length (itc xl) → Sl u 3 Di yl.length (itc yl) → Calls Tryz.prog 21 #[.int .i64 1, .agg #[.int .i64 K, .slice Ci xl.length ri, v2, v3, v4, v5, v6, v7], .agg #[.int .i64 K, .slice Di yl.length si, u2, u3, u4, u5, u6, u7], .func (.func 26) #[] #[.pointer (some ⟨b, 0, none⟩), .pointer (some ⟨b2, 0, none⟩)]] u (RetVS (pwT 1 xl yl (cpF op K)) (pwS xl yl) u) := fun b b2 Ci Di ri si v2 v3 v4 v5 v6 v7 u2 u3 u4 u5 u6 u7 u hb hc hb2 hc2 s1 s2 =>
    impl_pairwise 1 K K Ci Di ri si xl yl _ _ _ _ _ _ _ _ _ _ _ _ 26 #[.pointer (some ⟨b, 0, none⟩), .pointer (some ⟨b2, 0, none⟩)] (cpF op K) u s1 s2 x40 y40 enters_cp fun x _ y _ v hv => impl_cpF op K b b2 x.num x.den x.text y.num y.den y.text v ho (Nat.lt_of_lt_of_le hb hv.size) ((hv.cell (p := ⟨b, 0, none⟩) hb).trans hc) (Nat.lt_of_lt_of_le hb2 hv.size) ((hv.cell (p := ⟨b2, 0, none⟩) hb2).trans hc2)
  have HPT : Hid (pwT 1 xl yl (cpF op K) = vecI (if recB xl.length yl.length then 1 else 0) (if recB xl.length yl.length then pwL (atI xl) (atI yl) (cpF op K) (recN xl.length yl.length) else [])) := Lib.hid (by unfold pwT; split <;> rfl)
  have HPS : Hid (pwS xl yl = if recB xl.length yl.length then ⟨#[]⟩ else difS) := Lib.hid rfl
  obtain ⟨S, hS⟩ : ∃ S, pwS xl yl = S := ⟨_, rfl⟩
  rw [HPT.out, hS] at CW
  rw [hS] at HPS
  have hlen := pwL_len (atI xl) (atI yl) (cpF op K) (recN xl.length yl.length)
  have hnm := nm_eq (n := recN xl.length yl.length) na nb
  have hXW := HW2.out
  obtain ⟨LL, hLL⟩ : ∃ L, pwL (atI xl) (atI yl) (cpF op K) (recN xl.length yl.length) = L := ⟨_, rfl⟩
  rw [hLL] at hlen hXW CW
  rw [← hlen] at hnm hXW
  obtain ⟨NN, hNN⟩ : ∃ N, nmQ LL.length (lenN k is.length ps.length) ns (lenN k' is'.length ps'.length) ns' = N := ⟨_, rfl⟩
  rw [hNN] at hnm hXW
  have HNM := Lib.hid hnm
  have HF := Lib.hid hXW
  obtain ⟨rq, hrq⟩ : ∃ q, recB xl.length yl.length = q := ⟨_, rfl⟩
  rw [hrq] at CW HPS HT' HS'
  obtain ⟨K1, hK1⟩ : ∃ x : Int, (if rq = true then 1 else 0 : Int) = x := ⟨_, rfl⟩
  obtain ⟨L1, hL1⟩ : ∃ x, (if rq = true then LL else []) = x := ⟨_, rfl⟩
  rw [hK1, hL1] at CW
  have HK1 := Lib.hid hK1
  have HL1 := Lib.hid hL1
  clear HPT hS hlen hnm hXW hLL hNN hrq hK1 hL1 HW2 na nb
  have KC : (pk = 3 ∧ K = 3) ∨ (pk ≠ 3 ∧ rk = 3 ∧ K = 3) ∨ (pk ≠ 3 ∧ rk ≠ 3 ∧ K = 2) := by
    by_cases a1 : pk = 3
    · exact .inl ⟨a1, by rw [← hK, if_pos (.inl a1)]⟩
    · by_cases a2 : rk = 3
      · exact .inr (.inl ⟨a1, a2, by rw [← hK, if_pos (.inr a2)]⟩)
      · exact .inr (.inr ⟨a1, a2, by rw [← hK, if_neg (fun h => h.elim a1 a2)]⟩)
  clear hK
  rcases KC with ⟨a1, a3⟩ | ⟨a1, a2, a3⟩ | ⟨a1, a2, a3⟩
  · subst a1
    subst a3
    go_enter Tryz.func7, Tryz.ntmps7
    have hO := Own.nil w
    go_wp2_with (first | ((with_reducible refine (CA _ hO.below).mono ?_); rintro e u ⟨rfl, hb⟩; (replace hO := hO.step hb; clear hb)) | ((with_reducible refine (CB _ hO.below).mono ?_); rintro e u ⟨rfl, hb⟩; (replace hO := hO.step hb; clear hb)) | ((with_reducible refine (CO _).mono ?_); rintro e u ⟨rfl, hb⟩; (replace hO := hO.step hb; clear hb)) | ((with_reducible refine zac ?_); refine zal rfl hO rfl ?_; (refine nm 3 rfl ?_; clear hO; intro b3 u hO); simp only [zL, zK] at hO) | ((with_reducible refine zad ?_); refine zbx rfl hO rfl rfl ?_; (first | (refine nm 1 rfl ?_; clear hO; intro b1 u hO) | (refine nm 2 rfl ?_; clear hO; intro b2 u hO) | fail); simp only [zL, zK] at hO) | ((with_reducible refine zaa ?_); refine zlb rfl hO rfl _ (by (first | exact at1 | exact at2 | fail)) ?_) | ((with_reducible refine zaa ?_); refine zag rfl (by (first | rfl | (simp only [Region.wanted, yielded, *]; go_simp; done) | fail)) hO rfl _ (by (first | exact at0 | exact at1 | exact at2 | fail)) (by rfl) (by simp only [Act.put, zA, zB, zC]; rfl) ?_) | ((with_reducible refine zad ?_); refine za9 rfl (by rfl) hO rfl rfl (fun b => by simp only [Act.put, zA, zB, zC]; rfl) ?_; (refine nm 0 rfl ?_; clear hO; intro b0 u hO); simp only [zL, zK] at hO) | fail)
    refine J.wp_region_c (n := 82) [0, 2] [1, 3, 4, 5] (deps := fun i => [[], [0], [], [2], [], [], [], []].getD i []) (fun i d => [fun _ => True, (J.freshC 3 pl [] [] [] [] 0 0), fun _ => True, (J.freshC rk rl [] [] [] [] 0 0), J.fresh 28 [.int .i64 0, .slice none 0 0, .slice none 0 0, .slice none 0 0, .slice none 0 0, .slice none 0 0, .int .i64 0, .int .i64 0], J.fresh 28 [.int .i64 0, .slice none 0 0, .slice none 0 0, .slice none 0 0, .slice none 0 0, .slice none 0 0, .int .i64 0, .int .i64 0], fun _ => True, fun _ => True].getD i (fun _ => True)) (r := 2) (lst := #[true, true, true, true, true, true, false, false]) (by kernel_rfl) (by kernel_rfl) (by kernel_rfl) rfl (by decide) (by kernel_rfl) hO ?_
    refine zcc (f := fun M u hO K hK => by (exact zah hO rfl rfl _ (by exact at1) (by rfl) (by rfl) (hK _ hO))) (h := ?_)
    refine zcc (f := fun M u hO K hK => by (exact zah hO rfl rfl _ (by exact at2) (by rfl) (by rfl) (hK _ hO))) (h := ?_)
    refine J.Chain.nil ⟨?_, ?_⟩
    · refine J.Each.cons (by rfl) ?_ ?_; exact ⟨rfl, fun vs M u hO _ K hK => by ((try simp only [J.putL, zI, zG, zH, J.dstOf, zF, zD, zE, zS, zQ, zR, Act.put, zA, zB, zC]); (try simp only [wp_at_zero, wp_at_succ]); go_step; refine (CX _ hO.below).mono ?_; rintro e u ⟨Ci, Cp, Cn, Cc, Cl, ri, rp, rn, rc, rl', F1, rfl, hvo1, hb⟩; have hK' := hK _ _ _ (show (J.freshC 3 pl [] [] [] [] 0 0) _ from ⟨Ci, Cp, Cn, Cc, Cl, ri, rp, rn, rc, rl', F1, rfl, hvo1⟩) ((hO.call hb).perm List.perm_append_comm); clear hK; simp only [J.putL, zI, zG, zH, J.dstOf, zF, zD, zE, zS, zQ, zR, Act.put, zA, zB, zC] at hK'; exact hK')⟩; refine J.Each.cons (by rfl) ?_ ?_; exact ⟨rfl, fun vs M u hO _ K hK => by ((try simp only [J.putL, zI, zG, zH, J.dstOf, zF, zD, zE, zS, zQ, zR, Act.put, zA, zB, zC]); (try simp only [wp_at_zero, wp_at_succ]); go_step; refine (CY _ hO.below).mono ?_; rintro e u ⟨Di, Dp, Dn, Dc, Dl, si, sp, sn, sc, sl, F2, rfl, hvo2, hb⟩; have hK' := hK _ _ _ (show (J.freshC rk rl [] [] [] [] 0 0) _ from ⟨Di, Dp, Dn, Dc, Dl, si, sp, sn, sc, sl, F2, rfl, hvo2⟩) ((hO.call hb).perm List.perm_append_comm); clear hK; simp only [J.putL, zI, zG, zH, J.dstOf, zF, zD, zE, zS, zQ, zR, Act.put, zA, zB, zC] at hK'; exact hK')⟩; refine J.Each.cons (by rfl) ?_ ?_; exact ⟨rfl, fun vs M u hO _ K hK => by (refine zbc hO rfl rfl fun b u hO => ?_; exact hK _ _ _ (show J.fresh 28 [.int .i64 0, .slice none 0 0, .slice none 0 0, .slice none 0 0, .slice none 0 0, .slice none 0 0, .int .i64 0, .int .i64 0] _ from ⟨b, rfl⟩) hO)⟩; refine J.Each.cons (by rfl) ?_ ?_; exact ⟨rfl, fun vs M u hO _ K hK => by (refine zbc hO rfl rfl fun b u hO => ?_; exact hK _ _ _ (show J.fresh 28 [.int .i64 0, .slice none 0 0, .slice none 0 0, .slice none 0 0, .slice none 0 0, .slice none 0 0, .int .i64 0, .int .i64 0] _ from ⟨b, rfl⟩) hO)⟩; exact J.Each.nil
    intro vs u hO hF
    obtain ⟨Ci, Cp, Cn, Cc, Cl, ri, rp, rn, rc, rl', F1, h1, hvo1⟩ : (J.freshC 3 pl [] [] [] [] 0 0) (vs 1) := hF 1 (by decide)
    obtain ⟨Di, Dp, Dn, Dc, Dl, si, sp, sn, sc, sl, F2, h3, hvo2⟩ : (J.freshC rk rl [] [] [] [] 0 0) (vs 3) := hF 3 (by decide)
    obtain ⟨b4, h4⟩ : J.fresh _ _ (vs 4) := hF 4 (by decide)
    obtain ⟨b5, h5⟩ : J.fresh _ _ (vs 5) := hF 5 (by decide)
    clear hF
    simp only [List.flatMap_cons, List.flatMap_nil, h1, h3, h4, h5, List.append_nil, zL, zK] at hO
    simp only [h1, h3, h4, h5, J.putL, zI, zG, zH, J.dstOf, zF, zD, zE, zS, zQ, zR, Act.put, zA, zB, zC]
    clear h1 h3 h4 h5 vs
    refine J.wpAny_one (i := 6) (by kernel_rfl) (by rfl) rfl fun K hK => ?_
    (refine zaf hO rfl rfl _ (by exact at6) rfl (by rfl) (by rfl) (by rfl) (by rfl) (by rfl) ?_; clear hO; intro u hO; simp only [zC, zB] at hO; refine hK _ _ ?_; clear hK K)
    refine J.wpAny_one (i := 7) (by kernel_rfl) (by rfl) rfl fun K hK => ?_
    (refine zaf hO rfl rfl _ (by exact at7) rfl (by rfl) (by rfl) (by rfl) (by rfl) (by rfl) ?_; clear hO; intro u hO; simp only [zC, zB] at hO; refine hK _ _ ?_; clear hK K)
    refine wpAny_done (by kernel_rfl) ?_ _
    go_wp2_with (first | ((with_reducible refine zac ?_); refine zal rfl hO rfl ?_; (refine nm 8 rfl ?_; clear hO; intro b8 u hO); simp only [zL, zK] at hO) | ((with_reducible refine zaa ?_); refine zlb rfl hO rfl _ (by exact at6) ?_) | ((with_reducible refine zaa ?_); refine zlf rfl hO rfl _ (by (first | exact at6 | exact at8 | fail)) ?_) | ((with_reducible refine zab ?_); refine zsf rfl hO rfl _ (by exact at8) (zM rfl) ?_; clear hO; intro u hO; simp only [zC, zB] at hO) | fail)
    refine (CP _ _ (hO.rdp 4 rfl hvo1)).mono ?_
    rintro e9 u ⟨Q31, Q32, Q33, Q34, Q35, m31, m32, m33, m34, m35, F3, rfl, hvo3, hb⟩
    replace hO := hO.call hb
    clear hb CP
    simp only [List.cons_append, List.nil_append] at hO
    go_wp2_with (first | ((with_reducible refine zac ?_); refine zal rfl hO rfl ?_; (refine nm 10 rfl ?_; clear hO; intro b10 u hO); simp only [zL, zK] at hO) | ((with_reducible refine zaa ?_); refine zlb rfl hO rfl _ (by exact at8) ?_) | ((with_reducible refine zaa ?_); refine zlf rfl hO rfl _ (by exact at9) ?_) | ((with_reducible refine zab ?_); refine zsc rfl hO rfl _ (by exact at10) ?_; clear hO; intro u hO; simp only [zC, zB] at hO) | fail)
    refine (CR _ _ (hO.rdp 6 rfl hvo2)).mono ?_
    rintro e9 u ⟨Q41, Q42, Q43, Q44, Q45, m41, m42, m43, m44, m45, F4, rfl, hvo4, hb⟩
    replace hO := hO.call hb
    clear hb CR
    simp only [List.cons_append, List.nil_append] at hO
    go_wp2_with (first | ((with_reducible refine zac ?_); refine zal rfl hO rfl ?_; (refine nm 12 rfl ?_; clear hO; intro b12 u hO); simp only [zL, zK] at hO) | ((with_reducible refine zaa ?_); refine zlb rfl hO rfl _ (by (first | exact at11 | exact at12 | fail)) ?_) | ((with_reducible refine zab ?_); refine zsc rfl hO rfl _ (by exact at12) ?_; clear hO; intro u hO; simp only [zC, zB] at hO) | fail)
    refine ((CW b0 b8 _ _ _ _ _ _ _ _ _ _ _ _ _ _ _ _ _ (hO.lt 2 rfl).2 (by rw [hO.cell 2 rfl]; rfl) (hO.lt 10 rfl).2 (by rw [hO.cell 10 rfl]; rfl) (hO.rdp 1 rfl hvo3).sli (hO.rdp 0 rfl hvo4).sli).mono fun e' w' h => RetVS.exI h).mono ?_
    rintro e9 u ⟨Q1, Q2, Q3, Q4, Q5, m1, m2, m3, m4, m5, F, rfl, hvo, hb⟩
    replace hO := hO.call hb
    clear hb CW
    simp only [List.cons_append, List.nil_append] at hO
    replace hO := hO.pick [0, 3, 4, 5, 6] (by decide)
    simp only [zN, zO, zE, zD] at hO
    skip
    cases rq with
    | false =>
      have HF : Hid (X = vecI 0 []) := Lib.hid (by rw [HT'.out]; rfl)
      have HG : Hid (Y = difS) := Lib.hid (by rw [HS'.out]; rfl)
      have e2 : S = difS := by rw [HPS.out]; rfl
      subst e2
      clear HT' HS' HPS hvo
      have qd : (!difS.toList.isEmpty) = true := by rw [ByteArray.toList_eq]; rfl
      go_wp2_with (first | (with_reducible refine zaq ?_) | ((with_reducible refine zac ?_); refine zal rfl hO rfl ?_; (refine nm 5 rfl ?_; clear hO; intro b5 u hO); simp only [zL, zK] at hO) | ((with_reducible refine zab ?_); refine zsc rfl hO rfl _ (by (first | exact at4 | exact at5 | fail)) ?_; clear hO; intro u hO; simp only [zC, zB] at hO) | fail)
      obtain ⟨F0, hvo0, hF⟩ := Own.vec0 u 0
      exact ⟨zau rfl hO rfl 4 at4 rfl rfl rfl ⟨_, _, by rw [HG.out]; rfl, by rw [HF.out]; exact hvo0, (hO.call hF).pick [0] (by decide)⟩⟩
    | true =>
      have HF : Hid (X = vecN 1 LL NN) := Lib.hid (by rw [HT'.out, if_pos rfl, HF.out])
      have HG : Hid (Y = ⟨#[]⟩) := Lib.hid (by rw [HS'.out]; rfl)
      have e1 : L1 = LL := by rw [← HL1.out]; rfl
      have e2 : S = ⟨#[]⟩ := by rw [HPS.out]; rfl
      have e3 : K1 = 1 := by rw [← HK1.out]; rfl
      subst e1 e2 e3
      clear HT' HS' HPS HK1 HL1
      go_wp2_with (first | ((with_reducible refine zac ?_); refine zal rfl hO rfl ?_; (refine nm 5 rfl ?_; clear hO; intro b5 u hO); simp only [zL, zK] at hO) | ((with_reducible refine zaa ?_); refine zlb rfl hO rfl _ (by (first | exact at2 | exact at3 | fail)) ?_) | ((with_reducible refine zaa ?_); refine zlf rfl hO rfl _ (by exact at5) ?_) | ((with_reducible refine zab ?_); refine zsc rfl hO rfl _ (by exact at5) ?_; clear hO; intro u hO; simp only [zC, zB] at hO) | fail)
      refine (impl_names L1.length k k' Ai Ap An Bi Bp Bn is.length ci ps.length cp cn is'.length di ps'.length dp dn _ _ _ _ _ _ _ _ ns ns' _ (S3 _ hO.below) (S4 _ hO.below) ya yb xa xb).mono ?_
      rintro e9 u ⟨N', d', rfl, hb⟩
      rw [HNM.out] at hb
      rw [HNM.out]
      replace hO := hO.call hb
      clear hb
      simp only [List.cons_append, List.nil_append] at hO
      go_wp2_with (first | (with_reducible refine zaq ?_) | ((with_reducible refine zaa ?_); refine zlb rfl hO rfl _ (by exact at6) ?_) | ((with_reducible refine zab ?_); refine zsc rfl hO rfl _ (by exact at5) ?_; clear hO; intro u hO; simp only [zC, zB] at hO) | ((with_reducible refine zab ?_); refine zsf rfl hO rfl _ (by exact at6) (zM rfl) ?_; clear hO; intro u hO; simp only [zC, zB] at hO) | fail)
      have hR := hO.pick [1, 0] (by decide)
      simp only [List.filterMap_cons, List.filterMap_nil, List.getElem?_cons_zero, List.getElem?_cons_succ] at hR
      refine ⟨zau rfl hO rfl 5 at5 rfl rfl rfl ?_⟩
      clear hO
      obtain ⟨F', hvo', hF⟩ := Own.rename hR hvo
      exact ⟨_, _, by rw [HG.out]; rfl, by rw [HF.out]; exact hvo', hF⟩
  · have q1 : (pk == 3) = false := by simp [a1]
    subst a2
    subst a3
    clear a1
    go_enter Tryz.func7, Tryz.ntmps7
    have hO := Own.nil w
    go_wp2_with (first | ((with_reducible refine (CA _ hO.below).mono ?_); rintro e u ⟨rfl, hb⟩; (replace hO := hO.step hb; clear hb)) | ((with_reducible refine (CB _ hO.below).mono ?_); rintro e u ⟨rfl, hb⟩; (replace hO := hO.step hb; clear hb)) | ((with_reducible refine (CO _).mono ?_); rintro e u ⟨rfl, hb⟩; (replace hO := hO.step hb; clear hb)) | ((with_reducible refine zac ?_); refine zal rfl hO rfl ?_; (refine nm 3 rfl ?_; clear hO; intro b3 u hO); simp only [zL, zK] at hO) | ((with_reducible refine zad ?_); refine zbx rfl hO rfl rfl ?_; (first | (refine nm 1 rfl ?_; clear hO; intro b1 u hO) | (refine nm 2 rfl ?_; clear hO; intro b2 u hO) | fail); simp only [zL, zK] at hO) | ((with_reducible refine zaa ?_); refine zlb rfl hO rfl _ (by (first | exact at1 | exact at2 | fail)) ?_) | ((with_reducible refine zaa ?_); refine zag rfl (by (first | rfl | (simp only [Region.wanted, yielded, *]; go_simp; done) | fail)) hO rfl _ (by (first | exact at0 | exact at1 | exact at2 | fail)) (by rfl) (by simp only [Act.put, zA, zB, zC]; rfl) ?_) | ((with_reducible refine zad ?_); refine za9 rfl (by rfl) hO rfl rfl (fun b => by simp only [Act.put, zA, zB, zC]; rfl) ?_; (refine nm 0 rfl ?_; clear hO; intro b0 u hO); simp only [zL, zK] at hO) | fail)
    refine J.wp_region_c (n := 82) [0, 2] [1, 3, 4, 5] (deps := fun i => [[], [0], [], [2], [], [], [], []].getD i []) (fun i d => [fun _ => True, (J.freshC pk pl [] [] [] [] 0 0), fun _ => True, (J.freshC 3 rl [] [] [] [] 0 0), J.fresh 28 [.int .i64 0, .slice none 0 0, .slice none 0 0, .slice none 0 0, .slice none 0 0, .slice none 0 0, .int .i64 0, .int .i64 0], J.fresh 28 [.int .i64 0, .slice none 0 0, .slice none 0 0, .slice none 0 0, .slice none 0 0, .slice none 0 0, .int .i64 0, .int .i64 0], fun _ => True, fun _ => True].getD i (fun _ => True)) (r := 2) (lst := #[true, true, true, true, true, true, false, false]) (by kernel_rfl) (by kernel_rfl) (by kernel_rfl) rfl (by decide) (by kernel_rfl) hO ?_
    refine zcc (f := fun M u hO K hK => by (exact zah hO rfl rfl _ (by exact at1) (by rfl) (by rfl) (hK _ hO))) (h := ?_)
    refine zcc (f := fun M u hO K hK => by (exact zah hO rfl rfl _ (by exact at2) (by rfl) (by rfl) (hK _ hO))) (h := ?_)
    refine J.Chain.nil ⟨?_, ?_⟩
    · refine J.Each.cons (by rfl) ?_ ?_; exact ⟨rfl, fun vs M u hO _ K hK => by ((try simp only [J.putL, zI, zG, zH, J.dstOf, zF, zD, zE, zS, zQ, zR, Act.put, zA, zB, zC]); (try simp only [wp_at_zero, wp_at_succ]); go_step; refine (CX _ hO.below).mono ?_; rintro e u ⟨Ci, Cp, Cn, Cc, Cl, ri, rp, rn, rc, rl', F1, rfl, hvo1, hb⟩; have hK' := hK _ _ _ (show (J.freshC pk pl [] [] [] [] 0 0) _ from ⟨Ci, Cp, Cn, Cc, Cl, ri, rp, rn, rc, rl', F1, rfl, hvo1⟩) ((hO.call hb).perm List.perm_append_comm); clear hK; simp only [J.putL, zI, zG, zH, J.dstOf, zF, zD, zE, zS, zQ, zR, Act.put, zA, zB, zC] at hK'; exact hK')⟩; refine J.Each.cons (by rfl) ?_ ?_; exact ⟨rfl, fun vs M u hO _ K hK => by ((try simp only [J.putL, zI, zG, zH, J.dstOf, zF, zD, zE, zS, zQ, zR, Act.put, zA, zB, zC]); (try simp only [wp_at_zero, wp_at_succ]); go_step; refine (CY _ hO.below).mono ?_; rintro e u ⟨Di, Dp, Dn, Dc, Dl, si, sp, sn, sc, sl, F2, rfl, hvo2, hb⟩; have hK' := hK _ _ _ (show (J.freshC 3 rl [] [] [] [] 0 0) _ from ⟨Di, Dp, Dn, Dc, Dl, si, sp, sn, sc, sl, F2, rfl, hvo2⟩) ((hO.call hb).perm List.perm_append_comm); clear hK; simp only [J.putL, zI, zG, zH, J.dstOf, zF, zD, zE, zS, zQ, zR, Act.put, zA, zB, zC] at hK'; exact hK')⟩; refine J.Each.cons (by rfl) ?_ ?_; exact ⟨rfl, fun vs M u hO _ K hK => by (refine zbc hO rfl rfl fun b u hO => ?_; exact hK _ _ _ (show J.fresh 28 [.int .i64 0, .slice none 0 0, .slice none 0 0, .slice none 0 0, .slice none 0 0, .slice none 0 0, .int .i64 0, .int .i64 0] _ from ⟨b, rfl⟩) hO)⟩; refine J.Each.cons (by rfl) ?_ ?_; exact ⟨rfl, fun vs M u hO _ K hK => by (refine zbc hO rfl rfl fun b u hO => ?_; exact hK _ _ _ (show J.fresh 28 [.int .i64 0, .slice none 0 0, .slice none 0 0, .slice none 0 0, .slice none 0 0, .slice none 0 0, .int .i64 0, .int .i64 0] _ from ⟨b, rfl⟩) hO)⟩; exact J.Each.nil
    intro vs u hO hF
    obtain ⟨Ci, Cp, Cn, Cc, Cl, ri, rp, rn, rc, rl', F1, h1, hvo1⟩ : (J.freshC pk pl [] [] [] [] 0 0) (vs 1) := hF 1 (by decide)
    obtain ⟨Di, Dp, Dn, Dc, Dl, si, sp, sn, sc, sl, F2, h3, hvo2⟩ : (J.freshC 3 rl [] [] [] [] 0 0) (vs 3) := hF 3 (by decide)
    obtain ⟨b4, h4⟩ : J.fresh _ _ (vs 4) := hF 4 (by decide)
    obtain ⟨b5, h5⟩ : J.fresh _ _ (vs 5) := hF 5 (by decide)
    clear hF
    simp only [List.flatMap_cons, List.flatMap_nil, h1, h3, h4, h5, List.append_nil, zL, zK] at hO
    simp only [h1, h3, h4, h5, J.putL, zI, zG, zH, J.dstOf, zF, zD, zE, zS, zQ, zR, Act.put, zA, zB, zC]
    clear h1 h3 h4 h5 vs
    refine J.wpAny_one (i := 6) (by kernel_rfl) (by rfl) rfl fun K hK => ?_
    (refine zaf hO rfl rfl _ (by exact at6) rfl (by rfl) (by rfl) (by rfl) (by rfl) (by rfl) ?_; clear hO; intro u hO; simp only [zC, zB] at hO; refine hK _ _ ?_; clear hK K)
    refine J.wpAny_one (i := 7) (by kernel_rfl) (by rfl) rfl fun K hK => ?_
    (refine zaf hO rfl rfl _ (by exact at7) rfl (by rfl) (by rfl) (by rfl) (by rfl) (by rfl) ?_; clear hO; intro u hO; simp only [zC, zB] at hO; refine hK _ _ ?_; clear hK K)
    refine wpAny_done (by kernel_rfl) ?_ _
    go_wp2_with (first | ((with_reducible refine zac ?_); refine zal rfl hO rfl ?_; (refine nm 8 rfl ?_; clear hO; intro b8 u hO); simp only [zL, zK] at hO) | ((with_reducible refine zaa ?_); refine zlb rfl hO rfl _ (by exact at6) ?_) | ((with_reducible refine zaa ?_); refine zlf rfl hO rfl _ (by (first | exact at6 | exact at7 | exact at8 | fail)) ?_) | ((with_reducible refine zab ?_); refine zsf rfl hO rfl _ (by exact at8) (zM rfl) ?_; clear hO; intro u hO; simp only [zC, zB] at hO) | fail)
    refine (CP _ _ (hO.rdp 4 rfl hvo1)).mono ?_
    rintro e9 u ⟨Q31, Q32, Q33, Q34, Q35, m31, m32, m33, m34, m35, F3, rfl, hvo3, hb⟩
    replace hO := hO.call hb
    clear hb CP
    simp only [List.cons_append, List.nil_append] at hO
    go_wp2_with (first | ((with_reducible refine zac ?_); refine zal rfl hO rfl ?_; (refine nm 10 rfl ?_; clear hO; intro b10 u hO); simp only [zL, zK] at hO) | ((with_reducible refine zaa ?_); refine zlb rfl hO rfl _ (by exact at8) ?_) | ((with_reducible refine zaa ?_); refine zlf rfl hO rfl _ (by exact at9) ?_) | ((with_reducible refine zab ?_); refine zsc rfl hO rfl _ (by exact at10) ?_; clear hO; intro u hO; simp only [zC, zB] at hO) | fail)
    refine (CR _ _ (hO.rdp 6 rfl hvo2)).mono ?_
    rintro e9 u ⟨Q41, Q42, Q43, Q44, Q45, m41, m42, m43, m44, m45, F4, rfl, hvo4, hb⟩
    replace hO := hO.call hb
    clear hb CR
    simp only [List.cons_append, List.nil_append] at hO
    go_wp2_with (first | ((with_reducible refine zac ?_); refine zal rfl hO rfl ?_; (refine nm 12 rfl ?_; clear hO; intro b12 u hO); simp only [zL, zK] at hO) | ((with_reducible refine zaa ?_); refine zlb rfl hO rfl _ (by (first | exact at11 | exact at12 | fail)) ?_) | ((with_reducible refine zab ?_); refine zsc rfl hO rfl _ (by exact at12) ?_; clear hO; intro u hO; simp only [zC, zB] at hO) | fail)
    refine ((CW b0 b8 _ _ _ _ _ _ _ _ _ _ _ _ _ _ _ _ _ (hO.lt 2 rfl).2 (by rw [hO.cell 2 rfl]; rfl) (hO.lt 10 rfl).2 (by rw [hO.cell 10 rfl]; rfl) (hO.rdp 1 rfl hvo3).sli (hO.rdp 0 rfl hvo4).sli).mono fun e' w' h => RetVS.exI h).mono ?_
    rintro e9 u ⟨Q1, Q2, Q3, Q4, Q5, m1, m2, m3, m4, m5, F, rfl, hvo, hb⟩
    replace hO := hO.call hb
    clear hb CW
    simp only [List.cons_append, List.nil_append] at hO
    replace hO := hO.pick [0, 3, 4, 5, 6] (by decide)
    simp only [zN, zO, zE, zD] at hO
    skip
    cases rq with
    | false =>
      have HF : Hid (X = vecI 0 []) := Lib.hid (by rw [HT'.out]; rfl)
      have HG : Hid (Y = difS) := Lib.hid (by rw [HS'.out]; rfl)
      have e2 : S = difS := by rw [HPS.out]; rfl
      subst e2
      clear HT' HS' HPS hvo
      have qd : (!difS.toList.isEmpty) = true := by rw [ByteArray.toList_eq]; rfl
      go_wp2_with (first | (with_reducible refine zaq ?_) | ((with_reducible refine zac ?_); refine zal rfl hO rfl ?_; (refine nm 5 rfl ?_; clear hO; intro b5 u hO); simp only [zL, zK] at hO) | ((with_reducible refine zab ?_); refine zsc rfl hO rfl _ (by (first | exact at4 | exact at5 | fail)) ?_; clear hO; intro u hO; simp only [zC, zB] at hO) | fail)
      obtain ⟨F0, hvo0, hF⟩ := Own.vec0 u 0
      exact ⟨zau rfl hO rfl 4 at4 rfl rfl rfl ⟨_, _, by rw [HG.out]; rfl, by rw [HF.out]; exact hvo0, (hO.call hF).pick [0] (by decide)⟩⟩
    | true =>
      have HF : Hid (X = vecN 1 LL NN) := Lib.hid (by rw [HT'.out, if_pos rfl, HF.out])
      have HG : Hid (Y = ⟨#[]⟩) := Lib.hid (by rw [HS'.out]; rfl)
      have e1 : L1 = LL := by rw [← HL1.out]; rfl
      have e2 : S = ⟨#[]⟩ := by rw [HPS.out]; rfl
      have e3 : K1 = 1 := by rw [← HK1.out]; rfl
      subst e1 e2 e3
      clear HT' HS' HPS HK1 HL1
      go_wp2_with (first | ((with_reducible refine zac ?_); refine zal rfl hO rfl ?_; (refine nm 5 rfl ?_; clear hO; intro b5 u hO); simp only [zL, zK] at hO) | ((with_reducible refine zaa ?_); refine zlb rfl hO rfl _ (by (first | exact at2 | exact at3 | fail)) ?_) | ((with_reducible refine zaa ?_); refine zlf rfl hO rfl _ (by exact at5) ?_) | ((with_reducible refine zab ?_); refine zsc rfl hO rfl _ (by exact at5) ?_; clear hO; intro u hO; simp only [zC, zB] at hO) | fail)
      refine (impl_names L1.length k k' Ai Ap An Bi Bp Bn is.length ci ps.length cp cn is'.length di ps'.length dp dn _ _ _ _ _ _ _ _ ns ns' _ (S3 _ hO.below) (S4 _ hO.below) ya yb xa xb).mono ?_
      rintro e9 u ⟨N', d', rfl, hb⟩
      rw [HNM.out] at hb
      rw [HNM.out]
      replace hO := hO.call hb
      clear hb
      simp only [List.cons_append, List.nil_append] at hO
      go_wp2_with (first | (with_reducible refine zaq ?_) | ((with_reducible refine zaa ?_); refine zlb rfl hO rfl _ (by exact at6) ?_) | ((with_reducible refine zab ?_); refine zsc rfl hO rfl _ (by exact at5) ?_; clear hO; intro u hO; simp only [zC, zB] at hO) | ((with_reducible refine zab ?_); refine zsf rfl hO rfl _ (by exact at6) (zM rfl) ?_; clear hO; intro u hO; simp only [zC, zB] at hO) | fail)
      have hR := hO.pick [1, 0] (by decide)
      simp only [List.filterMap_cons, List.filterMap_nil, List.getElem?_cons_zero, List.getElem?_cons_succ] at hR
      refine ⟨zau rfl hO rfl 5 at5 rfl rfl rfl ?_⟩
      clear hO
      obtain ⟨F', hvo', hF⟩ := Own.rename hR hvo
      exact ⟨_, _, by rw [HG.out]; rfl, by rw [HF.out]; exact hvo', hF⟩
  · have q1 : (pk == 3) = false := by simp [a1]
    have q2 : (rk == 3) = false := by simp [a2]
    subst a3
    clear a1 a2
    go_enter Tryz.func7, Tryz.ntmps7
    have hO := Own.nil w
    go_wp2_with (first | ((with_reducible refine (CA _ hO.below).mono ?_); rintro e u ⟨rfl, hb⟩; (replace hO := hO.step hb; clear hb)) | ((with_reducible refine (CB _ hO.below).mono ?_); rintro e u ⟨rfl, hb⟩; (replace hO := hO.step hb; clear hb)) | ((with_reducible refine (CO _).mono ?_); rintro e u ⟨rfl, hb⟩; (replace hO := hO.step hb; clear hb)) | ((with_reducible refine zac ?_); refine zal rfl hO rfl ?_; (refine nm 3 rfl ?_; clear hO; intro b3 u hO); simp only [zL, zK] at hO) | ((with_reducible refine zad ?_); refine zbx rfl hO rfl rfl ?_; (first | (refine nm 1 rfl ?_; clear hO; intro b1 u hO) | (refine nm 2 rfl ?_; clear hO; intro b2 u hO) | fail); simp only [zL, zK] at hO) | ((with_reducible refine zaa ?_); refine zlb rfl hO rfl _ (by (first | exact at1 | exact at2 | fail)) ?_) | ((with_reducible refine zaa ?_); refine zag rfl (by (first | rfl | (simp only [Region.wanted, yielded, *]; go_simp; done) | fail)) hO rfl _ (by (first | exact at0 | exact at1 | exact at2 | fail)) (by rfl) (by simp only [Act.put, zA, zB, zC]; rfl) ?_) | ((with_reducible refine zad ?_); refine za9 rfl (by rfl) hO rfl rfl (fun b => by simp only [Act.put, zA, zB, zC]; rfl) ?_; (refine nm 0 rfl ?_; clear hO; intro b0 u hO); simp only [zL, zK] at hO) | fail)
    refine J.wp_region_c (n := 82) [0, 2] [1, 3, 4, 5] (deps := fun i => [[], [0], [], [2], [], [], [], []].getD i []) (fun i d => [fun _ => True, (J.freshC pk pl [] [] [] [] 0 0), fun _ => True, (J.freshC rk rl [] [] [] [] 0 0), J.fresh 28 [.int .i64 0, .slice none 0 0, .slice none 0 0, .slice none 0 0, .slice none 0 0, .slice none 0 0, .int .i64 0, .int .i64 0], J.fresh 28 [.int .i64 0, .slice none 0 0, .slice none 0 0, .slice none 0 0, .slice none 0 0, .slice none 0 0, .int .i64 0, .int .i64 0], fun _ => True, fun _ => True].getD i (fun _ => True)) (r := 2) (lst := #[true, true, true, true, true, true, false, false]) (by kernel_rfl) (by kernel_rfl) (by kernel_rfl) rfl (by decide) (by kernel_rfl) hO ?_
    refine zcc (f := fun M u hO K hK => by (exact zah hO rfl rfl _ (by exact at1) (by rfl) (by rfl) (hK _ hO))) (h := ?_)
    refine zcc (f := fun M u hO K hK => by (exact zah hO rfl rfl _ (by exact at2) (by rfl) (by rfl) (hK _ hO))) (h := ?_)
    refine J.Chain.nil ⟨?_, ?_⟩
    · refine J.Each.cons (by rfl) ?_ ?_; exact ⟨rfl, fun vs M u hO _ K hK => by ((try simp only [J.putL, zI, zG, zH, J.dstOf, zF, zD, zE, zS, zQ, zR, Act.put, zA, zB, zC]); (try simp only [wp_at_zero, wp_at_succ]); go_step; refine (CX _ hO.below).mono ?_; rintro e u ⟨Ci, Cp, Cn, Cc, Cl, ri, rp, rn, rc, rl', F1, rfl, hvo1, hb⟩; have hK' := hK _ _ _ (show (J.freshC pk pl [] [] [] [] 0 0) _ from ⟨Ci, Cp, Cn, Cc, Cl, ri, rp, rn, rc, rl', F1, rfl, hvo1⟩) ((hO.call hb).perm List.perm_append_comm); clear hK; simp only [J.putL, zI, zG, zH, J.dstOf, zF, zD, zE, zS, zQ, zR, Act.put, zA, zB, zC] at hK'; exact hK')⟩; refine J.Each.cons (by rfl) ?_ ?_; exact ⟨rfl, fun vs M u hO _ K hK => by ((try simp only [J.putL, zI, zG, zH, J.dstOf, zF, zD, zE, zS, zQ, zR, Act.put, zA, zB, zC]); (try simp only [wp_at_zero, wp_at_succ]); go_step; refine (CY _ hO.below).mono ?_; rintro e u ⟨Di, Dp, Dn, Dc, Dl, si, sp, sn, sc, sl, F2, rfl, hvo2, hb⟩; have hK' := hK _ _ _ (show (J.freshC rk rl [] [] [] [] 0 0) _ from ⟨Di, Dp, Dn, Dc, Dl, si, sp, sn, sc, sl, F2, rfl, hvo2⟩) ((hO.call hb).perm List.perm_append_comm); clear hK; simp only [J.putL, zI, zG, zH, J.dstOf, zF, zD, zE, zS, zQ, zR, Act.put, zA, zB, zC] at hK'; exact hK')⟩; refine J.Each.cons (by rfl) ?_ ?_; exact ⟨rfl, fun vs M u hO _ K hK => by (refine zbc hO rfl rfl fun b u hO => ?_; exact hK _ _ _ (show J.fresh 28 [.int .i64 0, .slice none 0 0, .slice none 0 0, .slice none 0 0, .slice none 0 0, .slice none 0 0, .int .i64 0, .int .i64 0] _ from ⟨b, rfl⟩) hO)⟩; refine J.Each.cons (by rfl) ?_ ?_; exact ⟨rfl, fun vs M u hO _ K hK => by (refine zbc hO rfl rfl fun b u hO => ?_; exact hK _ _ _ (show J.fresh 28 [.int .i64 0, .slice none 0 0, .slice none 0 0, .slice none 0 0, .slice none 0 0, .slice none 0 0, .int .i64 0, .int .i64 0] _ from ⟨b, rfl⟩) hO)⟩; exact J.Each.nil
    intro vs u hO hF
    obtain ⟨Ci, Cp, Cn, Cc, Cl, ri, rp, rn, rc, rl', F1, h1, hvo1⟩ : (J.freshC pk pl [] [] [] [] 0 0) (vs 1) := hF 1 (by decide)
    obtain ⟨Di, Dp, Dn, Dc, Dl, si, sp, sn, sc, sl, F2, h3, hvo2⟩ : (J.freshC rk rl [] [] [] [] 0 0) (vs 3) := hF 3 (by decide)
    obtain ⟨b4, h4⟩ : J.fresh _ _ (vs 4) := hF 4 (by decide)
    obtain ⟨b5, h5⟩ : J.fresh _ _ (vs 5) := hF 5 (by decide)
    clear hF
    simp only [List.flatMap_cons, List.flatMap_nil, h1, h3, h4, h5, List.append_nil, zL, zK] at hO
    simp only [h1, h3, h4, h5, J.putL, zI, zG, zH, J.dstOf, zF, zD, zE, zS, zQ, zR, Act.put, zA, zB, zC]
    clear h1 h3 h4 h5 vs
    refine J.wpAny_one (i := 6) (by kernel_rfl) (by rfl) rfl fun K hK => ?_
    (refine zaf hO rfl rfl _ (by exact at6) rfl (by rfl) (by rfl) (by rfl) (by rfl) (by rfl) ?_; clear hO; intro u hO; simp only [zC, zB] at hO; refine hK _ _ ?_; clear hK K)
    refine J.wpAny_one (i := 7) (by kernel_rfl) (by rfl) rfl fun K hK => ?_
    (refine zaf hO rfl rfl _ (by exact at7) rfl (by rfl) (by rfl) (by rfl) (by rfl) (by rfl) ?_; clear hO; intro u hO; simp only [zC, zB] at hO; refine hK _ _ ?_; clear hK K)
    refine wpAny_done (by kernel_rfl) ?_ _
    go_wp2_with (first | ((with_reducible refine zac ?_); refine zal rfl hO rfl ?_; (refine nm 8 rfl ?_; clear hO; intro b8 u hO); simp only [zL, zK] at hO) | ((with_reducible refine zaa ?_); refine zlb rfl hO rfl _ (by exact at6) ?_) | ((with_reducible refine zaa ?_); refine zlf rfl hO rfl _ (by (first | exact at6 | exact at7 | exact at8 | fail)) ?_) | ((with_reducible refine zab ?_); refine zsf rfl hO rfl _ (by exact at8) (zM rfl) ?_; clear hO; intro u hO; simp only [zC, zB] at hO) | fail)
    refine (CP _ _ (hO.rdp 4 rfl hvo1)).mono ?_
    rintro e9 u ⟨Q31, Q32, Q33, Q34, Q35, m31, m32, m33, m34, m35, F3, rfl, hvo3, hb⟩
    replace hO := hO.call hb
    clear hb CP
    simp only [List.cons_append, List.nil_append] at hO
    go_wp2_with (first | ((with_reducible refine zac ?_); refine zal rfl hO rfl ?_; (refine nm 10 rfl ?_; clear hO; intro b10 u hO); simp only [zL, zK] at hO) | ((with_reducible refine zaa ?_); refine zlb rfl hO rfl _ (by exact at8) ?_) | ((with_reducible refine zaa ?_); refine zlf rfl hO rfl _ (by exact at9) ?_) | ((with_reducible refine zab ?_); refine zsc rfl hO rfl _ (by exact at10) ?_; clear hO; intro u hO; simp only [zC, zB] at hO) | fail)
    refine (CR _ _ (hO.rdp 6 rfl hvo2)).mono ?_
    rintro e9 u ⟨Q41, Q42, Q43, Q44, Q45, m41, m42, m43, m44, m45, F4, rfl, hvo4, hb⟩
    replace hO := hO.call hb
    clear hb CR
    simp only [List.cons_append, List.nil_append] at hO
    go_wp2_with (first | ((with_reducible refine zac ?_); refine zal rfl hO rfl ?_; (refine nm 12 rfl ?_; clear hO; intro b12 u hO); simp only [zL, zK] at hO) | ((with_reducible refine zaa ?_); refine zlb rfl hO rfl _ (by (first | exact at11 | exact at12 | fail)) ?_) | ((with_reducible refine zab ?_); refine zsc rfl hO rfl _ (by exact at12) ?_; clear hO; intro u hO; simp only [zC, zB] at hO) | fail)
    refine ((CW b0 b8 _ _ _ _ _ _ _ _ _ _ _ _ _ _ _ _ _ (hO.lt 2 rfl).2 (by rw [hO.cell 2 rfl]; rfl) (hO.lt 10 rfl).2 (by rw [hO.cell 10 rfl]; rfl) (hO.rdp 1 rfl hvo3).sli (hO.rdp 0 rfl hvo4).sli).mono fun e' w' h => RetVS.exI h).mono ?_
    rintro e9 u ⟨Q1, Q2, Q3, Q4, Q5, m1, m2, m3, m4, m5, F, rfl, hvo, hb⟩
    replace hO := hO.call hb
    clear hb CW
    simp only [List.cons_append, List.nil_append] at hO
    replace hO := hO.pick [0, 3, 4, 5, 6] (by decide)
    simp only [zN, zO, zE, zD] at hO
    skip
    cases rq with
    | false =>
      have HF : Hid (X = vecI 0 []) := Lib.hid (by rw [HT'.out]; rfl)
      have HG : Hid (Y = difS) := Lib.hid (by rw [HS'.out]; rfl)
      have e2 : S = difS := by rw [HPS.out]; rfl
      subst e2
      clear HT' HS' HPS hvo
      have qd : (!difS.toList.isEmpty) = true := by rw [ByteArray.toList_eq]; rfl
      go_wp2_with (first | (with_reducible refine zaq ?_) | ((with_reducible refine zac ?_); refine zal rfl hO rfl ?_; (refine nm 5 rfl ?_; clear hO; intro b5 u hO); simp only [zL, zK] at hO) | ((with_reducible refine zab ?_); refine zsc rfl hO rfl _ (by (first | exact at4 | exact at5 | fail)) ?_; clear hO; intro u hO; simp only [zC, zB] at hO) | fail)
      obtain ⟨F0, hvo0, hF⟩ := Own.vec0 u 0
      exact ⟨zau rfl hO rfl 4 at4 rfl rfl rfl ⟨_, _, by rw [HG.out]; rfl, by rw [HF.out]; exact hvo0, (hO.call hF).pick [0] (by decide)⟩⟩
    | true =>
      have HF : Hid (X = vecN 1 LL NN) := Lib.hid (by rw [HT'.out, if_pos rfl, HF.out])
      have HG : Hid (Y = ⟨#[]⟩) := Lib.hid (by rw [HS'.out]; rfl)
      have e1 : L1 = LL := by rw [← HL1.out]; rfl
      have e2 : S = ⟨#[]⟩ := by rw [HPS.out]; rfl
      have e3 : K1 = 1 := by rw [← HK1.out]; rfl
      subst e1 e2 e3
      clear HT' HS' HPS HK1 HL1
      go_wp2_with (first | ((with_reducible refine zac ?_); refine zal rfl hO rfl ?_; (refine nm 5 rfl ?_; clear hO; intro b5 u hO); simp only [zL, zK] at hO) | ((with_reducible refine zaa ?_); refine zlb rfl hO rfl _ (by (first | exact at2 | exact at3 | fail)) ?_) | ((with_reducible refine zaa ?_); refine zlf rfl hO rfl _ (by exact at5) ?_) | ((with_reducible refine zab ?_); refine zsc rfl hO rfl _ (by exact at5) ?_; clear hO; intro u hO; simp only [zC, zB] at hO) | fail)
      refine (impl_names L1.length k k' Ai Ap An Bi Bp Bn is.length ci ps.length cp cn is'.length di ps'.length dp dn _ _ _ _ _ _ _ _ ns ns' _ (S3 _ hO.below) (S4 _ hO.below) ya yb xa xb).mono ?_
      rintro e9 u ⟨N', d', rfl, hb⟩
      rw [HNM.out] at hb
      rw [HNM.out]
      replace hO := hO.call hb
      clear hb
      simp only [List.cons_append, List.nil_append] at hO
      go_wp2_with (first | (with_reducible refine zaq ?_) | ((with_reducible refine zaa ?_); refine zlb rfl hO rfl _ (by exact at6) ?_) | ((with_reducible refine zab ?_); refine zsc rfl hO rfl _ (by exact at5) ?_; clear hO; intro u hO; simp only [zC, zB] at hO) | ((with_reducible refine zab ?_); refine zsf rfl hO rfl _ (by exact at6) (zM rfl) ?_; clear hO; intro u hO; simp only [zC, zB] at hO) | fail)
      have hR := hO.pick [1, 0] (by decide)
      simp only [List.filterMap_cons, List.filterMap_nil, List.getElem?_cons_zero, List.getElem?_cons_succ] at hR
      refine ⟨zau rfl hO rfl 5 at5 rfl rfl rfl ?_⟩
      clear hO
      obtain ⟨F', hvo', hF⟩ := Own.rename hR hvo
      exact ⟨_, _, by rw [HG.out]; rfl, by rw [HF.out]; exact hvo', hF⟩

end Go.Proofs.YtmofcbpabdbjlaaGreat
