/-
  What is proved: what the reference's ChooseVector returns.
  Condition: vectors of size at most 1048576.
-/
import Derived.Test.YtmofcbpabdbjlaaCh
import Derived.Test.YtmofcbpabdbjlaaMsA
import Derived.Test.YtmofcbpabdbjlaaJt
namespace Go.Proofs.Ytmofcbpabdbjlaa
set_option maxRecDepth 8000
open Go.RowKit Go.ChangeShapes Go.WideShapes Go.Deep
set_option linter.unusedVariables false
set_option linter.unusedSimpArgs false

theorem isV_itsC {t : VT} (h : isV t = true) : (∀ x ∈ t.items, itB t.kind t.levels x = true) ∧ l5B t.kind t.levels.length = cntK t.kind t.levels.length := by
  obtain ⟨k, is, ps, ns, cs, ls, c, e⟩ := t
  exact ⟨(isV_facts h).2.2.2.2.2.2.2.1, l5_cnt h⟩
theorem chL_succM {ts A B : List It} {f g : It → It} {m ja jb : Nat} (h : m < ts.length) (hja : m % A.length = ja) (a1 : ja < A.length) (hjb : m % B.length = jb) (a2 : jb < B.length) : chL ts (A.map f) (B.map g) (m + 1) = chL ts (A.map f) (B.map g) m ++ [chF (trI ts[m]) (f A[ja]) (g B[jb])] := by
  have h1 := chL_succ (X := A.map f) (Y := B.map g) (ja := ja) (jb := jb) h (by simpa using hja) (by simpa using a1) (by simpa using hjb) (by simpa using a2)
  rw [h1]
  simp
theorem Sl.nt3 {u : World} {b off n : Nat} {l : List Int} (h : Sl u 1 (some ⟨b, off, none⟩) n (ints l)) {i : Nat} (hi : i < n) (hl : i < l.length) {x : Int} (hx : l[i]'hl = x) : u.cell? ⟨b, off + i, none⟩ = some (.int .i64 x) := by
  obtain ⟨b', off', e, _, d0⟩ := h.nt (Below.refl _ _) hi hl
  simp only [Option.some.injEq, Addr.mk.injEq, and_true] at e
  obtain ⟨rfl, rfl⟩ := e
  rw [hx] at d0
  exact d0

set_option maxRecDepth 20000 in
set_option maxHeartbeats 8000000 in
theorem spec_ch (tt ta tb : VT) (vt va vb : List Value) (w : World) (ht : RdV w tt vt) (ha : RdV w ta va) (hb : RdV w tb vb) (hzt : szV tt ≤ 1048576) (hza : szV ta ≤ 1048576) (hzb : szV tb ≤ 1048576) : Calls Try.prog 45 #[.agg vt.toArray, .agg va.toArray, .agg vb.toArray] w (RetVS (chT tt ta tb) (chS tt ta tb) w) := by
  have CT := fun u (h : Below w.heap.size w u) => spec_isVec tt _ u (ht.grow h) hzt
  have CA := fun u (h : Below w.heap.size w u) => spec_isVec ta _ u (ha.grow h) hza
  have CB := fun u (h : Below w.heap.size w u) => spec_isVec tb _ u (hb.grow h) hzb
  have CX := fun u (h : Below w.heap.size w u) (hV : isV ta = true) (h3 : ta.kind ≤ 3) => (spec_plain ta _ u (ha.grow h) hV h3).mono fun e' w' h => RetV.exC (xk := plK ta) (xi := plL ta) (xp := []) (xn := []) (xc := []) (xl := []) (xo := 0) (xe := 0) h
  have CY := fun u (h : Below w.heap.size w u) (hV : isV tb = true) (h3 : tb.kind ≤ 3) => (spec_plain tb _ u (hb.grow h) hV h3).mono fun e' w' h => RetV.exC (xk := plK tb) (xi := plL tb) (xp := []) (xn := []) (xc := []) (xl := []) (xo := 0) (xe := 0) h
  have KT : Hid (isV tt = true → tt.items.length ≤ 40 ∧ tt.names.length ≤ 40 ∧ (∀ x ∈ tt.items, itB tt.kind tt.levels x = true) ∧ l5B tt.kind tt.levels.length = cntK tt.kind tt.levels.length) := Lib.hid (fun h => ⟨(isV_lensH h).1, (isV_lensH h).2.1, isV_itsC h⟩)
  have KA : Hid (isV ta = true → ta.items.length ≤ 40 ∧ 0 ≤ ta.kind ∧ (ta.kind ≤ 3 → lenV ta = ta.items.length)) := Lib.hid (fun h => ⟨(isV_lensH h).1, (isV_lensH h).2.2⟩)
  have KB : Hid (isV tb = true → tb.items.length ≤ 40 ∧ 0 ≤ tb.kind ∧ (tb.kind ≤ 3 → lenV tb = tb.items.length)) := Lib.hid (fun h => ⟨(isV_lensH h).1, (isV_lensH h).2.2⟩)
  have PA : Hid (isV ta = true → ta.kind ≤ 3 → (0 ≤ plK ta ∧ plK ta ≤ 3) ∧ (∀ x ∈ plL ta, itemB (plK ta) x = true) ∧ (plL ta).length = ta.items.length ∧ szV (.mk (plK ta) (plL ta) [] [] [] [] 0 0) ≤ 1048576) := Lib.hid (fun h h3 => ⟨plK_bd h h3, pl_item h, pl_len ta, pl_sz h⟩)
  have PB : Hid (isV tb = true → tb.kind ≤ 3 → (0 ≤ plK tb ∧ plK tb ≤ 3) ∧ (∀ x ∈ plL tb, itemB (plK tb) x = true) ∧ (plL tb).length = tb.items.length ∧ szV (.mk (plK tb) (plL tb) [] [] [] [] 0 0) ≤ 1048576) := Lib.hid (fun h h3 => ⟨plK_bd h h3, pl_item h, pl_len tb, pl_sz h⟩)
  have HT : Hid (chT tt ta tb = if isV tt && isV ta && isV tb then (if cntK tt.kind tt.levels.length then (if ta.kind ≤ 3 ∧ tb.kind ≤ 3 then (if ta.items.length = 0 ∨ tb.items.length = 0 then vecI 0 [] else chW tt ta tb) else vecI 0 []) else vecI 0 []) else vecI 0 []) := Lib.hid rfl
  have HS : Hid (chS tt ta tb = if isV tt && isV ta && isV tb then (if cntK tt.kind tt.levels.length then (if ta.kind ≤ 3 ∧ tb.kind ≤ 3 then (if ta.items.length = 0 ∨ tb.items.length = 0 then rzS else ⟨#[]⟩) else notAtS) else nonLogS) else badS) := Lib.hid rfl
  have HW : Hid (chW tt ta tb = vecN (if plK ta < plK tb then plK tb else plK ta) (chL tt.items ((plL ta).map (cvI (plK ta) (if plK ta < plK tb then plK tb else plK ta))) ((plL tb).map (cvI (plK tb) (if plK ta < plK tb then plK tb else plK ta))) tt.items.length) tt.names) := Lib.hid rfl
  obtain ⟨X, hX⟩ : ∃ X, chT tt ta tb = X := ⟨_, rfl⟩
  obtain ⟨Y, hY⟩ : ∃ Y, chS tt ta tb = Y := ⟨_, rfl⟩
  rw [hX] at HT
  rw [hY] at HS
  rw [hX, hY]
  obtain ⟨W, hW⟩ : ∃ W, chW tt ta tb = W := ⟨_, rfl⟩
  rw [hW] at HT HW
  obtain ⟨qt, hqt⟩ : ∃ q, isV tt = q := ⟨_, rfl⟩
  obtain ⟨qa, hqa⟩ : ∃ q, isV ta = q := ⟨_, rfl⟩
  obtain ⟨qb, hqb⟩ : ∃ q, isV tb = q := ⟨_, rfl⟩
  rw [hqt] at CT HT HS KT
  rw [hqa] at CA CX HT HS KA PA
  rw [hqb] at CB CY HT HS KB PB
  obtain ⟨pk, hpk⟩ : ∃ q, plK ta = q := ⟨_, rfl⟩
  obtain ⟨pl, hpl⟩ : ∃ q, plL ta = q := ⟨_, rfl⟩
  obtain ⟨rk, hrk⟩ : ∃ q, plK tb = q := ⟨_, rfl⟩
  obtain ⟨rl, hrl⟩ : ∃ q, plL tb = q := ⟨_, rfl⟩
  rw [hpk, hpl] at CX PA HW
  rw [hrk, hrl] at CY PB HW
  clear hX hY hW hqt hqa hqb hpk hpl hrk hrl
  obtain ⟨j, js, jp, jn, jc, jl, jo, je⟩ := tt
  obtain ⟨k, is, ps, ns, cs, ls, c, e⟩ := ta
  obtain ⟨k', is', ps', ns', cs', ls', c', e'⟩ := tb
  have hsa : szI is + szL ps + szS ns + szS cs + szS ls ≤ 1048576 := hza
  have hsb : szI is' + szL ps' + szS ns' + szS cs' + szS ls' ≤ 1048576 := hzb
  have xa : (is.length : Int) + ps.length ≤ 9223372036854775807 := by have := szL_eq ps; unfold szI at hsa; omega
  have xb : (is'.length : Int) + ps'.length ≤ 9223372036854775807 := by have := szL_eq ps'; unfold szI at hsb; omega
  replace HT : Hid (X = if qt && qa && qb then (if cntK j jl.length then (if k ≤ 3 ∧ k' ≤ 3 then (if is.length = 0 ∨ is'.length = 0 then vecI 0 [] else W) else vecI 0 []) else vecI 0 []) else vecI 0 []) := HT
  replace HS : Hid (Y = if qt && qa && qb then (if cntK j jl.length then (if k ≤ 3 ∧ k' ≤ 3 then (if is.length = 0 ∨ is'.length = 0 then rzS else ⟨#[]⟩) else notAtS) else nonLogS) else badS) := HS
  replace HW : Hid (W = vecN (if pk < rk then rk else pk) (chL js (pl.map (cvI pk (if pk < rk then rk else pk))) (rl.map (cvI rk (if pk < rk then rk else pk))) js.length) jn) := HW
  replace KT : Hid (qt = true → js.length ≤ 40 ∧ jn.length ≤ 40 ∧ (∀ x ∈ js, itB j jl x = true) ∧ l5B j jl.length = cntK j jl.length) := KT
  replace KA : Hid (qa = true → is.length ≤ 40 ∧ 0 ≤ k ∧ (k ≤ 3 → lenN k is.length ps.length = is.length)) := KA
  replace KB : Hid (qb = true → is'.length ≤ 40 ∧ 0 ≤ k' ∧ (k' ≤ 3 → lenN k' is'.length ps'.length = is'.length)) := KB
  replace PA : Hid (qa = true → k ≤ 3 → (0 ≤ pk ∧ pk ≤ 3) ∧ (∀ x ∈ pl, itemB pk x = true) ∧ pl.length = is.length ∧ szV (.mk pk pl [] [] [] [] 0 0) ≤ 1048576) := PA
  replace PB : Hid (qb = true → k' ≤ 3 → (0 ≤ rk ∧ rk ≤ 3) ∧ (∀ x ∈ rl, itemB rk x = true) ∧ rl.length = is'.length ∧ szV (.mk rk rl [] [] [] [] 0 0) ≤ 1048576) := PB
  obtain ⟨Ji, Jp, Jn, Jc, Jl, gi, gp, gn, gc, gl, pvs0, rfl, f1, f2, f3, f4, f5⟩ := ht.open
  obtain ⟨Ai, Ap, An, Ac, Al, ci, cp, cn, cc, cl, pvs, rfl, h1, h2, h3, h4, h5⟩ := ha.open
  obtain ⟨Bi, Bp, Bn, Bc, Bl, di, dp, dn, dc, dl, pvs', rfl, g1, g2, g3, g4, g5⟩ := hb.open
  clear ht ha hb hzt hza hzb hsa hsb h1 h2 h3 h4 h5 g1 g2 g3 g4 g5 f2 f4 f5
  cases qt with
  | false =>
    have HF : Hid (X = vecI 0 []) := Lib.hid (by rw [HT.out]; rfl)
    have HG : Hid (Y = badS) := Lib.hid (by rw [HS.out]; rfl)
    clear HT HS HW KT KA KB PA PB CX CY f1 f3
    go_enter Try.func45, Try.ntmps45
    have hO := Own.nil w
    go_wp2_with (first
      | ((with_reducible refine (CT _ hO.below).mono ?_); rintro e u ⟨rfl, hb⟩; (replace hO := hO.step hb; clear hb))
      | ((with_reducible refine (spec_bad _).mono ?_); rintro e u ⟨rfl, hb⟩; (replace hO := hO.step hb; clear hb))
      | (with_reducible refine stop_ret ?_)
      | ((with_reducible refine wpl_alloc ?_); refine wpList_alloc_own rfl (by rfl) hO rfl (fun b => by simp only [Act.put, zA, zB, zC]; rfl) ?_; (refine nm 3 rfl ?_; clear hO; intro b3 u hO); simp only [zL, zK] at hO)
      | ((with_reducible refine wpl_box ?_); refine wpList_box_own rfl (by rfl) hO rfl rfl (fun b => by simp only [Act.put, zA, zB, zC]; rfl) ?_; (first | (refine nm 0 rfl ?_; clear hO; intro b0 u hO) | (refine nm 1 rfl ?_; clear hO; intro b1 u hO) | (refine nm 2 rfl ?_; clear hO; intro b2 u hO) | fail); simp only [zL, zK] at hO)
      | ((with_reducible refine wpl_load ?_); refine wpList_load_box rfl (by rfl) hO rfl _ (by exact at0) (by rfl) (by simp only [Act.put, zA, zB, zC]; rfl) ?_)
      | ((with_reducible refine wpl_store ?_); refine wpList_store_box rfl (by rfl) hO rfl _ (by exact at3) (by simp only [Act.eval, zJ, zF, zD, zE, zP]; rfl) (by rfl) (by rfl) (by rfl) (by rfl) (by rfl) ?_; clear hO; intro u hO; simp only [zC, zB] at hO)
      | fail)
    obtain ⟨F0, hvo0, hF⟩ := Own.vec0 u 0
    exact ⟨ret_box2 rfl hO rfl 3 at3 rfl rfl rfl ⟨_, _, by rw [HG.out]; rfl, by rw [HF.out]; exact hvo0, (hO.call hF).pick [0] (by decide)⟩⟩
  | true =>
  cases qa with
  | false =>
    have HF : Hid (X = vecI 0 []) := Lib.hid (by rw [HT.out]; rfl)
    have HG : Hid (Y = badS) := Lib.hid (by rw [HS.out]; rfl)
    clear HT HS HW KT KA KB PA PB CX CY f1 f3
    go_enter Try.func45, Try.ntmps45
    have hO := Own.nil w
    go_wp2_with (first
      | ((with_reducible refine (CT _ hO.below).mono ?_); rintro e u ⟨rfl, hb⟩; (replace hO := hO.step hb; clear hb))
      | ((with_reducible refine (CA _ hO.below).mono ?_); rintro e u ⟨rfl, hb⟩; (replace hO := hO.step hb; clear hb))
      | ((with_reducible refine (spec_bad _).mono ?_); rintro e u ⟨rfl, hb⟩; (replace hO := hO.step hb; clear hb))
      | (with_reducible refine stop_ret ?_)
      | ((with_reducible refine wpl_alloc ?_); refine wpList_alloc_own rfl (by rfl) hO rfl (fun b => by simp only [Act.put, zA, zB, zC]; rfl) ?_; (refine nm 3 rfl ?_; clear hO; intro b3 u hO); simp only [zL, zK] at hO)
      | ((with_reducible refine wpl_box ?_); refine wpList_box_own rfl (by rfl) hO rfl rfl (fun b => by simp only [Act.put, zA, zB, zC]; rfl) ?_; (first | (refine nm 0 rfl ?_; clear hO; intro b0 u hO) | (refine nm 1 rfl ?_; clear hO; intro b1 u hO) | (refine nm 2 rfl ?_; clear hO; intro b2 u hO) | fail); simp only [zL, zK] at hO)
      | ((with_reducible refine wpl_load ?_); refine wpList_load_box rfl (by rfl) hO rfl _ (by (first | exact at0 | exact at1 | fail)) (by rfl) (by simp only [Act.put, zA, zB, zC]; rfl) ?_)
      | ((with_reducible refine wpl_store ?_); refine wpList_store_box rfl (by rfl) hO rfl _ (by exact at3) (by simp only [Act.eval, zJ, zF, zD, zE, zP]; rfl) (by rfl) (by rfl) (by rfl) (by rfl) (by rfl) ?_; clear hO; intro u hO; simp only [zC, zB] at hO)
      | fail)
    obtain ⟨F0, hvo0, hF⟩ := Own.vec0 u 0
    exact ⟨ret_box2 rfl hO rfl 3 at3 rfl rfl rfl ⟨_, _, by rw [HG.out]; rfl, by rw [HF.out]; exact hvo0, (hO.call hF).pick [0] (by decide)⟩⟩
  | true =>
  cases qb with
  | false =>
    have HF : Hid (X = vecI 0 []) := Lib.hid (by rw [HT.out]; rfl)
    have HG : Hid (Y = badS) := Lib.hid (by rw [HS.out]; rfl)
    clear HT HS HW KT KA KB PA PB CX CY f1 f3
    go_enter Try.func45, Try.ntmps45
    have hO := Own.nil w
    go_wp2_with (first
      | ((with_reducible refine (CT _ hO.below).mono ?_); rintro e u ⟨rfl, hb⟩; (replace hO := hO.step hb; clear hb))
      | ((with_reducible refine (CA _ hO.below).mono ?_); rintro e u ⟨rfl, hb⟩; (replace hO := hO.step hb; clear hb))
      | ((with_reducible refine (CB _ hO.below).mono ?_); rintro e u ⟨rfl, hb⟩; (replace hO := hO.step hb; clear hb))
      | ((with_reducible refine (spec_bad _).mono ?_); rintro e u ⟨rfl, hb⟩; (replace hO := hO.step hb; clear hb))
      | (with_reducible refine stop_ret ?_)
      | ((with_reducible refine wpl_alloc ?_); refine wpList_alloc_own rfl (by rfl) hO rfl (fun b => by simp only [Act.put, zA, zB, zC]; rfl) ?_; (refine nm 3 rfl ?_; clear hO; intro b3 u hO); simp only [zL, zK] at hO)
      | ((with_reducible refine wpl_box ?_); refine wpList_box_own rfl (by rfl) hO rfl rfl (fun b => by simp only [Act.put, zA, zB, zC]; rfl) ?_; (first | (refine nm 0 rfl ?_; clear hO; intro b0 u hO) | (refine nm 1 rfl ?_; clear hO; intro b1 u hO) | (refine nm 2 rfl ?_; clear hO; intro b2 u hO) | fail); simp only [zL, zK] at hO)
      | ((with_reducible refine wpl_load ?_); refine wpList_load_box rfl (by rfl) hO rfl _ (by (first | exact at0 | exact at1 | exact at2 | fail)) (by rfl) (by simp only [Act.put, zA, zB, zC]; rfl) ?_)
      | ((with_reducible refine wpl_store ?_); refine wpList_store_box rfl (by rfl) hO rfl _ (by exact at3) (by simp only [Act.eval, zJ, zF, zD, zE, zP]; rfl) (by rfl) (by rfl) (by rfl) (by rfl) (by rfl) ?_; clear hO; intro u hO; simp only [zC, zB] at hO)
      | fail)
    obtain ⟨F0, hvo0, hF⟩ := Own.vec0 u 0
    exact ⟨ret_box2 rfl hO rfl 3 at3 rfl rfl rfl ⟨_, _, by rw [HG.out]; rfl, by rw [HF.out]; exact hvo0, (hO.call hF).pick [0] (by decide)⟩⟩
  | true =>
  obtain ⟨lt, lnm, itt, ct⟩ := KT.out rfl
  obtain ⟨la, k0, ea⟩ := KA.out rfl
  obtain ⟨lb, k0', eb⟩ := KB.out rfl
  have LT := fun u (hb : Below w.heap.size w u) => spec_l5log j js (.slice Jp jp.length gp) (.slice Jn jn.length gn) (.slice Jc jc.length gc) (.int .i64 jo) (.int .i64 je) Ji Jl gi gl jl u (f1.below hb) lt itt
  rw [ct] at LT
  obtain ⟨rc, hrc⟩ : ∃ r, cntK j jl.length = r := ⟨_, rfl⟩
  rw [hrc] at LT HT HS
  clear hrc itt ct ea eb
  cases rc with
  | false =>
    have HF : Hid (X = vecI 0 []) := Lib.hid (by rw [HT.out]; rfl)
    have HG : Hid (Y = nonLogS) := Lib.hid (by rw [HS.out]; rfl)
    obtain ⟨Xt, hXt⟩ : ∃ X, (if false = true then js.map trI else []) = X := ⟨_, rfl⟩
    rw [hXt] at LT
    clear hXt
    clear HT HS HW KT KA KB PA PB CX CY f1 f3
    go_enter Try.func45, Try.ntmps45
    have hO := Own.nil w
    go_wp2_with (first
      | ((with_reducible refine (CT _ hO.below).mono ?_); rintro e u ⟨rfl, hb⟩; (replace hO := hO.step hb; clear hb))
      | ((with_reducible refine (CA _ hO.below).mono ?_); rintro e u ⟨rfl, hb⟩; (replace hO := hO.step hb; clear hb))
      | ((with_reducible refine (CB _ hO.below).mono ?_); rintro e u ⟨rfl, hb⟩; (replace hO := hO.step hb; clear hb))
      | ((with_reducible refine wpl_alloc ?_); refine wpList_alloc_own rfl (by rfl) hO rfl (fun b => by simp only [Act.put, zA, zB, zC]; rfl) ?_; (refine nm 3 rfl ?_; clear hO; intro b3 u hO); simp only [zL, zK] at hO)
      | ((with_reducible refine wpl_box ?_); refine wpList_box_own rfl (by rfl) hO rfl rfl (fun b => by simp only [Act.put, zA, zB, zC]; rfl) ?_; (first | (refine nm 0 rfl ?_; clear hO; intro b0 u hO) | (refine nm 1 rfl ?_; clear hO; intro b1 u hO) | (refine nm 2 rfl ?_; clear hO; intro b2 u hO) | fail); simp only [zL, zK] at hO)
      | ((with_reducible refine wpl_load ?_); refine wpList_load_box rfl (by rfl) hO rfl _ (by (first | exact at0 | exact at1 | exact at2 | fail)) (by rfl) (by simp only [Act.put, zA, zB, zC]; rfl) ?_)
      | fail)
    refine (LT _ hO.below).mono ?_
    rintro e9 u ⟨A1, n1, d1', rfl, rfl, hb⟩
    replace hO := hO.call hb
    clear hb LT
    simp only [List.cons_append, List.nil_append] at hO
    go_wp2_with (first
      | (with_reducible refine stop_ret ?_)
      | ((with_reducible refine wpl_store ?_); refine wpList_store_box rfl (by rfl) hO rfl _ (by exact at4) (by simp only [Act.eval, zJ, zF, zD, zE, zP]; rfl) (by rfl) (by rfl) (by rfl) (by rfl) (by rfl) ?_; clear hO; intro u hO; simp only [zC, zB] at hO)
      | fail)
    obtain ⟨F0, hvo0, hF⟩ := Own.vec0 u 0
    exact ⟨ret_box2 rfl hO rfl 4 at4 rfl rfl rfl ⟨_, _, by rw [HG.out]; rfl, by rw [HF.out]; exact hvo0, (hO.call hF).pick [0] (by decide)⟩⟩
  | true =>
  have hXt : (if true = true then js.map trI else []) = js.map trI := if_pos rfl
  rw [hXt] at LT
  clear hXt
  obtain ⟨Xt, hXt⟩ : ∃ X, js.map trI = X := ⟨_, rfl⟩
  rw [hXt] at LT
  have HXl : Hid (Xt.length = js.length) := Lib.hid (by rw [← hXt, List.length_map])
  have HXa : Hid (∀ (m : Nat) (h : m < js.length) (h2 : m < Xt.length), Xt[m] = trI js[m]) := Lib.hid (by subst hXt; intro m h h2; rw [List.getElem_map])
  clear hXt
  obtain ⟨mk, hmk⟩ : ∃ m, (if k < k' then k' else k) = m := ⟨_, rfl⟩
  by_cases hn : ¬ (k ≤ 3 ∧ k' ≤ 3)
  · have hm : 4 ≤ mk := by rw [← hmk]; split <;> omega
    have HF : Hid (X = vecI 0 []) := Lib.hid (by rw [HT.out]; simp [hn])
    have HG : Hid (Y = notAtS) := Lib.hid (by rw [HS.out]; simp [hn])
    clear HT HS HW KT KA KB PA PB CX CY f1 f3
    clear hn HXa HXl
    go_enter Try.func45, Try.ntmps45
    have hO := Own.nil w
    go_wp2_with (first
      | ((with_reducible refine (CT _ hO.below).mono ?_); rintro e u ⟨rfl, hb⟩; (replace hO := hO.step hb; clear hb))
      | ((with_reducible refine (CA _ hO.below).mono ?_); rintro e u ⟨rfl, hb⟩; (replace hO := hO.step hb; clear hb))
      | ((with_reducible refine (CB _ hO.below).mono ?_); rintro e u ⟨rfl, hb⟩; (replace hO := hO.step hb; clear hb))
      | ((with_reducible refine wpl_alloc ?_); refine wpList_alloc_own rfl (by rfl) hO rfl (fun b => by simp only [Act.put, zA, zB, zC]; rfl) ?_; (refine nm 3 rfl ?_; clear hO; intro b3 u hO); simp only [zL, zK] at hO)
      | ((with_reducible refine wpl_box ?_); refine wpList_box_own rfl (by rfl) hO rfl rfl (fun b => by simp only [Act.put, zA, zB, zC]; rfl) ?_; (first | (refine nm 0 rfl ?_; clear hO; intro b0 u hO) | (refine nm 1 rfl ?_; clear hO; intro b1 u hO) | (refine nm 2 rfl ?_; clear hO; intro b2 u hO) | fail); simp only [zL, zK] at hO)
      | ((with_reducible refine wpl_load ?_); refine wpList_load_box rfl (by rfl) hO rfl _ (by (first | exact at0 | exact at1 | exact at2 | fail)) (by rfl) (by simp only [Act.put, zA, zB, zC]; rfl) ?_)
      | fail)
    refine (LT _ hO.below).mono ?_
    rintro e9 u ⟨A1, n1, d1', rfl, rfl, hb⟩
    replace hO := hO.call hb
    clear hb LT
    simp only [List.cons_append, List.nil_append] at hO
    go_wp2_with (first
      | (with_reducible refine stop_ret ?_)
      | ((with_reducible refine wpl_load ?_); refine wpList_load_field rfl (by rfl) hO rfl _ (by (first | exact at2 | exact at3 | fail)) (by rfl) (by simp only [Act.put, zA, zB, zC]; rfl) ?_)
      | ((with_reducible refine wpl_store ?_); refine wpList_store_box rfl (by rfl) hO rfl _ (by exact at4) (by simp only [Act.eval, zJ, zF, zD, zE, zP]; rfl) (by rfl) (by rfl) (by rfl) (by rfl) (by rfl) ?_; clear hO; intro u hO; simp only [zC, zB] at hO)
      | fail)
    obtain ⟨F0, hvo0, hF⟩ := Own.vec0 u 0
    exact ⟨ret_box2 rfl hO rfl 4 at4 rfl rfl rfl ⟨_, _, by rw [HG.out]; rfl, by rw [HF.out]; exact hvo0, (hO.call hF).pick [0] (by decide)⟩⟩
  obtain ⟨k3, k3'⟩ := Decidable.not_not.1 hn
  have hmx : ¬ 4 ≤ mk := by rw [← hmk]; split <;> omega
  clear hn
  by_cases z1 : is.length = 0
  · have hn : is.length = 0 ∨ is'.length = 0 := .inl z1
    have q1 : ((is.length : Int) == 0) = true := by simp [z1]
    have HF : Hid (X = vecI 0 []) := Lib.hid (by rw [HT.out]; simp only [Bool.and_self, if_true]; rw [if_pos ⟨k3, k3'⟩, if_pos hn])
    have HG : Hid (Y = rzS) := Lib.hid (by rw [HS.out]; simp only [Bool.and_self, if_true]; rw [if_pos ⟨k3, k3'⟩, if_pos hn])
    clear HT HS HW KT KA KB PA PB CX CY f1 f3
    clear hn z1 HXa HXl
    go_enter Try.func45, Try.ntmps45
    have hO := Own.nil w
    go_wp2_with (first
      | ((with_reducible refine (CT _ hO.below).mono ?_); rintro e u ⟨rfl, hb⟩; (replace hO := hO.step hb; clear hb))
      | ((with_reducible refine (CA _ hO.below).mono ?_); rintro e u ⟨rfl, hb⟩; (replace hO := hO.step hb; clear hb))
      | ((with_reducible refine (CB _ hO.below).mono ?_); rintro e u ⟨rfl, hb⟩; (replace hO := hO.step hb; clear hb))
      | ((with_reducible refine wpl_alloc ?_); refine wpList_alloc_own rfl (by rfl) hO rfl (fun b => by simp only [Act.put, zA, zB, zC]; rfl) ?_; (refine nm 3 rfl ?_; clear hO; intro b3 u hO); simp only [zL, zK] at hO)
      | ((with_reducible refine wpl_box ?_); refine wpList_box_own rfl (by rfl) hO rfl rfl (fun b => by simp only [Act.put, zA, zB, zC]; rfl) ?_; (first | (refine nm 0 rfl ?_; clear hO; intro b0 u hO) | (refine nm 1 rfl ?_; clear hO; intro b1 u hO) | (refine nm 2 rfl ?_; clear hO; intro b2 u hO) | fail); simp only [zL, zK] at hO)
      | ((with_reducible refine wpl_load ?_); refine wpList_load_box rfl (by rfl) hO rfl _ (by (first | exact at0 | exact at1 | exact at2 | fail)) (by rfl) (by simp only [Act.put, zA, zB, zC]; rfl) ?_)
      | fail)
    refine (LT _ hO.below).mono ?_
    rintro e9 u ⟨A1, n1, d1', rfl, rfl, hb⟩
    replace hO := hO.call hb
    clear hb LT
    simp only [List.cons_append, List.nil_append] at hO
    go_wp2_with (first
      | (with_reducible refine stop_ret ?_)
      | ((with_reducible refine wpl_load ?_); refine wpList_load_field rfl (by rfl) hO rfl _ (by (first | exact at2 | exact at3 | fail)) (by rfl) (by simp only [Act.put, zA, zB, zC]; rfl) ?_)
      | ((with_reducible refine wpl_store ?_); refine wpList_store_box rfl (by rfl) hO rfl _ (by exact at4) (by simp only [Act.eval, zJ, zF, zD, zE, zP]; rfl) (by rfl) (by rfl) (by rfl) (by rfl) (by rfl) ?_; clear hO; intro u hO; simp only [zC, zB] at hO)
      | fail)
    obtain ⟨F0, hvo0, hF⟩ := Own.vec0 u 0
    exact ⟨ret_box2 rfl hO rfl 4 at4 rfl rfl rfl ⟨_, _, by rw [HG.out]; rfl, by rw [HF.out]; exact hvo0, (hO.call hF).pick [0] (by decide)⟩⟩
  have q1 : ((is.length : Int) == 0) = false := by simp [z1]
  by_cases z2 : is'.length = 0
  · have hn : is.length = 0 ∨ is'.length = 0 := .inr z2
    have q2 : ((is'.length : Int) == 0) = true := by simp [z2]
    have HF : Hid (X = vecI 0 []) := Lib.hid (by rw [HT.out]; simp only [Bool.and_self, if_true]; rw [if_pos ⟨k3, k3'⟩, if_pos hn])
    have HG : Hid (Y = rzS) := Lib.hid (by rw [HS.out]; simp only [Bool.and_self, if_true]; rw [if_pos ⟨k3, k3'⟩, if_pos hn])
    clear HT HS HW KT KA KB PA PB CX CY f1 f3
    clear hn z1 z2 HXa HXl
    go_enter Try.func45, Try.ntmps45
    have hO := Own.nil w
    go_wp2_with (first
      | ((with_reducible refine (CT _ hO.below).mono ?_); rintro e u ⟨rfl, hb⟩; (replace hO := hO.step hb; clear hb))
      | ((with_reducible refine (CA _ hO.below).mono ?_); rintro e u ⟨rfl, hb⟩; (replace hO := hO.step hb; clear hb))
      | ((with_reducible refine (CB _ hO.below).mono ?_); rintro e u ⟨rfl, hb⟩; (replace hO := hO.step hb; clear hb))
      | ((with_reducible refine wpl_alloc ?_); refine wpList_alloc_own rfl (by rfl) hO rfl (fun b => by simp only [Act.put, zA, zB, zC]; rfl) ?_; (refine nm 3 rfl ?_; clear hO; intro b3 u hO); simp only [zL, zK] at hO)
      | ((with_reducible refine wpl_box ?_); refine wpList_box_own rfl (by rfl) hO rfl rfl (fun b => by simp only [Act.put, zA, zB, zC]; rfl) ?_; (first | (refine nm 0 rfl ?_; clear hO; intro b0 u hO) | (refine nm 1 rfl ?_; clear hO; intro b1 u hO) | (refine nm 2 rfl ?_; clear hO; intro b2 u hO) | fail); simp only [zL, zK] at hO)
      | ((with_reducible refine wpl_load ?_); refine wpList_load_box rfl (by rfl) hO rfl _ (by (first | exact at0 | exact at1 | exact at2 | fail)) (by rfl) (by simp only [Act.put, zA, zB, zC]; rfl) ?_)
      | fail)
    refine (LT _ hO.below).mono ?_
    rintro e9 u ⟨A1, n1, d1', rfl, rfl, hb⟩
    replace hO := hO.call hb
    clear hb LT
    simp only [List.cons_append, List.nil_append] at hO
    go_wp2_with (first
      | (with_reducible refine stop_ret ?_)
      | ((with_reducible refine wpl_load ?_); refine wpList_load_field rfl (by rfl) hO rfl _ (by (first | exact at2 | exact at3 | fail)) (by rfl) (by simp only [Act.put, zA, zB, zC]; rfl) ?_)
      | ((with_reducible refine wpl_store ?_); refine wpList_store_box rfl (by rfl) hO rfl _ (by exact at4) (by simp only [Act.eval, zJ, zF, zD, zE, zP]; rfl) (by rfl) (by rfl) (by rfl) (by rfl) (by rfl) ?_; clear hO; intro u hO; simp only [zC, zB] at hO)
      | fail)
    obtain ⟨F0, hvo0, hF⟩ := Own.vec0 u 0
    exact ⟨ret_box2 rfl hO rfl 4 at4 rfl rfl rfl ⟨_, _, by rw [HG.out]; rfl, by rw [HF.out]; exact hvo0, (hO.call hF).pick [0] (by decide)⟩⟩
  have q2 : ((is'.length : Int) == 0) = false := by simp [z2]
  obtain ⟨⟨p0, p3⟩, pit, plen, psz⟩ := PA.out rfl k3
  obtain ⟨⟨r0, r3⟩, rit, rlen, rsz⟩ := PB.out rfl k3'
  replace CX := fun u (h : Below w.heap.size w u) => CX u h rfl k3
  replace CY := fun u (h : Below w.heap.size w u) => CY u h rfl k3'
  have hn : ¬ (is.length = 0 ∨ is'.length = 0) := by omega
  have HT' : Hid (X = W) := Lib.hid (by rw [HT.out]; simp only [Bool.and_self, if_true]; rw [if_pos ⟨k3, k3'⟩, if_neg hn])
  have HG : Hid (Y = ⟨#[]⟩) := Lib.hid (by rw [HS.out]; simp only [Bool.and_self, if_true]; rw [if_pos ⟨k3, k3'⟩, if_neg hn])
  obtain ⟨Kd, hK⟩ : ∃ z : Int, (if pk < rk then rk else pk) = z := ⟨_, rfl⟩
  rw [hK] at HW
  have hKK : pk ≤ Kd ∧ rk ≤ Kd ∧ Kd ≤ 3 := by rw [← hK]; split <;> omega
  obtain ⟨pK, rK, K3⟩ := hKK
  have lx0 : 0 < pl.length := by omega
  have ly0 : 0 < rl.length := by omega
  have lx1 : pl.length ≤ 40 := by omega
  have ly1 : rl.length ≤ 40 := by omega
  have HF : Hid (X = vecN Kd (chL js (pl.map (cvI pk Kd)) (rl.map (cvI rk Kd)) js.length) jn) := Lib.hid (by rw [HT'.out, HW.out])
  have jn1 : jn.length ≤ 9223372036854775807 := by omega
  clear HT HT' HS HW PA PB KT KA KB psz rsz plen rlen hn z1 z2 p0 p3 r0 r3
  go_enter Try.func45, Try.ntmps45
  have hO := Own.nil w
  go_wp2_with (first
    | ((with_reducible refine (CT _ hO.below).mono ?_); rintro e u ⟨rfl, hb⟩; (replace hO := hO.step hb; clear hb))
    | ((with_reducible refine (CA _ hO.below).mono ?_); rintro e u ⟨rfl, hb⟩; (replace hO := hO.step hb; clear hb))
    | ((with_reducible refine (CB _ hO.below).mono ?_); rintro e u ⟨rfl, hb⟩; (replace hO := hO.step hb; clear hb))
    | ((with_reducible refine wpl_alloc ?_); refine wpList_alloc_own rfl (by rfl) hO rfl (fun b => by simp only [Act.put, zA, zB, zC]; rfl) ?_; (refine nm 3 rfl ?_; clear hO; intro b3 u hO); simp only [zL, zK] at hO)
    | ((with_reducible refine wpl_box ?_); refine wpList_box_own rfl (by rfl) hO rfl rfl (fun b => by simp only [Act.put, zA, zB, zC]; rfl) ?_; (first | (refine nm 0 rfl ?_; clear hO; intro b0 u hO) | (refine nm 1 rfl ?_; clear hO; intro b1 u hO) | (refine nm 2 rfl ?_; clear hO; intro b2 u hO) | fail); simp only [zL, zK] at hO)
    | ((with_reducible refine wpl_load ?_); refine wpList_load_box rfl (by rfl) hO rfl _ (by (first | exact at0 | exact at1 | exact at2 | fail)) (by rfl) (by simp only [Act.put, zA, zB, zC]; rfl) ?_)
    | fail)
  refine (LT _ hO.below).mono ?_
  rintro e9 u ⟨A1, n1, d1', rfl, rfl, hb⟩
  replace hO := hO.call hb
  clear hb LT
  simp only [List.cons_append, List.nil_append] at hO
  go_wp2_with (first
    | ((with_reducible refine wpl_load ?_); refine wpList_load_box rfl (by rfl) hO rfl _ (by exact at2) (by rfl) (by simp only [Act.put, zA, zB, zC]; rfl) ?_)
    | ((with_reducible refine wpl_load ?_); refine wpList_load_field rfl (by rfl) hO rfl _ (by (first | exact at2 | exact at3 | fail)) (by rfl) (by simp only [Act.put, zA, zB, zC]; rfl) ?_)
    | fail)
  refine (CX _ hO.below).mono ?_
  rintro e u ⟨Ci, Cp, Cn, Cc, Cl, ri, rp, rn, rc, rl', F1, rfl, hvo1, hb⟩
  replace hO := hO.call hb
  clear hb
  simp only [zK, zL] at hO
  go_wp2_with (first
    | ((with_reducible refine wpl_alloc ?_); refine wpList_alloc_own rfl (by rfl) hO rfl (fun b => by simp only [Act.put, zA, zB, zC]; rfl) ?_; (refine nm 6 rfl ?_; clear hO; intro b6 u hO); simp only [zL, zK] at hO)
    | ((with_reducible refine wpl_load ?_); refine wpList_load_box rfl (by rfl) hO rfl _ (by exact at4) (by rfl) (by simp only [Act.put, zA, zB, zC]; rfl) ?_)
    | ((with_reducible refine wpl_store ?_); refine wpList_store_box rfl (by rfl) hO rfl _ (by exact at6) (by simp only [Act.eval, zJ, zF, zD, zE, zP]; rfl) (by rfl) (by rfl) (by rfl) (by rfl) (by rfl) ?_; clear hO; intro u hO; simp only [zC, zB] at hO)
    | fail)
  refine (CY _ hO.below).mono ?_
  rintro e u ⟨Di, Dp, Dn, Dc, Dl, si, sp, sn, sc, sl, F2, rfl, hvo2, hb⟩
  replace hO := hO.call hb
  clear hb
  simp only [zK, zL] at hO
  go_wp2_with (first
    | ((with_reducible refine wpl_alloc ?_); refine wpList_alloc_own rfl (by rfl) hO rfl (fun b => by simp only [Act.put, zA, zB, zC]; rfl) ?_; (refine nm 8 rfl ?_; clear hO; intro b8 u hO); simp only [zL, zK] at hO)
    | ((with_reducible refine wpl_store ?_); refine wpList_store_box rfl (by rfl) hO rfl _ (by exact at8) (by simp only [Act.eval, zJ, zF, zD, zE, zP]; rfl) (by rfl) (by rfl) (by rfl) (by rfl) (by rfl) ?_; clear hO; intro u hO; simp only [zC, zB] at hO)
    | fail)
  obtain ⟨q6, hq6⟩ : ∃ x, x = b6 := ⟨_, rfl⟩
  subst hq6
  refine J.wp_region_c (n := 132) [0, 1, 2, 3, 4, 6, 7] [5, 8, 9, 10] (deps := fun i => [[], [0], [], [2], [0, 1, 2, 3], [], [], [6], [5, 6, 7], [0, 1, 2, 3, 4, 5, 6, 7, 8], [], []].getD i []) (fun i d => [fun _ => True, fun _ => True, fun _ => True, fun _ => True, fun _ => True, (J.fresh0 9 1), fun _ => True, fun _ => True, (J.freshA 9 1 jn.length (stc jn) (d 5)), (fun x => x = (Value.agg #[.int .i64 Kd, .slice none 0 0, .slice none 0 0, (d 8).1, .slice none 0 0, .slice none 0 0, .int .i64 0, .int .i64 0], [])), J.fresh 29 [.int .i64 0, .slice none 0 0, .slice none 0 0, .slice none 0 0, .slice none 0 0, .slice none 0 0, .int .i64 0, .int .i64 0], fun _ => True].getD i (fun _ => True)) (r := 1) (lst := #[true, true, true, true, true, true, true, true, true, true, true, false]) (by kernel_rfl) (by kernel_rfl) (by kernel_rfl) rfl (by decide) (by kernel_rfl) hO ?_
  refine J.Chain.cons (by rfl) (by rfl) (fun M u hO K hK => by (simp only [wp_at_zero, wp_at_succ]; go_step; exact hK _ hO)) (by simp only [J.putL, zI, zG, zH, J.dstOf, zF, zD, zE, zS, zQ, zR, Act.put, zA, zB, zC]; rfl) ?_
  refine J.Chain.cons (by rfl) (by rfl) (fun M u hO K hK => by (exact wp_load_field hO rfl rfl _ (by exact at7) (by rfl) (by rfl) (hK _ hO))) (by simp only [J.putL, zI, zG, zH, J.dstOf, zF, zD, zE, zS, zQ, zR, Act.put, zA, zB, zC]; rfl) ?_
  refine J.Chain.cons (by rfl) (by rfl) (fun M u hO K hK => by (simp only [wp_at_zero, wp_at_succ]; go_step; exact hK _ hO)) (by simp only [J.putL, zI, zG, zH, J.dstOf, zF, zD, zE, zS, zQ, zR, Act.put, zA, zB, zC]; rfl) ?_
  refine J.Chain.cons (by rfl) (by rfl) (fun M u hO K hK => by (exact wp_load_field hO rfl rfl _ (by exact at8) (by rfl) (by rfl) (hK _ hO))) (by simp only [J.putL, zI, zG, zH, J.dstOf, zF, zD, zE, zS, zQ, zR, Act.put, zA, zB, zC]; rfl) ?_
  refine J.Chain.cons (by rfl) (by rfl) (fun M u hO K hK => by (simp only [wp_at_zero, wp_at_succ]; go_step; exact hK _ hO)) (by simp only [J.putL, zI, zG, zH, J.dstOf, zF, zD, zE, zS, zQ, zR, Act.put, zA, zB, zC]; rfl) ?_
  refine J.Chain.cons (by rfl) (by rfl) (fun M u hO K hK => by (simp only [wp_at_zero, wp_at_succ]; go_step; exact hK _ hO)) (by simp only [J.putL, zI, zG, zH, J.dstOf, zF, zD, zE, zS, zQ, zR, Act.put, zA, zB, zC]; rfl) ?_
  refine J.Chain.cons (by rfl) (by rfl) (fun M u hO K hK => by (exact wp_load_field hO rfl rfl _ (by exact at3) (by rfl) (by rfl) (hK _ hO))) (by simp only [J.putL, zI, zG, zH, J.dstOf, zF, zD, zE, zS, zQ, zR, Act.put, zA, zB, zC]; rfl) ?_
  refine J.Chain.nil ⟨?_, ?_⟩
  · refine J.Each.cons (by rfl) ?_ ?_; exact ⟨rfl, fun vs M u hO _ K hK => by (refine wp_build_row0 hO rfl rfl fun b u hO => ?_; exact hK _ _ _ (show J.fresh0 9 1 _ from ⟨b, rfl⟩) hO)⟩; refine J.Each.cons (by rfl) ?_ ?_; exact ⟨rfl, fun vs M u hO hF K hK => by (obtain ⟨z5, e5⟩ := (hF 5 (by decide) (by decide)).1; refine wp_append_new hO rfl (b := z5) (by simp only [Act.eval, zJ, zP, J.putL, zI, zG, zH, J.dstOf, zF, zD, zE, zS, zQ, zR, Act.put, zA, zB, zC, e5] <;> rfl) (by simp only [Act.eval, zJ, zP, J.putL, zI, zG, zH, J.dstOf, zF, zD, zE, zS, zQ, zR, Act.put, zA, zB, zC] <;> rfl) (f3.below hO.below) (by omega) (by omega) ?_; intro A' c' u hz hO; exact hK _ _ _ (show J.freshA 9 1 jn.length (stc jn) (vs 5) _ from ⟨A', c', rfl, fun h => (congrArg Prod.fst e5).trans (hz h)⟩) hO)⟩; refine J.Each.cons (by rfl) ?_ ?_; exact ⟨rfl, fun vs M u hO hF K hK => by ((try simp only [J.putL, zI, zG, zH, J.dstOf, zF, zD, zE, zS, zQ, zR, Act.put, zA, zB, zC]); obtain ⟨z5, e5⟩ := (hF 5 (by decide) (by decide)).1; obtain ⟨A8, c8, e8, g8⟩ := (hF 8 (by decide) (by decide)).1; have hK' := hK (Value.agg #[.int .i64 Kd, .slice none 0 0, .slice none 0 0, .slice A8 jn.length c8, .slice none 0 0, .slice none 0 0, .int .i64 0, .int .i64 0]) [] u (show (Value.agg #[.int .i64 Kd, .slice none 0 0, .slice none 0 0, .slice A8 jn.length c8, .slice none 0 0, .slice none 0 0, .int .i64 0, .int .i64 0], ([] : List Res)) = (Value.agg #[.int .i64 Kd, .slice none 0 0, .slice none 0 0, (vs 8).1, .slice none 0 0, .slice none 0 0, .int .i64 0, .int .i64 0], []) from by simp only [e5, e8]) (by rw [List.append_nil]; exact hO); clear hK hF; simp only [J.putL, zI, zG, zH, J.dstOf, zF, zD, zE, zS, zQ, zR, Act.put, zA, zB, zC, e5, e8] at hK' ⊢; (try simp only [wp_at_zero, wp_at_succ]); go_step; exact hK')⟩; refine J.Each.cons (by rfl) ?_ ?_; exact ⟨rfl, fun vs M u hO _ K hK => by (refine wp_alloc_own hO rfl rfl fun b u hO => ?_; exact hK _ _ _ (show J.fresh 29 [.int .i64 0, .slice none 0 0, .slice none 0 0, .slice none 0 0, .slice none 0 0, .slice none 0 0, .int .i64 0, .int .i64 0] _ from ⟨b, rfl⟩) hO)⟩; exact J.Each.nil
  intro vs u hO hF
  obtain ⟨z5, h5⟩ : J.fresh0 9 1 (vs 5) := hF 5 (by decide)
  obtain ⟨A8, c8, h8, g8⟩ : J.freshA 9 1 jn.length (stc jn) (vs 5) (vs 8) := hF 8 (by decide)
  simp only [h5] at g8
  have h9 : vs 9 = (Value.agg #[.int .i64 Kd, .slice none 0 0, .slice none 0 0, (vs 8).1, .slice none 0 0, .slice none 0 0, .int .i64 0, .int .i64 0], []) := hF 9 (by decide)
  simp only [h5, h8] at h9
  obtain ⟨b6, h10⟩ : J.fresh _ _ (vs 10) := hF 10 (by decide)
  clear hF
  simp only [List.flatMap_cons, List.flatMap_nil, h5, h8, h9, h10, List.append_nil, zL, zK] at hO
  simp only [h5, h8, h9, h10, J.putL, zI, zG, zH, J.dstOf, zF, zD, zE, zS, zQ, zR, Act.put, zA, zB, zC]
  clear h5 h8 h9 h10 vs
  refine J.wpAny_one (i := 11) (by kernel_rfl) (by rfl) rfl fun K hK => ?_
  (refine wp_store_box hO rfl rfl _ (by exact at11) rfl (by rfl) (by rfl) (by rfl) (by rfl) (by rfl) ?_; clear hO; intro u hO; simp only [zC, zB] at hO; refine hK _ _ ?_; clear hK K)
  refine wpAny_done (by kernel_rfl) ?_ _
  go_wp2_with (first
    | (with_reducible refine stop_ret ?_)
    | ((with_reducible refine wpl_alloc ?_); refine wpList_alloc_own rfl (by rfl) hO rfl (fun b => by simp only [Act.put, zA, zB, zC]; rfl) ?_; (first | (refine nm 0 rfl ?_; clear hO; intro b0 u hO) | (refine nm 1 rfl ?_; clear hO; intro b1 u hO) | (refine nm 2 rfl ?_; clear hO; intro b2 u hO) | (refine nm 3 rfl ?_; clear hO; intro b3 u hO) | (refine nm 4 rfl ?_; clear hO; intro b4 u hO) | (refine nm 5 rfl ?_; clear hO; intro b5 u hO) | (refine nm 6 rfl ?_; clear hO; intro b6 u hO) | (refine nm 7 rfl ?_; clear hO; intro b7 u hO) | (refine nm 8 rfl ?_; clear hO; intro b8 u hO) | (refine nm 9 rfl ?_; clear hO; intro b9 u hO) | (refine nm 10 rfl ?_; clear hO; intro b10 u hO) | (refine nm 11 rfl ?_; clear hO; intro b11 u hO) | (refine nm 12 rfl ?_; clear hO; intro b12 u hO) | (refine nm 13 rfl ?_; clear hO; intro b13 u hO)); simp only [zL, zK] at hO)
    | ((with_reducible refine wpl_box ?_); refine wpList_box_own rfl (by rfl) hO rfl rfl (fun b => by simp only [Act.put, zA, zB, zC]; rfl) ?_; (first | (refine nm 0 rfl ?_; clear hO; intro b0 u hO) | (refine nm 1 rfl ?_; clear hO; intro b1 u hO) | (refine nm 2 rfl ?_; clear hO; intro b2 u hO) | (refine nm 3 rfl ?_; clear hO; intro b3 u hO) | (refine nm 4 rfl ?_; clear hO; intro b4 u hO) | (refine nm 5 rfl ?_; clear hO; intro b5 u hO) | (refine nm 6 rfl ?_; clear hO; intro b6 u hO) | (refine nm 7 rfl ?_; clear hO; intro b7 u hO) | (refine nm 8 rfl ?_; clear hO; intro b8 u hO) | (refine nm 9 rfl ?_; clear hO; intro b9 u hO) | (refine nm 10 rfl ?_; clear hO; intro b10 u hO) | (refine nm 11 rfl ?_; clear hO; intro b11 u hO) | (refine nm 12 rfl ?_; clear hO; intro b12 u hO) | (refine nm 13 rfl ?_; clear hO; intro b13 u hO)); simp only [zL, zK] at hO)
    | ((with_reducible refine wpl_load ?_); refine wpList_load_box rfl (by (first | rfl | (simp only [Region.wanted, yielded, *]; go_simp; done) | (simp [Region.wanted, yielded, *]; done) | fail)) hO rfl _ (by (first | exact at0 | exact at1 | exact at2 | exact at3 | exact at4 | exact at5 | exact at6 | exact at7 | exact at8 | exact at9 | exact at10 | exact at11 | exact at12 | exact at13)) (by rfl) (by simp only [Act.put, zA, zB, zC]; rfl) ?_)
    | ((with_reducible refine wpl_load ?_); refine wpList_load_field rfl (by (first | rfl | (simp only [Region.wanted, yielded, *]; go_simp; done) | (simp [Region.wanted, yielded, *]; done) | fail)) hO rfl _ (by (first | exact at0 | exact at1 | exact at2 | exact at3 | exact at4 | exact at5 | exact at6 | exact at7 | exact at8 | exact at9 | exact at10 | exact at11 | exact at12 | exact at13)) (by rfl) (by simp only [Act.put, zA, zB, zC]; rfl) ?_)
    | ((with_reducible refine wpl_store ?_); refine wpList_store_box rfl (by rfl) hO rfl _ (by (first | exact at0 | exact at1 | exact at2 | exact at3 | exact at4 | exact at5 | exact at6 | exact at7 | exact at8 | exact at9 | exact at10 | exact at11 | exact at12 | exact at13)) (by simp only [Act.eval, zJ, zF, zD, zE, zP]; rfl) (by rfl) (by rfl) (by rfl) (by rfl) (by rfl) ?_; clear hO; intro u hO; simp only [zC, zB] at hO)
    | ((with_reducible refine wpl_store ?_); refine wpList_store_field rfl (by rfl) hO rfl _ (by (first | exact at0 | exact at1 | exact at2 | exact at3 | exact at4 | exact at5 | exact at6 | exact at7 | exact at8 | exact at9 | exact at10 | exact at11 | exact at12 | exact at13)) (zM rfl) (by simp only [Act.eval, zJ, zF, zD, zE, zP]; rfl) (by rfl) (by rfl) (by rfl) ?_; clear hO; intro u hO; simp only [zC, zB] at hO)
    | ((with_reducible refine wpl_call ?_); refine wpList_append_str hO rfl (by rfl) rfl rfl _ (by (first | exact at0 | exact at1 | exact at2 | exact at3 | exact at4 | exact at5 | exact at6 | exact at7 | exact at8 | exact at9 | exact at10 | exact at11 | exact at12 | exact at13)) (by omega) rfl (fun A' c' => by simp only [Act.put, zA, zB, zC]; rfl) ?_; clear hO; intro A' c' u hO; simp only [zC, zB] at hO)
    | ((with_reducible refine wpl_call ?_); refine wpList_append_lit hO rfl (by rfl) rfl rfl _ (by (first | exact at0 | exact at1 | exact at2 | exact at3 | exact at4 | exact at5 | exact at6 | exact at7 | exact at8 | exact at9 | exact at10 | exact at11 | exact at12 | exact at13)) (by rfl) (by simp [Value.oneCell']) (by omega) (by omega) rfl (fun A' c' => by simp only [Act.put, zA, zB, zC]; rfl) ?_; clear hO; intro A' c' u hO; simp only [zC, zB] at hO)
    | ((with_reducible refine wpl_build ?_); refine wpList_build_row0 hO rfl (by rfl) rfl (fun b => by simp only [Act.put, zA, zB, zC]; rfl) ?_; clear hO; intro bb u hO; simp only [zL, zK] at hO)
    | ((with_reducible refine wpl_build ?_); refine wpList_build_list (cs := []) hO rfl (by rfl) [] (by rfl) (by rfl) rfl (zM rfl) (by rfl) rfl (fun b => by simp only [Act.put, zA, zB, zC]; rfl) ?_; clear hO; intro bb u hO; simp only [zL, zK] at hO)
    | ((with_reducible refine wpl_append ?_); refine wpList_append_box hO rfl (by rfl) rfl rfl _ (by (first | exact at0 | exact at1 | exact at2 | exact at3 | exact at4 | exact at5 | exact at6 | exact at7 | exact at8 | exact at9 | exact at10 | exact at11 | exact at12 | exact at13 | exact at14)) _ (by (first | exact at0 | exact at1 | exact at2 | exact at3 | exact at4 | exact at5 | exact at6 | exact at7 | exact at8 | exact at9 | exact at10 | exact at11 | exact at12 | exact at13 | exact at14)) (by rfl) (by simp [Value.oneCell']) (by omega) (by omega) rfl (fun A' c' => by simp only [Act.put, zA, zB, zC]; rfl) ?_; clear hO; intro A' c' u hO; simp only [zC, zB] at hO)
    | fail)
  replace hO := hO.pick [9, 10, 1, 0, 2, 3, 6, 7, 8, 11] (by decide)
  simp only [zN, zO, zE, zD] at hO
  replace hO := hO.join g8 (by rw [stc_len, Nat.mul_one])
  replace hO := hO.addNil 83 3
  simp only [List.cons_append, List.nil_append] at hO
  have HXE : Hid (Xt.length = js.length) := HXl
  obtain ⟨A1', hA1⟩ : ∃ A, A = A1 := ⟨_, rfl⟩
  subst hA1
  go_loopw [13] (fun i u => ∃ (m : Nat) (A' : Option Addr) (c' : Nat), m ≤ js.length ∧ i = .int .i64 m ∧ Own w [row 9 1 (.slice A8 jn.length c8) jn.length (stc jn), pack F1, pack F2, row 3 1 (.slice A1' Xt.length d1') Xt.length (ints Xt), box b0 29 [.int .i64 j, .slice Ji js.length gi, .slice Jp jp.length gp, .slice Jn jn.length gn, .slice Jc jc.length gc, .slice Jl jl.length gl, .int .i64 jo, .int .i64 je], box b3 29 [.int .i64 0, .slice none 0 0, .slice none 0 0, .slice none 0 0, .slice none 0 0, .slice none 0 0, .int .i64 0, .int .i64 0], box q6 29 [.int .i64 pk, .slice Ci pl.length ri, .slice Cp 0 rp, .slice Cn 0 rn, .slice Cc 0 rc, .slice Cl 0 rl', .int .i64 0, .int .i64 0], box b8 29 [.int .i64 rk, .slice Di rl.length si, .slice Dp 0 sp, .slice Dn 0 sn, .slice Dc 0 sc, .slice Dl 0 sl, .int .i64 0, .int .i64 0], box b6 29 [.int .i64 Kd, .slice A' m c', .slice none 0 0, .slice A8 jn.length c8, .slice none 0 0, .slice none 0 0, .int .i64 0, .int .i64 0], row 83 3 (.slice A' m c') m (itc (chL js (pl.map (cvI pk Kd)) (rl.map (cvI rk Kd)) m))] u) (fun i _ => js.length - (intOf i).toNat)
  case atStart => exact ⟨0, none, 0, Nat.zero_le _, rfl, hO⟩
  case round =>
    clear hO
    obtain ⟨m, A', c', hm, rfl, hO⟩ := hrel
    by_cases hlt : m < js.length
    · have n1 : ¬ pl.length = 0 := by omega
      have n2 : ¬ rl.length = 0 := by omega
      obtain ⟨ja, hja⟩ : ∃ j, m % pl.length = j := ⟨_, rfl⟩
      obtain ⟨jb, hjb⟩ : ∃ j, m % rl.length = j := ⟨_, rfl⟩
      have a1 : ja < pl.length := by rw [← hja]; exact Nat.mod_lt _ lx0
      have a2 : jb < rl.length := by rw [← hjb]; exact Nat.mod_lt _ ly0
      have m1 : (m : Int) % (pl.length : Int) = (ja : Int) := by rw [← Int.natCast_emod, hja]
      have m2 : (m : Int) % (rl.length : Int) = (jb : Int) := by rw [← Int.natCast_emod, hjb]
      have c1 : (ja : Int) < (pl.length : Int) := by omega
      have c2 : (jb : Int) < (rl.length : Int) := by omega
      have hix := pit _ (List.getElem_mem a1)
      have hiy := rit _ (List.getElem_mem a2)
      have HSS : Hid (itc (chL js (pl.map (cvI pk Kd)) (rl.map (cvI rk Kd)) (m + 1)) = itc (chL js (pl.map (cvI pk Kd)) (rl.map (cvI rk Kd)) m) ++ itc1 (chF (trI js[m]) (cvI pk Kd pl[ja]) (cvI rk Kd rl[jb]))) := Lib.hid (by rw [chL_succM hlt hja a1 hjb a2, itc_app]; simp [itc])
      have hxt : m < Xt.length := by rw [HXE.out]; exact hlt
      have hxv := HXa.out m hlt hxt
      have i1 : (m : Int) < (Xt.length : Int) := by omega
      obtain ⟨x, hx⟩ : ∃ x, pl[ja] = x := ⟨_, rfl⟩
      obtain ⟨y, hy⟩ : ∃ y, rl[jb] = y := ⟨_, rfl⟩
      obtain ⟨ba, oa, rfl, _, _⟩ := (hO.rdp 1 rfl hvo1).sli.it (Below.refl _ _) a1 hx
      obtain ⟨bc, oc, rfl, _, _⟩ := (hO.rdp 2 rfl hvo2).sli.it (Below.refl _ _) a2 hy
      have CRa := fun u (h : Sl u 3 (some ⟨ba, oa, none⟩) pl.length (itc pl)) => Sl.itS h rfl a1 hx
      have CRb := fun u (h : Sl u 3 (some ⟨bc, oc, none⟩) rl.length (itc rl)) => Sl.itS h rfl a2 hy
      rw [hx, hy] at HSS
      rw [hx] at hix
      rw [hy] at hiy
      have C1 := fun u => spec_as pk Kd x.num x.den x.text u hix pK K3
      have C2 := fun u => spec_as rk Kd y.num y.den y.text u hiy rK K3
      obtain ⟨x2, hx2⟩ : ∃ z, cvI pk Kd x = z := ⟨_, rfl⟩
      obtain ⟨y2, hy2⟩ : ∃ z, cvI rk Kd y = z := ⟨_, rfl⟩
      rw [hx2, hy2] at HSS
      replace C1 : ∀ u : World, Calls Try.prog 85 #[.int .i64 pk, .int .i64 Kd, .agg #[.int .i64 x.num, .int .i64 x.den, .string x.text]] u fun e w' => e = .returned (.agg #[.int .i64 x2.num, .int .i64 x2.den, .string x2.text]) ∧ Below u.heap.size u w' := by rw [← hx2]; exact C1
      replace C2 : ∀ u : World, Calls Try.prog 85 #[.int .i64 rk, .int .i64 Kd, .agg #[.int .i64 y.num, .int .i64 y.den, .string y.text]] u fun e w' => e = .returned (.agg #[.int .i64 y2.num, .int .i64 y2.den, .string y2.text]) ∧ Below u.heap.size u w' := by rw [← hy2]; exact C2
      have htc := tr_cases js[m]
      obtain ⟨tv, htv⟩ : ∃ t, trI js[m] = t := ⟨_, rfl⟩
      rw [htv] at hxv HSS htc
      obtain ⟨bt, ot, rfl, _, d0⟩ := (hO.row_sl 3 rfl).nt (Below.refl _ _) hxt hxt
      rw [hxv] at d0
      obtain ⟨xn, xd, xt⟩ := x
      obtain ⟨yn, yd, yt⟩ := y
      obtain ⟨x2n, x2d, x2t⟩ := x2
      obtain ⟨y2n, y2d, y2t⟩ := y2
      simp only at CRa CRb C1 C2
      clear hja hjb hx hy htv hix hiy hx2 hy2 hxv hxt
      rcases htc with rfl | rfl | rfl
      · rw [show chF 0 ⟨x2n, x2d, x2t⟩ ⟨y2n, y2d, y2t⟩ = ⟨y2n, y2d, y2t⟩ from rfl] at HSS
        simp only [itc1] at HSS
        go_wp2_with fail
        clear d0
        refine J.wp_region_t (n := 132) [0, 1, 2, 3, 4, 5, 6, 7, 8, 9, 10, 11, 12, 13, 14, 15] [16] [0, 1, 0, 4, 0, 16, 0, 64, 0, 0, 512, 1536, 3840, 8128, 16320, 32764, 65532, 131071, 262143, 524287] (deps := fun i => [[], [0], [], [2], [], [4], [], [6], [], [], [9], [9, 10], [8, 9, 10, 11], [6, 7, 8, 9, 10, 11, 12], [6, 7, 8, 9, 10, 11, 12, 13], [2, 3, 4, 5, 6, 7, 8, 9, 10, 11, 12, 13, 14], [2, 3, 4, 5, 6, 7, 8, 9, 10, 11, 12, 13, 14, 15], [], [], []].getD i []) (fun _ _ => (J.freshS 83 [.int .i64 y2n, .int .i64 y2d, .string y2t])) (r := 3) (lst := #[true, true, true, true, true, true, true, true, true, true, true, true, true, true, true, true, true, false, false, false]) (by kernel_rfl) (by kernel_rfl) (by kernel_rfl) rfl (by decide) (by kernel_rfl) hO ?_
        refine J.Chain.cons (by rfl) (by rfl) (fun M u hO K hK => by (simp only [wp_at_zero, wp_at_succ]; go_step; exact hK _ hO)) (by simp only [J.putL, zI, zG, zH, J.dstOf, zF, zD, zE, zS, zQ, zR, Act.put, zA, zB, zC]; rfl) ?_
        refine J.Chain.cons (by rfl) (by rfl) (fun M u hO K hK => by (exact wp_load_field hO rfl rfl _ (by exact at8) (by rfl) (by rfl) (hK _ hO))) (by simp only [J.putL, zI, zG, zH, J.dstOf, zF, zD, zE, zS, zQ, zR, Act.put, zA, zB, zC]; rfl) ?_
        refine J.Chain.cons (by rfl) (by rfl) (fun M u hO K hK => by (simp only [wp_at_zero, wp_at_succ]; go_step; exact hK _ hO)) (by simp only [J.putL, zI, zG, zH, J.dstOf, zF, zD, zE, zS, zQ, zR, Act.put, zA, zB, zC]; rfl) ?_
        refine J.Chain.cons (by rfl) (by rfl) (fun M u hO K hK => by (exact wp_load_field hO rfl rfl _ (by exact at7) (by rfl) (by rfl) (hK _ hO))) (by simp only [J.putL, zI, zG, zH, J.dstOf, zF, zD, zE, zS, zQ, zR, Act.put, zA, zB, zC]; rfl) ?_
        refine J.Chain.cons (by rfl) (by rfl) (fun M u hO K hK => by (simp only [wp_at_zero, wp_at_succ]; go_step; exact hK _ hO)) (by simp only [J.putL, zI, zG, zH, J.dstOf, zF, zD, zE, zS, zQ, zR, Act.put, zA, zB, zC]; rfl) ?_
        refine J.Chain.cons (by rfl) (by rfl) (fun M u hO K hK => by (exact wp_load_field hO rfl rfl _ (by exact at8) (by rfl) (by rfl) (hK _ hO))) (by simp only [J.putL, zI, zG, zH, J.dstOf, zF, zD, zE, zS, zQ, zR, Act.put, zA, zB, zC]; rfl) ?_
        refine J.Chain.cons (by rfl) (by rfl) (fun M u hO K hK => by (simp only [wp_at_zero, wp_at_succ]; go_step; exact hK _ hO)) (by simp only [J.putL, zI, zG, zH, J.dstOf, zF, zD, zE, zS, zQ, zR, Act.put, zA, zB, zC]; rfl) ?_
        refine J.Chain.cons (by rfl) (by rfl) (fun M u hO K hK => by (exact wp_load_field hO rfl rfl _ (by exact at7) (by rfl) (by rfl) (hK _ hO))) (by simp only [J.putL, zI, zG, zH, J.dstOf, zF, zD, zE, zS, zQ, zR, Act.put, zA, zB, zC]; rfl) ?_
        refine J.Chain.cons (by rfl) (by rfl) (fun M u hO K hK => by (simp only [wp_at_zero, wp_at_succ]; go_step; exact hK _ hO)) (by simp only [J.putL, zI, zG, zH, J.dstOf, zF, zD, zE, zS, zQ, zR, Act.put, zA, zB, zC]; rfl) ?_
        refine J.Chain.cons (by rfl) (by rfl) (fun M u hO K hK => by (simp only [wp_at_zero, wp_at_succ]; go_step; exact hK _ hO)) (by simp only [J.putL, zI, zG, zH, J.dstOf, zF, zD, zE, zS, zQ, zR, Act.put, zA, zB, zC]; rfl) ?_
        refine J.Chain.cons (by rfl) (by rfl) (fun M u hO K hK => by (exact wp_load_field hO rfl rfl _ (by exact at7) (by rfl) (by rfl) (hK _ hO))) (by simp only [J.putL, zI, zG, zH, J.dstOf, zF, zD, zE, zS, zQ, zR, Act.put, zA, zB, zC]; rfl) ?_
        refine J.Chain.cons (by rfl) (by rfl) (fun M u hO K hK => by (simp only [wp_at_zero, wp_at_succ]; go_step; exact hK _ hO)) (by simp only [J.putL, zI, zG, zH, J.dstOf, zF, zD, zE, zS, zQ, zR, Act.put, zA, zB, zC]; rfl) ?_
        refine J.Chain.cons (by rfl) (by rfl) (fun M u hO K hK => by (simp only [wp_at_zero, wp_at_succ]; go_step; exact hK _ hO)) (by simp only [J.putL, zI, zG, zH, J.dstOf, zF, zD, zE, zS, zQ, zR, Act.put, zA, zB, zC]; rfl) ?_
        refine J.Chain.cons (by rfl) (by rfl) (fun M u hO K hK => by (simp only [wp_at_zero, wp_at_succ]; go_step; exact hK _ hO)) (by simp only [J.putL, zI, zG, zH, J.dstOf, zF, zD, zE, zS, zQ, zR, Act.put, zA, zB, zC]; rfl) ?_
        refine J.Chain.cons (by rfl) (by rfl) (fun M u hO K hK => by ((have f2 := CRb _ (hO.rdp 2 rfl hvo2).sli; obtain ⟨e3, e4, e5⟩ := f2; simp only [wp_at_zero, wp_at_succ]; go_step; exact hK _ hO))) (by simp only [J.putL, zI, zG, zH, J.dstOf, zF, zD, zE, zS, zQ, zR, Act.put, zA, zB, zC]; rfl) ?_
        refine J.Chain.cons (by rfl) (by rfl) (fun M u hO K hK => by (simp only [wp_at_zero, wp_at_succ]; go_step; refine (C2 _).mono ?_; rintro e u ⟨rfl, hb⟩; exact hK _ (hO.step hb))) (by simp only [J.putL, zI, zG, zH, J.dstOf, zF, zD, zE, zS, zQ, zR, Act.put, zA, zB, zC]; rfl) ?_
        refine J.Chain.nil ⟨?_, ?_⟩
        · refine J.Each.cons (by rfl) ?_ ?_; exact ⟨rfl, fun vs M u hO _ K hK => by (refine wp_build_one (cs := [.int .i64 y2n, .int .i64 y2d, .string y2t]) hO rfl (by simp only [Act.eval, zJ, zP, J.putL, zI, zG, zH, J.dstOf, zF, zD, zE, zS, zQ, zR, Act.put, zA, zB, zC]; rfl) rfl rfl (zM rfl) rfl fun b u hO => ?_; exact hK _ _ _ (show (J.freshS 83 [.int .i64 y2n, .int .i64 y2d, .string y2t]) _ from ⟨b, rfl⟩) hO)⟩; exact J.Each.nil
        intro vs u hO hF
        obtain ⟨b7, h16⟩ : J.freshS _ _ (vs 16) := hF 16 (by decide)
        clear hF
        simp only [List.flatMap_cons, List.flatMap_nil, h16, List.append_nil, zL, zK] at hO
        simp only [h16, J.putL, zI, zG, zH, J.dstOf, zF, zD, zE, zS, zQ, zR, Act.put, zA, zB, zC]
        clear h16 vs
        refine J.wpAny_one (i := 17) (by kernel_rfl) (by rfl) rfl fun K hK => ?_
        refine wp_append_box hO rfl rfl rfl _ (by exact at9) _ (by exact at10) (by rfl) (by simp [Value.oneCell']) (by omega) (by omega) rfl ?_
        clear hO
        intro A' c' u hO
        simp only [zC, zB] at hO
        simp only [Act.put, zA, zB, zC]
        refine hK _ _ ?_
        clear hK K
        refine J.wpAny_one (i := 18) (by kernel_rfl) (by rfl) rfl fun K hK => ?_
        simp only [wp_at_zero, wp_at_succ]
        go_step
        refine hK _ _ ?_
        clear hK K
        refine J.wpAny_one (i := 19) (by kernel_rfl) (by rfl) rfl fun K hK => ?_
        (refine wp_store_field hO rfl rfl _ (by exact at8) (zM rfl) (by simp only [Act.eval, zJ, zF, zD, zE, zP]; rfl) (by rfl) (by rfl) (by rfl) ?_; clear hO; intro u hO; simp only [zC, zB] at hO; refine hK _ _ ?_; clear hK K)
        refine wpAny_done (by kernel_rfl) ?_ _
        go_wp2_with (first
          | (with_reducible refine stop_ret ?_)
          | ((with_reducible refine wpl_alloc ?_); refine wpList_alloc_own rfl (by rfl) hO rfl (fun b => by simp only [Act.put, zA, zB, zC]; rfl) ?_; (first | (refine nm 0 rfl ?_; clear hO; intro b0 u hO) | (refine nm 1 rfl ?_; clear hO; intro b1 u hO) | (refine nm 2 rfl ?_; clear hO; intro b2 u hO) | (refine nm 3 rfl ?_; clear hO; intro b3 u hO) | (refine nm 4 rfl ?_; clear hO; intro b4 u hO) | (refine nm 5 rfl ?_; clear hO; intro b5 u hO) | (refine nm 6 rfl ?_; clear hO; intro b6 u hO) | (refine nm 7 rfl ?_; clear hO; intro b7 u hO) | (refine nm 8 rfl ?_; clear hO; intro b8 u hO) | (refine nm 9 rfl ?_; clear hO; intro b9 u hO) | (refine nm 10 rfl ?_; clear hO; intro b10 u hO) | (refine nm 11 rfl ?_; clear hO; intro b11 u hO) | (refine nm 12 rfl ?_; clear hO; intro b12 u hO) | (refine nm 13 rfl ?_; clear hO; intro b13 u hO)); simp only [zL, zK] at hO)
          | ((with_reducible refine wpl_box ?_); refine wpList_box_own rfl (by rfl) hO rfl rfl (fun b => by simp only [Act.put, zA, zB, zC]; rfl) ?_; (first | (refine nm 0 rfl ?_; clear hO; intro b0 u hO) | (refine nm 1 rfl ?_; clear hO; intro b1 u hO) | (refine nm 2 rfl ?_; clear hO; intro b2 u hO) | (refine nm 3 rfl ?_; clear hO; intro b3 u hO) | (refine nm 4 rfl ?_; clear hO; intro b4 u hO) | (refine nm 5 rfl ?_; clear hO; intro b5 u hO) | (refine nm 6 rfl ?_; clear hO; intro b6 u hO) | (refine nm 7 rfl ?_; clear hO; intro b7 u hO) | (refine nm 8 rfl ?_; clear hO; intro b8 u hO) | (refine nm 9 rfl ?_; clear hO; intro b9 u hO) | (refine nm 10 rfl ?_; clear hO; intro b10 u hO) | (refine nm 11 rfl ?_; clear hO; intro b11 u hO) | (refine nm 12 rfl ?_; clear hO; intro b12 u hO) | (refine nm 13 rfl ?_; clear hO; intro b13 u hO)); simp only [zL, zK] at hO)
          | ((with_reducible refine wpl_load ?_); refine wpList_load_box rfl (by (first | rfl | (simp only [Region.wanted, yielded, *]; go_simp; done) | (simp [Region.wanted, yielded, *]; done) | fail)) hO rfl _ (by (first | exact at0 | exact at1 | exact at2 | exact at3 | exact at4 | exact at5 | exact at6 | exact at7 | exact at8 | exact at9 | exact at10 | exact at11 | exact at12 | exact at13)) (by rfl) (by simp only [Act.put, zA, zB, zC]; rfl) ?_)
          | ((with_reducible refine wpl_load ?_); refine wpList_load_field rfl (by (first | rfl | (simp only [Region.wanted, yielded, *]; go_simp; done) | (simp [Region.wanted, yielded, *]; done) | fail)) hO rfl _ (by (first | exact at0 | exact at1 | exact at2 | exact at3 | exact at4 | exact at5 | exact at6 | exact at7 | exact at8 | exact at9 | exact at10 | exact at11 | exact at12 | exact at13)) (by rfl) (by simp only [Act.put, zA, zB, zC]; rfl) ?_)
          | ((with_reducible refine wpl_store ?_); refine wpList_store_box rfl (by rfl) hO rfl _ (by (first | exact at0 | exact at1 | exact at2 | exact at3 | exact at4 | exact at5 | exact at6 | exact at7 | exact at8 | exact at9 | exact at10 | exact at11 | exact at12 | exact at13)) (by simp only [Act.eval, zJ, zF, zD, zE, zP]; rfl) (by rfl) (by rfl) (by rfl) (by rfl) (by rfl) ?_; clear hO; intro u hO; simp only [zC, zB] at hO)
          | ((with_reducible refine wpl_store ?_); refine wpList_store_field rfl (by rfl) hO rfl _ (by (first | exact at0 | exact at1 | exact at2 | exact at3 | exact at4 | exact at5 | exact at6 | exact at7 | exact at8 | exact at9 | exact at10 | exact at11 | exact at12 | exact at13)) (zM rfl) (by simp only [Act.eval, zJ, zF, zD, zE, zP]; rfl) (by rfl) (by rfl) (by rfl) ?_; clear hO; intro u hO; simp only [zC, zB] at hO)
          | ((with_reducible refine wpl_call ?_); refine wpList_append_str hO rfl (by rfl) rfl rfl _ (by (first | exact at0 | exact at1 | exact at2 | exact at3 | exact at4 | exact at5 | exact at6 | exact at7 | exact at8 | exact at9 | exact at10 | exact at11 | exact at12 | exact at13)) (by omega) rfl (fun A' c' => by simp only [Act.put, zA, zB, zC]; rfl) ?_; clear hO; intro A' c' u hO; simp only [zC, zB] at hO)
          | ((with_reducible refine wpl_call ?_); refine wpList_append_lit hO rfl (by rfl) rfl rfl _ (by (first | exact at0 | exact at1 | exact at2 | exact at3 | exact at4 | exact at5 | exact at6 | exact at7 | exact at8 | exact at9 | exact at10 | exact at11 | exact at12 | exact at13)) (by rfl) (by simp [Value.oneCell']) (by omega) (by omega) rfl (fun A' c' => by simp only [Act.put, zA, zB, zC]; rfl) ?_; clear hO; intro A' c' u hO; simp only [zC, zB] at hO)
          | ((with_reducible refine wpl_build ?_); refine wpList_build_row0 hO rfl (by rfl) rfl (fun b => by simp only [Act.put, zA, zB, zC]; rfl) ?_; clear hO; intro bb u hO; simp only [zL, zK] at hO)
          | ((with_reducible refine wpl_build ?_); refine wpList_build_list (cs := []) hO rfl (by rfl) [] (by rfl) (by rfl) rfl (zM rfl) (by rfl) rfl (fun b => by simp only [Act.put, zA, zB, zC]; rfl) ?_; clear hO; intro bb u hO; simp only [zL, zK] at hO)
          | ((with_reducible refine wpl_append ?_); refine wpList_append_box hO rfl (by rfl) rfl rfl _ (by (first | exact at0 | exact at1 | exact at2 | exact at3 | exact at4 | exact at5 | exact at6 | exact at7 | exact at8 | exact at9 | exact at10 | exact at11 | exact at12 | exact at13 | exact at14)) _ (by (first | exact at0 | exact at1 | exact at2 | exact at3 | exact at4 | exact at5 | exact at6 | exact at7 | exact at8 | exact at9 | exact at10 | exact at11 | exact at12 | exact at13 | exact at14)) (by rfl) (by simp [Value.oneCell']) (by omega) (by omega) rfl (fun A' c' => by simp only [Act.put, zA, zB, zC]; rfl) ?_; clear hO; intro A' c' u hO; simp only [zC, zB] at hO)
          | fail)
        replace hO := hO.pick [0, 1, 2, 3, 4, 5, 6, 7, 8, 9] (by decide)
        simp only [zN, zO, zE, zD] at hO
        rw [← HSS.out] at hO
        go_roundw
        case rel => exact ⟨m + 1, _, _, by omega, by go_num, hO⟩
        case measure => simp [intOf]; omega
      · rw [show chF 1 ⟨x2n, x2d, x2t⟩ ⟨y2n, y2d, y2t⟩ = ⟨x2n, x2d, x2t⟩ from rfl] at HSS
        simp only [itc1] at HSS
        go_wp2_with fail
        clear d0
        refine J.wp_region_t (n := 132) [0, 1, 2, 3, 4, 5, 6, 7, 8, 9, 10, 11, 12, 13, 14, 15] [16] [0, 1, 0, 4, 0, 16, 0, 64, 0, 0, 512, 1536, 3840, 8128, 16320, 32764, 65532, 131071, 262143, 524287] (deps := fun i => [[], [0], [], [2], [], [4], [], [6], [], [], [9], [9, 10], [8, 9, 10, 11], [6, 7, 8, 9, 10, 11, 12], [6, 7, 8, 9, 10, 11, 12, 13], [2, 3, 4, 5, 6, 7, 8, 9, 10, 11, 12, 13, 14], [2, 3, 4, 5, 6, 7, 8, 9, 10, 11, 12, 13, 14, 15], [], [], []].getD i []) (fun _ _ => (J.freshS 83 [.int .i64 x2n, .int .i64 x2d, .string x2t])) (r := 3) (lst := #[true, true, true, true, true, true, true, true, true, true, true, true, true, true, true, true, true, false, false, false]) (by kernel_rfl) (by kernel_rfl) (by kernel_rfl) rfl (by decide) (by kernel_rfl) hO ?_
        refine J.Chain.cons (by rfl) (by rfl) (fun M u hO K hK => by (simp only [wp_at_zero, wp_at_succ]; go_step; exact hK _ hO)) (by simp only [J.putL, zI, zG, zH, J.dstOf, zF, zD, zE, zS, zQ, zR, Act.put, zA, zB, zC]; rfl) ?_
        refine J.Chain.cons (by rfl) (by rfl) (fun M u hO K hK => by (exact wp_load_field hO rfl rfl _ (by exact at8) (by rfl) (by rfl) (hK _ hO))) (by simp only [J.putL, zI, zG, zH, J.dstOf, zF, zD, zE, zS, zQ, zR, Act.put, zA, zB, zC]; rfl) ?_
        refine J.Chain.cons (by rfl) (by rfl) (fun M u hO K hK => by (simp only [wp_at_zero, wp_at_succ]; go_step; exact hK _ hO)) (by simp only [J.putL, zI, zG, zH, J.dstOf, zF, zD, zE, zS, zQ, zR, Act.put, zA, zB, zC]; rfl) ?_
        refine J.Chain.cons (by rfl) (by rfl) (fun M u hO K hK => by (exact wp_load_field hO rfl rfl _ (by exact at6) (by rfl) (by rfl) (hK _ hO))) (by simp only [J.putL, zI, zG, zH, J.dstOf, zF, zD, zE, zS, zQ, zR, Act.put, zA, zB, zC]; rfl) ?_
        refine J.Chain.cons (by rfl) (by rfl) (fun M u hO K hK => by (simp only [wp_at_zero, wp_at_succ]; go_step; exact hK _ hO)) (by simp only [J.putL, zI, zG, zH, J.dstOf, zF, zD, zE, zS, zQ, zR, Act.put, zA, zB, zC]; rfl) ?_
        refine J.Chain.cons (by rfl) (by rfl) (fun M u hO K hK => by (exact wp_load_field hO rfl rfl _ (by exact at8) (by rfl) (by rfl) (hK _ hO))) (by simp only [J.putL, zI, zG, zH, J.dstOf, zF, zD, zE, zS, zQ, zR, Act.put, zA, zB, zC]; rfl) ?_
        refine J.Chain.cons (by rfl) (by rfl) (fun M u hO K hK => by (simp only [wp_at_zero, wp_at_succ]; go_step; exact hK _ hO)) (by simp only [J.putL, zI, zG, zH, J.dstOf, zF, zD, zE, zS, zQ, zR, Act.put, zA, zB, zC]; rfl) ?_
        refine J.Chain.cons (by rfl) (by rfl) (fun M u hO K hK => by (exact wp_load_field hO rfl rfl _ (by exact at6) (by rfl) (by rfl) (hK _ hO))) (by simp only [J.putL, zI, zG, zH, J.dstOf, zF, zD, zE, zS, zQ, zR, Act.put, zA, zB, zC]; rfl) ?_
        refine J.Chain.cons (by rfl) (by rfl) (fun M u hO K hK => by (simp only [wp_at_zero, wp_at_succ]; go_step; exact hK _ hO)) (by simp only [J.putL, zI, zG, zH, J.dstOf, zF, zD, zE, zS, zQ, zR, Act.put, zA, zB, zC]; rfl) ?_
        refine J.Chain.cons (by rfl) (by rfl) (fun M u hO K hK => by (simp only [wp_at_zero, wp_at_succ]; go_step; exact hK _ hO)) (by simp only [J.putL, zI, zG, zH, J.dstOf, zF, zD, zE, zS, zQ, zR, Act.put, zA, zB, zC]; rfl) ?_
        refine J.Chain.cons (by rfl) (by rfl) (fun M u hO K hK => by (exact wp_load_field hO rfl rfl _ (by exact at6) (by rfl) (by rfl) (hK _ hO))) (by simp only [J.putL, zI, zG, zH, J.dstOf, zF, zD, zE, zS, zQ, zR, Act.put, zA, zB, zC]; rfl) ?_
        refine J.Chain.cons (by rfl) (by rfl) (fun M u hO K hK => by (simp only [wp_at_zero, wp_at_succ]; go_step; exact hK _ hO)) (by simp only [J.putL, zI, zG, zH, J.dstOf, zF, zD, zE, zS, zQ, zR, Act.put, zA, zB, zC]; rfl) ?_
        refine J.Chain.cons (by rfl) (by rfl) (fun M u hO K hK => by (simp only [wp_at_zero, wp_at_succ]; go_step; exact hK _ hO)) (by simp only [J.putL, zI, zG, zH, J.dstOf, zF, zD, zE, zS, zQ, zR, Act.put, zA, zB, zC]; rfl) ?_
        refine J.Chain.cons (by rfl) (by rfl) (fun M u hO K hK => by (simp only [wp_at_zero, wp_at_succ]; go_step; exact hK _ hO)) (by simp only [J.putL, zI, zG, zH, J.dstOf, zF, zD, zE, zS, zQ, zR, Act.put, zA, zB, zC]; rfl) ?_
        refine J.Chain.cons (by rfl) (by rfl) (fun M u hO K hK => by ((have f2 := CRa _ (hO.rdp 1 rfl hvo1).sli; obtain ⟨e3, e4, e5⟩ := f2; simp only [wp_at_zero, wp_at_succ]; go_step; exact hK _ hO))) (by simp only [J.putL, zI, zG, zH, J.dstOf, zF, zD, zE, zS, zQ, zR, Act.put, zA, zB, zC]; rfl) ?_
        refine J.Chain.cons (by rfl) (by rfl) (fun M u hO K hK => by (simp only [wp_at_zero, wp_at_succ]; go_step; refine (C1 _).mono ?_; rintro e u ⟨rfl, hb⟩; exact hK _ (hO.step hb))) (by simp only [J.putL, zI, zG, zH, J.dstOf, zF, zD, zE, zS, zQ, zR, Act.put, zA, zB, zC]; rfl) ?_
        refine J.Chain.nil ⟨?_, ?_⟩
        · refine J.Each.cons (by rfl) ?_ ?_; exact ⟨rfl, fun vs M u hO _ K hK => by (refine wp_build_one (cs := [.int .i64 x2n, .int .i64 x2d, .string x2t]) hO rfl (by simp only [Act.eval, zJ, zP, J.putL, zI, zG, zH, J.dstOf, zF, zD, zE, zS, zQ, zR, Act.put, zA, zB, zC]; rfl) rfl rfl (zM rfl) rfl fun b u hO => ?_; exact hK _ _ _ (show (J.freshS 83 [.int .i64 x2n, .int .i64 x2d, .string x2t]) _ from ⟨b, rfl⟩) hO)⟩; exact J.Each.nil
        intro vs u hO hF
        obtain ⟨b7, h16⟩ : J.freshS _ _ (vs 16) := hF 16 (by decide)
        clear hF
        simp only [List.flatMap_cons, List.flatMap_nil, h16, List.append_nil, zL, zK] at hO
        simp only [h16, J.putL, zI, zG, zH, J.dstOf, zF, zD, zE, zS, zQ, zR, Act.put, zA, zB, zC]
        clear h16 vs
        refine J.wpAny_one (i := 17) (by kernel_rfl) (by rfl) rfl fun K hK => ?_
        refine wp_append_box hO rfl rfl rfl _ (by exact at9) _ (by exact at10) (by rfl) (by simp [Value.oneCell']) (by omega) (by omega) rfl ?_
        clear hO
        intro A' c' u hO
        simp only [zC, zB] at hO
        simp only [Act.put, zA, zB, zC]
        refine hK _ _ ?_
        clear hK K
        refine J.wpAny_one (i := 18) (by kernel_rfl) (by rfl) rfl fun K hK => ?_
        simp only [wp_at_zero, wp_at_succ]
        go_step
        refine hK _ _ ?_
        clear hK K
        refine J.wpAny_one (i := 19) (by kernel_rfl) (by rfl) rfl fun K hK => ?_
        (refine wp_store_field hO rfl rfl _ (by exact at8) (zM rfl) (by simp only [Act.eval, zJ, zF, zD, zE, zP]; rfl) (by rfl) (by rfl) (by rfl) ?_; clear hO; intro u hO; simp only [zC, zB] at hO; refine hK _ _ ?_; clear hK K)
        refine wpAny_done (by kernel_rfl) ?_ _
        go_wp2_with (first
          | (with_reducible refine stop_ret ?_)
          | ((with_reducible refine wpl_alloc ?_); refine wpList_alloc_own rfl (by rfl) hO rfl (fun b => by simp only [Act.put, zA, zB, zC]; rfl) ?_; (first | (refine nm 0 rfl ?_; clear hO; intro b0 u hO) | (refine nm 1 rfl ?_; clear hO; intro b1 u hO) | (refine nm 2 rfl ?_; clear hO; intro b2 u hO) | (refine nm 3 rfl ?_; clear hO; intro b3 u hO) | (refine nm 4 rfl ?_; clear hO; intro b4 u hO) | (refine nm 5 rfl ?_; clear hO; intro b5 u hO) | (refine nm 6 rfl ?_; clear hO; intro b6 u hO) | (refine nm 7 rfl ?_; clear hO; intro b7 u hO) | (refine nm 8 rfl ?_; clear hO; intro b8 u hO) | (refine nm 9 rfl ?_; clear hO; intro b9 u hO) | (refine nm 10 rfl ?_; clear hO; intro b10 u hO) | (refine nm 11 rfl ?_; clear hO; intro b11 u hO) | (refine nm 12 rfl ?_; clear hO; intro b12 u hO) | (refine nm 13 rfl ?_; clear hO; intro b13 u hO)); simp only [zL, zK] at hO)
          | ((with_reducible refine wpl_box ?_); refine wpList_box_own rfl (by rfl) hO rfl rfl (fun b => by simp only [Act.put, zA, zB, zC]; rfl) ?_; (first | (refine nm 0 rfl ?_; clear hO; intro b0 u hO) | (refine nm 1 rfl ?_; clear hO; intro b1 u hO) | (refine nm 2 rfl ?_; clear hO; intro b2 u hO) | (refine nm 3 rfl ?_; clear hO; intro b3 u hO) | (refine nm 4 rfl ?_; clear hO; intro b4 u hO) | (refine nm 5 rfl ?_; clear hO; intro b5 u hO) | (refine nm 6 rfl ?_; clear hO; intro b6 u hO) | (refine nm 7 rfl ?_; clear hO; intro b7 u hO) | (refine nm 8 rfl ?_; clear hO; intro b8 u hO) | (refine nm 9 rfl ?_; clear hO; intro b9 u hO) | (refine nm 10 rfl ?_; clear hO; intro b10 u hO) | (refine nm 11 rfl ?_; clear hO; intro b11 u hO) | (refine nm 12 rfl ?_; clear hO; intro b12 u hO) | (refine nm 13 rfl ?_; clear hO; intro b13 u hO)); simp only [zL, zK] at hO)
          | ((with_reducible refine wpl_load ?_); refine wpList_load_box rfl (by (first | rfl | (simp only [Region.wanted, yielded, *]; go_simp; done) | (simp [Region.wanted, yielded, *]; done) | fail)) hO rfl _ (by (first | exact at0 | exact at1 | exact at2 | exact at3 | exact at4 | exact at5 | exact at6 | exact at7 | exact at8 | exact at9 | exact at10 | exact at11 | exact at12 | exact at13)) (by rfl) (by simp only [Act.put, zA, zB, zC]; rfl) ?_)
          | ((with_reducible refine wpl_load ?_); refine wpList_load_field rfl (by (first | rfl | (simp only [Region.wanted, yielded, *]; go_simp; done) | (simp [Region.wanted, yielded, *]; done) | fail)) hO rfl _ (by (first | exact at0 | exact at1 | exact at2 | exact at3 | exact at4 | exact at5 | exact at6 | exact at7 | exact at8 | exact at9 | exact at10 | exact at11 | exact at12 | exact at13)) (by rfl) (by simp only [Act.put, zA, zB, zC]; rfl) ?_)
          | ((with_reducible refine wpl_store ?_); refine wpList_store_box rfl (by rfl) hO rfl _ (by (first | exact at0 | exact at1 | exact at2 | exact at3 | exact at4 | exact at5 | exact at6 | exact at7 | exact at8 | exact at9 | exact at10 | exact at11 | exact at12 | exact at13)) (by simp only [Act.eval, zJ, zF, zD, zE, zP]; rfl) (by rfl) (by rfl) (by rfl) (by rfl) (by rfl) ?_; clear hO; intro u hO; simp only [zC, zB] at hO)
          | ((with_reducible refine wpl_store ?_); refine wpList_store_field rfl (by rfl) hO rfl _ (by (first | exact at0 | exact at1 | exact at2 | exact at3 | exact at4 | exact at5 | exact at6 | exact at7 | exact at8 | exact at9 | exact at10 | exact at11 | exact at12 | exact at13)) (zM rfl) (by simp only [Act.eval, zJ, zF, zD, zE, zP]; rfl) (by rfl) (by rfl) (by rfl) ?_; clear hO; intro u hO; simp only [zC, zB] at hO)
          | ((with_reducible refine wpl_call ?_); refine wpList_append_str hO rfl (by rfl) rfl rfl _ (by (first | exact at0 | exact at1 | exact at2 | exact at3 | exact at4 | exact at5 | exact at6 | exact at7 | exact at8 | exact at9 | exact at10 | exact at11 | exact at12 | exact at13)) (by omega) rfl (fun A' c' => by simp only [Act.put, zA, zB, zC]; rfl) ?_; clear hO; intro A' c' u hO; simp only [zC, zB] at hO)
          | ((with_reducible refine wpl_call ?_); refine wpList_append_lit hO rfl (by rfl) rfl rfl _ (by (first | exact at0 | exact at1 | exact at2 | exact at3 | exact at4 | exact at5 | exact at6 | exact at7 | exact at8 | exact at9 | exact at10 | exact at11 | exact at12 | exact at13)) (by rfl) (by simp [Value.oneCell']) (by omega) (by omega) rfl (fun A' c' => by simp only [Act.put, zA, zB, zC]; rfl) ?_; clear hO; intro A' c' u hO; simp only [zC, zB] at hO)
          | ((with_reducible refine wpl_build ?_); refine wpList_build_row0 hO rfl (by rfl) rfl (fun b => by simp only [Act.put, zA, zB, zC]; rfl) ?_; clear hO; intro bb u hO; simp only [zL, zK] at hO)
          | ((with_reducible refine wpl_build ?_); refine wpList_build_list (cs := []) hO rfl (by rfl) [] (by rfl) (by rfl) rfl (zM rfl) (by rfl) rfl (fun b => by simp only [Act.put, zA, zB, zC]; rfl) ?_; clear hO; intro bb u hO; simp only [zL, zK] at hO)
          | ((with_reducible refine wpl_append ?_); refine wpList_append_box hO rfl (by rfl) rfl rfl _ (by (first | exact at0 | exact at1 | exact at2 | exact at3 | exact at4 | exact at5 | exact at6 | exact at7 | exact at8 | exact at9 | exact at10 | exact at11 | exact at12 | exact at13 | exact at14)) _ (by (first | exact at0 | exact at1 | exact at2 | exact at3 | exact at4 | exact at5 | exact at6 | exact at7 | exact at8 | exact at9 | exact at10 | exact at11 | exact at12 | exact at13 | exact at14)) (by rfl) (by simp [Value.oneCell']) (by omega) (by omega) rfl (fun A' c' => by simp only [Act.put, zA, zB, zC]; rfl) ?_; clear hO; intro A' c' u hO; simp only [zC, zB] at hO)
          | fail)
        replace hO := hO.pick [0, 1, 2, 3, 4, 5, 6, 7, 8, 9] (by decide)
        simp only [zN, zO, zE, zD] at hO
        rw [← HSS.out] at hO
        go_roundw
        case rel => exact ⟨m + 1, _, _, by omega, by go_num, hO⟩
        case measure => simp [intOf]; omega
      · rw [show chF 2 ⟨x2n, x2d, x2t⟩ ⟨y2n, y2d, y2t⟩ = ⟨0, 0, ⟨#[]⟩⟩ from rfl] at HSS
        simp only [itc1] at HSS
        go_wp2_with (first
          | ((with_reducible refine wpl_load ?_); refine wpList_load_field rfl (by rfl) hO rfl _ (by exact at8) (by rfl) (by simp only [Act.put, zA, zB, zC]; rfl) ?_)
          | ((with_reducible refine wpl_store ?_); refine wpList_store_field rfl (by rfl) hO rfl _ (by exact at8) (zM rfl) (by simp only [Act.eval, zJ, zF, zD, zE, zP]; rfl) (by rfl) (by rfl) (by rfl) ?_; clear hO; intro u hO; simp only [zC, zB] at hO)
          | ((with_reducible refine wpl_build ?_); refine wpList_build_one (cs := [.int .i64 0, .int .i64 0, .string ⟨#[]⟩]) hO rfl (by rfl) (by simp only [Act.eval, zJ, zF, zD, zE, zP]; rfl) rfl rfl (zM rfl) rfl (fun b => by simp only [Act.put, zA, zB, zC]; rfl) ?_; clear hO; intro bb u hO; simp only [zL, zK] at hO)
          | ((with_reducible refine wpl_append ?_); refine wpList_append_box hO rfl (by rfl) rfl rfl _ (by exact at9) _ (by exact at10) (by rfl) (by simp [Value.oneCell']) (by omega) (by omega) rfl (fun A' c' => by simp only [Act.put, zA, zB, zC]; rfl) ?_; clear hO; intro A' c' u hO; simp only [zC, zB] at hO)
          | fail)
        clear d0
        replace hO := hO.pick [0, 1, 2, 3, 4, 5, 6, 7, 8, 9] (by decide)
        simp only [zN, zO, zE, zD] at hO
        rw [← HSS.out] at hO
        go_roundw
        case rel => exact ⟨m + 1, _, _, by omega, by go_num, hO⟩
        case measure => simp [intOf]; omega
    · have hmn : m = js.length := by omega
      subst hmn
      have i1 : ¬ ((js.length : Int) < (Xt.length : Int)) := by have := HXE.out; omega
      have HN : Hid (js.length = (chL js (pl.map (cvI pk Kd)) (rl.map (cvI rk Kd)) js.length).length) := Lib.hid (chL_len _ _ _ _).symm
      go_wp2_with (first
        | (with_reducible refine stop_ret ?_)
        | ((with_reducible refine wpl_load ?_); refine wpList_load_box rfl (by rfl) hO rfl _ (by exact at8) (by rfl) (by simp only [Act.put, zA, zB, zC]; rfl) ?_)
        | ((with_reducible refine wpl_store ?_); refine wpList_store_box rfl (by rfl) hO rfl _ (by exact at5) (by simp only [Act.eval, zJ, zF, zD, zE, zP]; rfl) (by rfl) (by rfl) (by rfl) (by rfl) (by rfl) ?_; clear hO; intro u hO; simp only [zC, zB] at hO)
        | fail)
      have hR := hO.pick [9, 0] (by decide)
      simp only [List.filterMap_cons, List.filterMap_nil, List.getElem?_cons_zero, List.getElem?_cons_succ] at hR
      have hq := HN.out
      refine ⟨ret_box2 rfl hO rfl 5 at5 rfl rfl rfl ?_⟩
      clear hO
      obtain ⟨LL, hLL⟩ : ∃ L, chL js (pl.map (cvI pk Kd)) (rl.map (cvI rk Kd)) js.length = L := ⟨_, rfl⟩
      rw [hLL] at hR hq HF
      rw [hq] at hR ⊢
      obtain ⟨F, hvo, hF⟩ := Own.vecN hR Kd
      exact ⟨_, _, by rw [HG.out]; rfl, by rw [HF.out]; exact hvo, hF⟩

end Go.Proofs.Ytmofcbpabdbjlaa
