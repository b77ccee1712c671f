/-
  What is proved: what ChooseVector (of the program) returns.
  Condition: vectors of size at most 1048576.
-/
import Derived.Test.YtmofcbpabdbjlaaCmD
namespace Go.Proofs.Ytmofcbpabdbjlaa
set_option maxRecDepth 8000
open Go.RowKit Go.ChangeShapes Go.WideShapes Go.Deep
set_option linter.unusedVariables false
set_option linter.unusedSimpArgs false

def rzS : ByteArray := ⟨#[114, 101, 112, 108, 97, 99, 101, 109, 101, 110, 116, 32, 104, 97, 115, 32, 108, 101, 110, 103, 116, 104, 32, 122, 101, 114, 111]⟩
def chF (t : Int) (x y : It) : It := if t = 1 then x else if t = 0 then y else ⟨0, 0, ⟨#[]⟩⟩
def chL (ts X Y : List It) (n : Nat) : List It := (List.range n).map fun i => chF (trI (ts.getD i ⟨0, 0, ⟨#[]⟩⟩)) (atI X i) (atI Y i)
theorem chL_len (ts X Y : List It) (n : Nat) : (chL ts X Y n).length = n := by simp [chL]
theorem chL_succ {ts X Y : List It} {m ja jb : Nat} (h : m < ts.length) (hja : m % X.length = ja) (a1 : ja < X.length) (hjb : m % Y.length = jb) (a2 : jb < Y.length) : chL ts X Y (m + 1) = chL ts X Y m ++ [chF (trI ts[m]) X[ja] Y[jb]] := by
  have e : ts.getD m ⟨0, 0, ⟨#[]⟩⟩ = ts[m] := by simp [List.getD_eq_getElem?_getD, h]
  unfold chL
  rw [List.range_succ, List.map_append, List.map_cons, List.map_nil, e, atI_eq hja a1, atI_eq hjb a2]
def chK (a b : VT) : Int := if plK a < plK b then plK b else plK a
def chW (t a b : VT) : VT := vecN (chK a b) (chL t.items (cmX (chK a b) a) (cmX (chK a b) b) t.items.length) t.names
def chT (t a b : VT) : VT := if isV t && isV a && isV b then (if cntK t.kind t.levels.length then (if a.kind ≤ 3 ∧ b.kind ≤ 3 then (if a.items.length = 0 ∨ b.items.length = 0 then vecI 0 [] else chW t a b) else vecI 0 []) else vecI 0 []) else vecI 0 []
def chS (t a b : VT) : ByteArray := if isV t && isV a && isV b then (if cntK t.kind t.levels.length then (if a.kind ≤ 3 ∧ b.kind ≤ 3 then (if a.items.length = 0 ∨ b.items.length = 0 then rzS else ⟨#[]⟩) else notAtS) else nonLogS) else badS
theorem isV_lensH {t : VT} (h : isV t = true) : t.items.length ≤ 40 ∧ t.names.length ≤ 40 ∧ 0 ≤ t.kind ∧ (t.kind ≤ 3 → lenV t = t.items.length) := by
  obtain ⟨k, is, ps, ns, cs, ls, c, e⟩ := t
  have hf := isV_facts h
  have h1 := hf.2.1
  have h2 := hf.2.2.1
  refine ⟨isV_items h, by show ns.length ≤ 40; omega, hf.1.1, fun h3 => ?_⟩
  have h3 : k ≤ 3 := h3
  have h4 := hf.2.2.2.2.1
  show (if k = 5 then 1 else is.length + ps.length) = is.length
  rw [if_neg (by omega)]
  omega
theorem Sl.itS {u : World} {b off n : Nat} {l : List It} (h : Sl u 3 (some ⟨b, off, none⟩) n (itc l)) {i : Nat} (hn : l.length = n) (hi : i < l.length) {x : It} (hx : l[i]'hi = x) : u.cell? ⟨b, off + i * 3, none⟩ = some (.int .i64 x.num) ∧ u.cell? ⟨b, off + i * 3 + 1, none⟩ = some (.int .i64 x.den) ∧ u.cell? ⟨b, off + i * 3 + 2, none⟩ = some (.string x.text) := by
  subst hn
  obtain ⟨b', off', e, _, d0⟩ := h.it (Below.refl _ _) hi hx
  simp only [Option.some.injEq, Addr.mk.injEq, and_true] at e
  obtain ⟨rfl, rfl⟩ := e
  exact d0
theorem tr_cases (x : It) : trI x = 0 ∨ trI x = 1 ∨ trI x = 2 := by
  unfold trI
  split
  · exact .inr (.inr rfl)
  · split
    · exact .inl rfl
    · exact .inr (.inl rfl)

set_option maxRecDepth 20000 in
set_option maxHeartbeats 8000000 in
theorem impl_ch (tt ta tb : VT) (vt va vb : List Value) (w : World) (ht : RdV w tt vt) (ha : RdV w ta va) (hb : RdV w tb vb) (hzt : szV tt ≤ 1048576) (hza : szV ta ≤ 1048576) (hzb : szV tb ≤ 1048576) : Calls Try.prog 46 #[.agg vt.toArray, .agg va.toArray, .agg vb.toArray] w (RetVS (chT tt ta tb) (chS tt ta tb) w) := by
  have CT := fun u (h : Below w.heap.size w u) => impl_isVec tt _ u (ht.grow h) hzt
  have CA := fun u (h : Below w.heap.size w u) => impl_isVec ta _ u (ha.grow h) hza
  have CB := fun u (h : Below w.heap.size w u) => impl_isVec tb _ u (hb.grow h) hzb
  have CX := fun u (h : Below w.heap.size w u) (hV : isV ta = true) (h3 : ta.kind ≤ 3) => (impl_plain ta _ u (ha.grow h) hV h3).mono fun e' w' h => RetV.exC (xk := plK ta) (xi := plL ta) (xp := []) (xn := []) (xc := []) (xl := []) (xo := 0) (xe := 0) h
  have CY := fun u (h : Below w.heap.size w u) (hV : isV tb = true) (h3 : tb.kind ≤ 3) => (impl_plain tb _ u (hb.grow h) hV h3).mono fun e' w' h => RetV.exC (xk := plK tb) (xi := plL tb) (xp := []) (xn := []) (xc := []) (xl := []) (xo := 0) (xe := 0) h
  have KT : Hid (isV tt = true → tt.items.length ≤ 40 ∧ tt.names.length ≤ 40) := Lib.hid (fun h => ⟨(isV_lensH h).1, (isV_lensH h).2.1⟩)
  have KA : Hid (isV ta = true → ta.items.length ≤ 40 ∧ 0 ≤ ta.kind ∧ (ta.kind ≤ 3 → lenV ta = ta.items.length)) := Lib.hid (fun h => ⟨(isV_lensH h).1, (isV_lensH h).2.2⟩)
  have KB : Hid (isV tb = true → tb.items.length ≤ 40 ∧ 0 ≤ tb.kind ∧ (tb.kind ≤ 3 → lenV tb = tb.items.length)) := Lib.hid (fun h => ⟨(isV_lensH h).1, (isV_lensH h).2.2⟩)
  have PA : Hid (isV ta = true → ta.kind ≤ 3 → (0 ≤ plK ta ∧ plK ta ≤ 3) ∧ (∀ x ∈ plL ta, itemB (plK ta) x = true) ∧ (plL ta).length = ta.items.length ∧ szV (.mk (plK ta) (plL ta) [] [] [] [] 0 0) ≤ 1048576) := Lib.hid (fun h h3 => ⟨plK_bd h h3, pl_item h, pl_len ta, pl_sz h⟩)
  have PB : Hid (isV tb = true → tb.kind ≤ 3 → (0 ≤ plK tb ∧ plK tb ≤ 3) ∧ (∀ x ∈ plL tb, itemB (plK tb) x = true) ∧ (plL tb).length = tb.items.length ∧ szV (.mk (plK tb) (plL tb) [] [] [] [] 0 0) ≤ 1048576) := Lib.hid (fun h h3 => ⟨plK_bd h h3, pl_item h, pl_len tb, pl_sz h⟩)
  have HT : Hid (chT tt ta tb = if isV tt && isV ta && isV tb then (if cntK tt.kind tt.levels.length then (if ta.kind ≤ 3 ∧ tb.kind ≤ 3 then (if ta.items.length = 0 ∨ tb.items.length = 0 then vecI 0 [] else chW tt ta tb) else vecI 0 []) else vecI 0 []) else vecI 0 []) := Lib.hid rfl
  have HS : Hid (chS tt ta tb = if isV tt && isV ta && isV tb then (if cntK tt.kind tt.levels.length then (if ta.kind ≤ 3 ∧ tb.kind ≤ 3 then (if ta.items.length = 0 ∨ tb.items.length = 0 then rzS else ⟨#[]⟩) else notAtS) else nonLogS) else badS) := Lib.hid rfl
  have HW : Hid (chW tt ta tb = vecN (if plK ta < plK tb then plK tb else plK ta) (chL tt.items ((plL ta).map (cvI (plK ta) (if plK ta < plK tb then plK tb else plK ta))) ((plL tb).map (cvI (plK tb) (if plK ta < plK tb then plK tb else plK ta))) tt.items.length) tt.names) := Lib.hid rfl
  obtain ⟨X, hX⟩ : ∃ X, chT tt ta tb = X := ⟨_, rfl⟩
  obtain ⟨Y, hY⟩ : ∃ Y, chS tt ta tb = Y := ⟨_, rfl⟩
  rw [hX] at HT
  rw [hY] at HS
  rw [hX, hY]
  obtain ⟨W, hW⟩ : ∃ W, chW tt ta tb = W := ⟨_, rfl⟩
  rw [hW] at HT HW
  obtain ⟨qt, hqt⟩ : ∃ q, isV tt = q := ⟨_, rfl⟩
  obtain ⟨qa, hqa⟩ : ∃ q, isV ta = q := ⟨_, rfl⟩
  obtain ⟨qb, hqb⟩ : ∃ q, isV tb = q := ⟨_, rfl⟩
  rw [hqt] at CT HT HS KT
  rw [hqa] at CA CX HT HS KA PA
  rw [hqb] at CB CY HT HS KB PB
  obtain ⟨pk, hpk⟩ : ∃ q, plK ta = q := ⟨_, rfl⟩
  obtain ⟨pl, hpl⟩ : ∃ q, plL ta = q := ⟨_, rfl⟩
  obtain ⟨rk, hrk⟩ : ∃ q, plK tb = q := ⟨_, rfl⟩
  obtain ⟨rl, hrl⟩ : ∃ q, plL tb = q := ⟨_, rfl⟩
  rw [hpk, hpl] at CX PA HW
  rw [hrk, hrl] at CY PB HW
  clear hX hY hW hqt hqa hqb hpk hpl hrk hrl
  obtain ⟨j, js, jp, jn, jc, jl, jo, je⟩ := tt
  obtain ⟨k, is, ps, ns, cs, ls, c, e⟩ := ta
  obtain ⟨k', is', ps', ns', cs', ls', c', e'⟩ := tb
  have hsa : szI is + szL ps + szS ns + szS cs + szS ls ≤ 1048576 := hza
  have hsb : szI is' + szL ps' + szS ns' + szS cs' + szS ls' ≤ 1048576 := hzb
  have xa : (is.length : Int) + ps.length ≤ 9223372036854775807 := by have := szL_eq ps; unfold szI at hsa; omega
  have xb : (is'.length : Int) + ps'.length ≤ 9223372036854775807 := by have := szL_eq ps'; unfold szI at hsb; omega
  replace HT : Hid (X = if qt && qa && qb then (if cntK j jl.length then (if k ≤ 3 ∧ k' ≤ 3 then (if is.length = 0 ∨ is'.length = 0 then vecI 0 [] else W) else vecI 0 []) else vecI 0 []) else vecI 0 []) := HT
  replace HS : Hid (Y = if qt && qa && qb then (if cntK j jl.length then (if k ≤ 3 ∧ k' ≤ 3 then (if is.length = 0 ∨ is'.length = 0 then rzS else ⟨#[]⟩) else notAtS) else nonLogS) else badS) := HS
  replace HW : Hid (W = vecN (if pk < rk then rk else pk) (chL js (pl.map (cvI pk (if pk < rk then rk else pk))) (rl.map (cvI rk (if pk < rk then rk else pk))) js.length) jn) := HW
  replace KT : Hid (qt = true → js.length ≤ 40 ∧ jn.length ≤ 40) := KT
  replace KA : Hid (qa = true → is.length ≤ 40 ∧ 0 ≤ k ∧ (k ≤ 3 → lenN k is.length ps.length = is.length)) := KA
  replace KB : Hid (qb = true → is'.length ≤ 40 ∧ 0 ≤ k' ∧ (k' ≤ 3 → lenN k' is'.length ps'.length = is'.length)) := KB
  replace PA : Hid (qa = true → k ≤ 3 → (0 ≤ pk ∧ pk ≤ 3) ∧ (∀ x ∈ pl, itemB pk x = true) ∧ pl.length = is.length ∧ szV (.mk pk pl [] [] [] [] 0 0) ≤ 1048576) := PA
  replace PB : Hid (qb = true → k' ≤ 3 → (0 ≤ rk ∧ rk ≤ 3) ∧ (∀ x ∈ rl, itemB rk x = true) ∧ rl.length = is'.length ∧ szV (.mk rk rl [] [] [] [] 0 0) ≤ 1048576) := PB
  obtain ⟨Ji, Jp, Jn, Jc, Jl, gi, gp, gn, gc, gl, pvs0, rfl, f1, f2, f3, f4, f5⟩ := ht.open
  obtain ⟨Ai, Ap, An, Ac, Al, ci, cp, cn, cc, cl, pvs, rfl, h1, h2, h3, h4, h5⟩ := ha.open
  obtain ⟨Bi, Bp, Bn, Bc, Bl, di, dp, dn, dc, dl, pvs', rfl, g1, g2, g3, g4, g5⟩ := hb.open
  clear ht ha hb hzt hza hzb hsa hsb h1 h2 h3 h4 h5 g1 g2 g3 g4 g5 f2 f4 f5
  cases qt with
  | false =>
    have HF : Hid (X = vecI 0 []) := Lib.hid (by rw [HT.out]; rfl)
    have HG : Hid (Y = badS) := Lib.hid (by rw [HS.out]; rfl)
    clear HT HS HW KT KA KB PA PB CX CY f1 f3
    go_enter Try.func46, Try.ntmps46
    have hO := Own.nil w
    go_wp2_with (first
      | ((with_reducible refine (CT _ hO.below).mono ?_); rintro e u ⟨rfl, hb⟩; (replace hO := hO.step hb; clear hb))
      | (with_reducible refine stop_ret ?_)
      | ((with_reducible refine wpl_alloc ?_); refine wpList_alloc_own rfl (by rfl) hO rfl (fun b => by simp only [Act.put, zA, zB, zC]; rfl) ?_; (refine nm 3 rfl ?_; clear hO; intro b3 u hO); simp only [zL, zK] at hO)
      | ((with_reducible refine wpl_box ?_); refine wpList_box_own rfl (by rfl) hO rfl rfl (fun b => by simp only [Act.put, zA, zB, zC]; rfl) ?_; (first | (refine nm 0 rfl ?_; clear hO; intro b0 u hO) | (refine nm 1 rfl ?_; clear hO; intro b1 u hO) | (refine nm 2 rfl ?_; clear hO; intro b2 u hO) | fail); simp only [zL, zK] at hO)
      | ((with_reducible refine wpl_load ?_); refine wpList_load_box rfl (by rfl) hO rfl _ (by exact at0) (by rfl) (by simp only [Act.put, zA, zB, zC]; rfl) ?_)
      | ((with_reducible refine wpl_store ?_); refine wpList_store_box rfl (by rfl) hO rfl _ (by exact at3) (by simp only [Act.eval, zJ, zF, zD, zE, zP]; rfl) (by rfl) (by rfl) (by rfl) (by rfl) (by rfl) ?_; clear hO; intro u hO; simp only [zC, zB] at hO)
      | fail)
    obtain ⟨F0, hvo0, hF⟩ := Own.vec0 u 0
    exact ⟨ret_box2 rfl hO rfl 3 at3 rfl rfl rfl ⟨_, _, by rw [HG.out]; rfl, by rw [HF.out]; exact hvo0, (hO.call hF).pick [0] (by decide)⟩⟩
  | true =>
  cases qa with
  | false =>
    have HF : Hid (X = vecI 0 []) := Lib.hid (by rw [HT.out]; rfl)
    have HG : Hid (Y = badS) := Lib.hid (by rw [HS.out]; rfl)
    clear HT HS HW KT KA KB PA PB CX CY f1 f3
    go_enter Try.func46, Try.ntmps46
    have hO := Own.nil w
    go_wp2_with (first
      | ((with_reducible refine (CT _ hO.below).mono ?_); rintro e u ⟨rfl, hb⟩; (replace hO := hO.step hb; clear hb))
      | ((with_reducible refine (CA _ hO.below).mono ?_); rintro e u ⟨rfl, hb⟩; (replace hO := hO.step hb; clear hb))
      | (with_reducible refine stop_ret ?_)
      | ((with_reducible refine wpl_alloc ?_); refine wpList_alloc_own rfl (by rfl) hO rfl (fun b => by simp only [Act.put, zA, zB, zC]; rfl) ?_; (refine nm 3 rfl ?_; clear hO; intro b3 u hO); simp only [zL, zK] at hO)
      | ((with_reducible refine wpl_box ?_); refine wpList_box_own rfl (by rfl) hO rfl rfl (fun b => by simp only [Act.put, zA, zB, zC]; rfl) ?_; (first | (refine nm 0 rfl ?_; clear hO; intro b0 u hO) | (refine nm 1 rfl ?_; clear hO; intro b1 u hO) | (refine nm 2 rfl ?_; clear hO; intro b2 u hO) | fail); simp only [zL, zK] at hO)
      | ((with_reducible refine wpl_load ?_); refine wpList_load_box rfl (by rfl) hO rfl _ (by (first | exact at0 | exact at1 | fail)) (by rfl) (by simp only [Act.put, zA, zB, zC]; rfl) ?_)
      | ((with_reducible refine wpl_store ?_); refine wpList_store_box rfl (by rfl) hO rfl _ (by exact at3) (by simp only [Act.eval, zJ, zF, zD, zE, zP]; rfl) (by rfl) (by rfl) (by rfl) (by rfl) (by rfl) ?_; clear hO; intro u hO; simp only [zC, zB] at hO)
      | fail)
    obtain ⟨F0, hvo0, hF⟩ := Own.vec0 u 0
    exact ⟨ret_box2 rfl hO rfl 3 at3 rfl rfl rfl ⟨_, _, by rw [HG.out]; rfl, by rw [HF.out]; exact hvo0, (hO.call hF).pick [0] (by decide)⟩⟩
  | true =>
  cases qb with
  | false =>
    have HF : Hid (X = vecI 0 []) := Lib.hid (by rw [HT.out]; rfl)
    have HG : Hid (Y = badS) := Lib.hid (by rw [HS.out]; rfl)
    clear HT HS HW KT KA KB PA PB CX CY f1 f3
    go_enter Try.func46, Try.ntmps46
    have hO := Own.nil w
    go_wp2_with (first
      | ((with_reducible refine (CT _ hO.below).mono ?_); rintro e u ⟨rfl, hb⟩; (replace hO := hO.step hb; clear hb))
      | ((with_reducible refine (CA _ hO.below).mono ?_); rintro e u ⟨rfl, hb⟩; (replace hO := hO.step hb; clear hb))
      | ((with_reducible refine (CB _ hO.below).mono ?_); rintro e u ⟨rfl, hb⟩; (replace hO := hO.step hb; clear hb))
      | (with_reducible refine stop_ret ?_)
      | ((with_reducible refine wpl_alloc ?_); refine wpList_alloc_own rfl (by rfl) hO rfl (fun b => by simp only [Act.put, zA, zB, zC]; rfl) ?_; (refine nm 3 rfl ?_; clear hO; intro b3 u hO); simp only [zL, zK] at hO)
      | ((with_reducible refine wpl_box ?_); refine wpList_box_own rfl (by rfl) hO rfl rfl (fun b => by simp only [Act.put, zA, zB, zC]; rfl) ?_; (first | (refine nm 0 rfl ?_; clear hO; intro b0 u hO) | (refine nm 1 rfl ?_; clear hO; intro b1 u hO) | (refine nm 2 rfl ?_; clear hO; intro b2 u hO) | fail); simp only [zL, zK] at hO)
      | ((with_reducible refine wpl_load ?_); refine wpList_load_box rfl (by rfl) hO rfl _ (by (first | exact at0 | exact at1 | exact at2 | fail)) (by rfl) (by simp only [Act.put, zA, zB, zC]; rfl) ?_)
      | ((with_reducible refine wpl_store ?_); refine wpList_store_box rfl (by rfl) hO rfl _ (by exact at3) (by simp only [Act.eval, zJ, zF, zD, zE, zP]; rfl) (by rfl) (by rfl) (by rfl) (by rfl) (by rfl) ?_; clear hO; intro u hO; simp only [zC, zB] at hO)
      | fail)
    obtain ⟨F0, hvo0, hF⟩ := Own.vec0 u 0
    exact ⟨ret_box2 rfl hO rfl 3 at3 rfl rfl rfl ⟨_, _, by rw [HG.out]; rfl, by rw [HF.out]; exact hvo0, (hO.call hF).pick [0] (by decide)⟩⟩
  | true =>
  obtain ⟨lt, lnm⟩ := KT.out rfl
  obtain ⟨la, k0, ea⟩ := KA.out rfl
  obtain ⟨lb, k0', eb⟩ := KB.out rfl
  have CC := fun u => impl_counts j (.slice Ji js.length gi) (.slice Jp jp.length gp) (.slice Jn jn.length gn) (.slice Jc jc.length gc) (.int .i64 jo) (.int .i64 je) Jl jl.length gl u
  obtain ⟨rc, hrc⟩ : ∃ r, cntK j jl.length = r := ⟨_, rfl⟩
  rw [hrc] at CC HT HS
  clear hrc
  cases rc with
  | false =>
    have HF : Hid (X = vecI 0 []) := Lib.hid (by rw [HT.out]; rfl)
    have HG : Hid (Y = nonLogS) := Lib.hid (by rw [HS.out]; rfl)
    clear HT HS HW KT KA KB PA PB CX CY f1 f3
    clear ea eb
    go_enter Try.func46, Try.ntmps46
    have hO := Own.nil w
    go_wp2_with (first
      | ((with_reducible refine (CT _ hO.below).mono ?_); rintro e u ⟨rfl, hb⟩; (replace hO := hO.step hb; clear hb))
      | ((with_reducible refine (CA _ hO.below).mono ?_); rintro e u ⟨rfl, hb⟩; (replace hO := hO.step hb; clear hb))
      | ((with_reducible refine (CB _ hO.below).mono ?_); rintro e u ⟨rfl, hb⟩; (replace hO := hO.step hb; clear hb))
      | ((with_reducible refine (CC _).mono ?_); rintro e u ⟨rfl, hb⟩; (replace hO := hO.step hb; clear hb))
      | (with_reducible refine stop_ret ?_)
      | ((with_reducible refine wpl_alloc ?_); refine wpList_alloc_own rfl (by rfl) hO rfl (fun b => by simp only [Act.put, zA, zB, zC]; rfl) ?_; (refine nm 3 rfl ?_; clear hO; intro b3 u hO); simp only [zL, zK] at hO)
      | ((with_reducible refine wpl_box ?_); refine wpList_box_own rfl (by rfl) hO rfl rfl (fun b => by simp only [Act.put, zA, zB, zC]; rfl) ?_; (first | (refine nm 0 rfl ?_; clear hO; intro b0 u hO) | (refine nm 1 rfl ?_; clear hO; intro b1 u hO) | (refine nm 2 rfl ?_; clear hO; intro b2 u hO) | fail); simp only [zL, zK] at hO)
      | ((with_reducible refine wpl_load ?_); refine wpList_load_box rfl (by rfl) hO rfl _ (by (first | exact at0 | exact at1 | exact at2 | fail)) (by rfl) (by simp only [Act.put, zA, zB, zC]; rfl) ?_)
      | ((with_reducible refine wpl_store ?_); refine wpList_store_box rfl (by rfl) hO rfl _ (by exact at3) (by simp only [Act.eval, zJ, zF, zD, zE, zP]; rfl) (by rfl) (by rfl) (by rfl) (by rfl) (by rfl) ?_; clear hO; intro u hO; simp only [zC, zB] at hO)
      | fail)
    obtain ⟨F0, hvo0, hF⟩ := Own.vec0 u 0
    exact ⟨ret_box2 rfl hO rfl 3 at3 rfl rfl rfl ⟨_, _, by rw [HG.out]; rfl, by rw [HF.out]; exact hvo0, (hO.call hF).pick [0] (by decide)⟩⟩
  | true =>
  by_cases h4 : 4 ≤ k
  · have hn : ¬ (k ≤ 3 ∧ k' ≤ 3) := by omega
    have HF : Hid (X = vecI 0 []) := Lib.hid (by rw [HT.out]; simp [hn])
    have HG : Hid (Y = notAtS) := Lib.hid (by rw [HS.out]; simp [hn])
    clear HT HS HW KT KA KB PA PB CX CY f1 f3
    clear hn ea eb
    go_enter Try.func46, Try.ntmps46
    have hO := Own.nil w
    go_wp2_with (first
      | ((with_reducible refine (CT _ hO.below).mono ?_); rintro e u ⟨rfl, hb⟩; (replace hO := hO.step hb; clear hb))
      | ((with_reducible refine (CA _ hO.below).mono ?_); rintro e u ⟨rfl, hb⟩; (replace hO := hO.step hb; clear hb))
      | ((with_reducible refine (CB _ hO.below).mono ?_); rintro e u ⟨rfl, hb⟩; (replace hO := hO.step hb; clear hb))
      | ((with_reducible refine (CC _).mono ?_); rintro e u ⟨rfl, hb⟩; (replace hO := hO.step hb; clear hb))
      | (with_reducible refine stop_ret ?_)
      | ((with_reducible refine wpl_alloc ?_); refine wpList_alloc_own rfl (by rfl) hO rfl (fun b => by simp only [Act.put, zA, zB, zC]; rfl) ?_; (refine nm 3 rfl ?_; clear hO; intro b3 u hO); simp only [zL, zK] at hO)
      | ((with_reducible refine wpl_box ?_); refine wpList_box_own rfl (by rfl) hO rfl rfl (fun b => by simp only [Act.put, zA, zB, zC]; rfl) ?_; (first | (refine nm 0 rfl ?_; clear hO; intro b0 u hO) | (refine nm 1 rfl ?_; clear hO; intro b1 u hO) | (refine nm 2 rfl ?_; clear hO; intro b2 u hO) | fail); simp only [zL, zK] at hO)
      | ((with_reducible refine wpl_load ?_); refine wpList_load_box rfl (by rfl) hO rfl _ (by (first | exact at0 | exact at1 | exact at2 | fail)) (by rfl) (by simp only [Act.put, zA, zB, zC]; rfl) ?_)
      | ((with_reducible refine wpl_load ?_); refine wpList_load_field rfl (by rfl) hO rfl _ (by exact at1) (by rfl) (by simp only [Act.put, zA, zB, zC]; rfl) ?_)
      | ((with_reducible refine wpl_store ?_); refine wpList_store_box rfl (by rfl) hO rfl _ (by exact at3) (by simp only [Act.eval, zJ, zF, zD, zE, zP]; rfl) (by rfl) (by rfl) (by rfl) (by rfl) (by rfl) ?_; clear hO; intro u hO; simp only [zC, zB] at hO)
      | fail)
    obtain ⟨F0, hvo0, hF⟩ := Own.vec0 u 0
    exact ⟨ret_box2 rfl hO rfl 3 at3 rfl rfl rfl ⟨_, _, by rw [HG.out]; rfl, by rw [HF.out]; exact hvo0, (hO.call hF).pick [0] (by decide)⟩⟩
  by_cases h4' : 4 ≤ k'
  · have hn : ¬ (k ≤ 3 ∧ k' ≤ 3) := by omega
    have HF : Hid (X = vecI 0 []) := Lib.hid (by rw [HT.out]; simp [hn])
    have HG : Hid (Y = notAtS) := Lib.hid (by rw [HS.out]; simp [hn])
    clear HT HS HW KT KA KB PA PB CX CY f1 f3
    clear hn ea eb
    go_enter Try.func46, Try.ntmps46
    have hO := Own.nil w
    go_wp2_with (first
      | ((with_reducible refine (CT _ hO.below).mono ?_); rintro e u ⟨rfl, hb⟩; (replace hO := hO.step hb; clear hb))
      | ((with_reducible refine (CA _ hO.below).mono ?_); rintro e u ⟨rfl, hb⟩; (replace hO := hO.step hb; clear hb))
      | ((with_reducible refine (CB _ hO.below).mono ?_); rintro e u ⟨rfl, hb⟩; (replace hO := hO.step hb; clear hb))
      | ((with_reducible refine (CC _).mono ?_); rintro e u ⟨rfl, hb⟩; (replace hO := hO.step hb; clear hb))
      | (with_reducible refine stop_ret ?_)
      | ((with_reducible refine wpl_alloc ?_); refine wpList_alloc_own rfl (by rfl) hO rfl (fun b => by simp only [Act.put, zA, zB, zC]; rfl) ?_; (refine nm 3 rfl ?_; clear hO; intro b3 u hO); simp only [zL, zK] at hO)
      | ((with_reducible refine wpl_box ?_); refine wpList_box_own rfl (by rfl) hO rfl rfl (fun b => by simp only [Act.put, zA, zB, zC]; rfl) ?_; (first | (refine nm 0 rfl ?_; clear hO; intro b0 u hO) | (refine nm 1 rfl ?_; clear hO; intro b1 u hO) | (refine nm 2 rfl ?_; clear hO; intro b2 u hO) | fail); simp only [zL, zK] at hO)
      | ((with_reducible refine wpl_load ?_); refine wpList_load_box rfl (by rfl) hO rfl _ (by (first | exact at0 | exact at1 | exact at2 | fail)) (by rfl) (by simp only [Act.put, zA, zB, zC]; rfl) ?_)
      | ((with_reducible refine wpl_load ?_); refine wpList_load_field rfl (by (first | rfl | (simp only [Region.wanted, yielded, *]; go_simp; done) | fail)) hO rfl _ (by (first | exact at1 | exact at2 | fail)) (by rfl) (by simp only [Act.put, zA, zB, zC]; rfl) ?_)
      | ((with_reducible refine wpl_store ?_); refine wpList_store_box rfl (by rfl) hO rfl _ (by exact at3) (by simp only [Act.eval, zJ, zF, zD, zE, zP]; rfl) (by rfl) (by rfl) (by rfl) (by rfl) (by rfl) ?_; clear hO; intro u hO; simp only [zC, zB] at hO)
      | fail)
    obtain ⟨F0, hvo0, hF⟩ := Own.vec0 u 0
    exact ⟨ret_box2 rfl hO rfl 3 at3 rfl rfl rfl ⟨_, _, by rw [HG.out]; rfl, by rw [HF.out]; exact hvo0, (hO.call hF).pick [0] (by decide)⟩⟩
  have k3 : k ≤ 3 := by omega
  have k3' : k' ≤ 3 := by omega
  have LA := fun u => impl_length k Ai Ap is.length ps.length ci cp (.slice An ns.length cn) (.slice Ac cs.length cc) (.slice Al ls.length cl) (.int .i64 c) (.int .i64 e) u xa
  have LB := fun u => impl_length k' Bi Bp is'.length ps'.length di dp (.slice Bn ns'.length dn) (.slice Bc cs'.length dc) (.slice Bl ls'.length dl) (.int .i64 c') (.int .i64 e') u xb
  rw [ea k3] at LA
  rw [eb k3'] at LB
  clear ea eb h4 h4'
  by_cases z1 : is.length = 0
  · have hn : is.length = 0 ∨ is'.length = 0 := .inl z1
    have q1 : ((is.length : Int) == 0) = true := by simp [z1]
    have HF : Hid (X = vecI 0 []) := Lib.hid (by rw [HT.out]; simp only [Bool.and_self, if_true]; rw [if_pos ⟨k3, k3'⟩, if_pos hn])
    have HG : Hid (Y = rzS) := Lib.hid (by rw [HS.out]; simp only [Bool.and_self, if_true]; rw [if_pos ⟨k3, k3'⟩, if_pos hn])
    clear HT HS HW KT KA KB PA PB CX CY f1 f3
    clear hn z1
    go_enter Try.func46, Try.ntmps46
    have hO := Own.nil w
    go_wp2_with (first
      | ((with_reducible refine (CT _ hO.below).mono ?_); rintro e u ⟨rfl, hb⟩; (replace hO := hO.step hb; clear hb))
      | ((with_reducible refine (CA _ hO.below).mono ?_); rintro e u ⟨rfl, hb⟩; (replace hO := hO.step hb; clear hb))
      | ((with_reducible refine (CB _ hO.below).mono ?_); rintro e u ⟨rfl, hb⟩; (replace hO := hO.step hb; clear hb))
      | ((with_reducible refine (CC _).mono ?_); rintro e u ⟨rfl, hb⟩; (replace hO := hO.step hb; clear hb))
      | ((with_reducible refine (LA _).mono ?_); rintro e u ⟨rfl, hb⟩; (replace hO := hO.step hb; clear hb))
      | (with_reducible refine stop_ret ?_)
      | ((with_reducible refine wpl_alloc ?_); refine wpList_alloc_own rfl (by rfl) hO rfl (fun b => by simp only [Act.put, zA, zB, zC]; rfl) ?_; (refine nm 3 rfl ?_; clear hO; intro b3 u hO); simp only [zL, zK] at hO)
      | ((with_reducible refine wpl_box ?_); refine wpList_box_own rfl (by rfl) hO rfl rfl (fun b => by simp only [Act.put, zA, zB, zC]; rfl) ?_; (first | (refine nm 0 rfl ?_; clear hO; intro b0 u hO) | (refine nm 1 rfl ?_; clear hO; intro b1 u hO) | (refine nm 2 rfl ?_; clear hO; intro b2 u hO) | fail); simp only [zL, zK] at hO)
      | ((with_reducible refine wpl_load ?_); refine wpList_load_box rfl (by rfl) hO rfl _ (by (first | exact at0 | exact at1 | exact at2 | fail)) (by rfl) (by simp only [Act.put, zA, zB, zC]; rfl) ?_)
      | ((with_reducible refine wpl_load ?_); refine wpList_load_field rfl (by (first | rfl | (simp only [Region.wanted, yielded, *]; go_simp; done) | fail)) hO rfl _ (by (first | exact at1 | exact at2 | fail)) (by rfl) (by simp only [Act.put, zA, zB, zC]; rfl) ?_)
      | ((with_reducible refine wpl_store ?_); refine wpList_store_box rfl (by rfl) hO rfl _ (by exact at3) (by simp only [Act.eval, zJ, zF, zD, zE, zP]; rfl) (by rfl) (by rfl) (by rfl) (by rfl) (by rfl) ?_; clear hO; intro u hO; simp only [zC, zB] at hO)
      | fail)
    obtain ⟨F0, hvo0, hF⟩ := Own.vec0 u 0
    exact ⟨ret_box2 rfl hO rfl 3 at3 rfl rfl rfl ⟨_, _, by rw [HG.out]; rfl, by rw [HF.out]; exact hvo0, (hO.call hF).pick [0] (by decide)⟩⟩
  have q1 : ((is.length : Int) == 0) = false := by simp [z1]
  by_cases z2 : is'.length = 0
  · have hn : is.length = 0 ∨ is'.length = 0 := .inr z2
    have q2 : ((is'.length : Int) == 0) = true := by simp [z2]
    have HF : Hid (X = vecI 0 []) := Lib.hid (by rw [HT.out]; simp only [Bool.and_self, if_true]; rw [if_pos ⟨k3, k3'⟩, if_pos hn])
    have HG : Hid (Y = rzS) := Lib.hid (by rw [HS.out]; simp only [Bool.and_self, if_true]; rw [if_pos ⟨k3, k3'⟩, if_pos hn])
    clear HT HS HW KT KA KB PA PB CX CY f1 f3
    clear hn z1 z2
    go_enter Try.func46, Try.ntmps46
    have hO := Own.nil w
    go_wp2_with (first
      | ((with_reducible refine (CT _ hO.below).mono ?_); rintro e u ⟨rfl, hb⟩; (replace hO := hO.step hb; clear hb))
      | ((with_reducible refine (CA _ hO.below).mono ?_); rintro e u ⟨rfl, hb⟩; (replace hO := hO.step hb; clear hb))
      | ((with_reducible refine (CB _ hO.below).mono ?_); rintro e u ⟨rfl, hb⟩; (replace hO := hO.step hb; clear hb))
      | ((with_reducible refine (CC _).mono ?_); rintro e u ⟨rfl, hb⟩; (replace hO := hO.step hb; clear hb))
      | ((with_reducible refine (LA _).mono ?_); rintro e u ⟨rfl, hb⟩; (replace hO := hO.step hb; clear hb))
      | ((with_reducible refine (LB _).mono ?_); rintro e u ⟨rfl, hb⟩; (replace hO := hO.step hb; clear hb))
      | (with_reducible refine stop_ret ?_)
      | ((with_reducible refine wpl_alloc ?_); refine wpList_alloc_own rfl (by rfl) hO rfl (fun b => by simp only [Act.put, zA, zB, zC]; rfl) ?_; (refine nm 3 rfl ?_; clear hO; intro b3 u hO); simp only [zL, zK] at hO)
      | ((with_reducible refine wpl_box ?_); refine wpList_box_own rfl (by rfl) hO rfl rfl (fun b => by simp only [Act.put, zA, zB, zC]; rfl) ?_; (first | (refine nm 0 rfl ?_; clear hO; intro b0 u hO) | (refine nm 1 rfl ?_; clear hO; intro b1 u hO) | (refine nm 2 rfl ?_; clear hO; intro b2 u hO) | fail); simp only [zL, zK] at hO)
      | ((with_reducible refine wpl_load ?_); refine wpList_load_box rfl (by rfl) hO rfl _ (by (first | exact at0 | exact at1 | exact at2 | fail)) (by rfl) (by simp only [Act.put, zA, zB, zC]; rfl) ?_)
      | ((with_reducible refine wpl_load ?_); refine wpList_load_field rfl (by (first | rfl | (simp only [Region.wanted, yielded, *]; go_simp; done) | fail)) hO rfl _ (by (first | exact at1 | exact at2 | fail)) (by rfl) (by simp only [Act.put, zA, zB, zC]; rfl) ?_)
      | ((with_reducible refine wpl_store ?_); refine wpList_store_box rfl (by rfl) hO rfl _ (by exact at3) (by simp only [Act.eval, zJ, zF, zD, zE, zP]; rfl) (by rfl) (by rfl) (by rfl) (by rfl) (by rfl) ?_; clear hO; intro u hO; simp only [zC, zB] at hO)
      | fail)
    obtain ⟨F0, hvo0, hF⟩ := Own.vec0 u 0
    exact ⟨ret_box2 rfl hO rfl 3 at3 rfl rfl rfl ⟨_, _, by rw [HG.out]; rfl, by rw [HF.out]; exact hvo0, (hO.call hF).pick [0] (by decide)⟩⟩
  have q2 : ((is'.length : Int) == 0) = false := by simp [z2]
  obtain ⟨⟨p0, p3⟩, pit, plen, psz⟩ := PA.out rfl k3
  obtain ⟨⟨r0, r3⟩, rit, rlen, rsz⟩ := PB.out rfl k3'
  replace CX := fun u (h : Below w.heap.size w u) => CX u h rfl k3
  replace CY := fun u (h : Below w.heap.size w u) => CY u h rfl k3'
  have hn : ¬ (is.length = 0 ∨ is'.length = 0) := by omega
  have HT' : Hid (X = W) := Lib.hid (by rw [HT.out]; simp only [Bool.and_self, if_true]; rw [if_pos ⟨k3, k3'⟩, if_neg hn])
  have HG : Hid (Y = ⟨#[]⟩) := Lib.hid (by rw [HS.out]; simp only [Bool.and_self, if_true]; rw [if_pos ⟨k3, k3'⟩, if_neg hn])
  obtain ⟨K, hK⟩ : ∃ K : Int, (if pk < rk then rk else pk) = K := ⟨_, rfl⟩
  rw [hK] at HW
  have hKK : pk ≤ K ∧ rk ≤ K ∧ K ≤ 3 := by rw [← hK]; split <;> omega
  obtain ⟨pK, rK, K3⟩ := hKK
  have e5 : ∀ (x : Int) (l : List It), x ≤ 3 → x ≤ K → cvT K (.mk x l [] [] [] [] 0 0) = .mk K (l.map (cvI x K)) [] [] [] [] 0 0 := fun x l hx hxK => by
    show (if x = 5 then _ else if K < x then _ else if K = 4 then _ else _) = _
    rw [if_neg (by omega), if_neg (by omega), if_neg (by omega)]
    rfl
  have e6 : ∀ (x : Int) (l : List It), x ≤ 3 → x ≤ K → cvB K (.mk x l [] [] [] [] 0 0) = true := fun x l hx hxK => by
    show (if x = 5 then _ else decide (x ≤ K)) = true
    rw [if_neg (by omega)]
    exact decide_eq_true hxK
  have CP := fun vs u (h : RdV u (.mk pk pl [] [] [] [] 0 0) vs) => RetVE.ofB (impl_convert K (.mk pk pl [] [] [] [] 0 0) vs u h psz pit)
  have CR := fun vs u (h : RdV u (.mk rk rl [] [] [] [] 0 0) vs) => RetVE.ofB (impl_convert K (.mk rk rl [] [] [] [] 0 0) vs u h rsz rit)
  rw [e5 pk pl p3 pK, e6 pk pl p3 pK] at CP
  rw [e5 rk rl r3 rK, e6 rk rl r3 rK] at CR
  obtain ⟨xl, hxl⟩ : ∃ l, pl.map (cvI pk K) = l := ⟨_, rfl⟩
  obtain ⟨yl, hyl⟩ : ∃ l, rl.map (cvI rk K) = l := ⟨_, rfl⟩
  have lx : 0 < xl.length ∧ xl.length ≤ 40 := by rw [← hxl, List.length_map, plen]; omega
  have ly : 0 < yl.length ∧ yl.length ≤ 40 := by rw [← hyl, List.length_map, rlen]; omega
  rw [hxl] at CP HW
  rw [hyl] at CR HW
  replace CP := fun vs u h => RetVX.of (CP vs u h)
  replace CR := fun vs u h => RetVX.of (CR vs u h)
  have HF : Hid (X = vecN K (chL js xl yl js.length) jn) := Lib.hid (by rw [HT'.out, HW.out])
  obtain ⟨lx0, lx1⟩ := lx
  obtain ⟨ly0, ly1⟩ := ly
  have S := fun u (hb : Below w.heap.size w u) => impl_copyTexts Jn gn jn u (f3.below hb) (by omega)
  clear HT HT' HS HW PA PB hxl hyl e5 e6 KT KA KB psz rsz pit rit plen rlen hn z1 z2 f3 p0 p3 r0 r3 pK rK K3
  go_enter Try.func46, Try.ntmps46
  have hO := Own.nil w
  go_wp2_with (first
    | ((with_reducible refine (CT _ hO.below).mono ?_); rintro e u ⟨rfl, hb⟩; (replace hO := hO.step hb; clear hb))
    | ((with_reducible refine (CA _ hO.below).mono ?_); rintro e u ⟨rfl, hb⟩; (replace hO := hO.step hb; clear hb))
    | ((with_reducible refine (CB _ hO.below).mono ?_); rintro e u ⟨rfl, hb⟩; (replace hO := hO.step hb; clear hb))
    | ((with_reducible refine (CC _).mono ?_); rintro e u ⟨rfl, hb⟩; (replace hO := hO.step hb; clear hb))
    | ((with_reducible refine (LA _).mono ?_); rintro e u ⟨rfl, hb⟩; (replace hO := hO.step hb; clear hb))
    | ((with_reducible refine (LB _).mono ?_); rintro e u ⟨rfl, hb⟩; (replace hO := hO.step hb; clear hb))
    | ((with_reducible refine wpl_alloc ?_); refine wpList_alloc_own rfl (by rfl) hO rfl (fun b => by simp only [Act.put, zA, zB, zC]; rfl) ?_; (refine nm 3 rfl ?_; clear hO; intro b3 u hO); simp only [zL, zK] at hO)
    | ((with_reducible refine wpl_box ?_); refine wpList_box_own rfl (by rfl) hO rfl rfl (fun b => by simp only [Act.put, zA, zB, zC]; rfl) ?_; (first | (refine nm 0 rfl ?_; clear hO; intro b0 u hO) | (refine nm 1 rfl ?_; clear hO; intro b1 u hO) | (refine nm 2 rfl ?_; clear hO; intro b2 u hO) | fail); simp only [zL, zK] at hO)
    | ((with_reducible refine wpl_load ?_); refine wpList_load_box rfl (by rfl) hO rfl _ (by (first | exact at0 | exact at1 | exact at2 | fail)) (by rfl) (by simp only [Act.put, zA, zB, zC]; rfl) ?_)
    | ((with_reducible refine wpl_load ?_); refine wpList_load_field rfl (by (first | rfl | (simp only [Region.wanted, yielded, *]; go_simp; done) | fail)) hO rfl _ (by (first | exact at1 | exact at2 | fail)) (by rfl) (by simp only [Act.put, zA, zB, zC]; rfl) ?_)
    | fail)
  refine J.wp_region_c (n := 130) [0, 2] [1, 3, 4, 5] (deps := fun i => [[], [0], [], [2], [], [], [], []].getD i []) (fun i d => [fun _ => True, (J.freshC pk pl [] [] [] [] 0 0), fun _ => True, (J.freshC rk rl [] [] [] [] 0 0), J.fresh 29 [.int .i64 0, .slice none 0 0, .slice none 0 0, .slice none 0 0, .slice none 0 0, .slice none 0 0, .int .i64 0, .int .i64 0], J.fresh 29 [.int .i64 0, .slice none 0 0, .slice none 0 0, .slice none 0 0, .slice none 0 0, .slice none 0 0, .int .i64 0, .int .i64 0], fun _ => True, fun _ => True].getD i (fun _ => True)) (r := 2) (lst := #[true, true, true, true, true, true, false, false]) (by kernel_rfl) (by kernel_rfl) (by kernel_rfl) rfl (by decide) (by kernel_rfl) hO ?_
  refine J.Chain.cons (by rfl) (by rfl) (fun M u hO K hK => by (exact wp_load_box hO rfl rfl _ (by exact at1) (by rfl) (by rfl) (hK _ hO))) (by simp only [J.putL, zI, zG, zH, J.dstOf, zF, zD, zE, zS, zQ, zR, Act.put, zA, zB, zC]; rfl) ?_
  refine J.Chain.cons (by rfl) (by rfl) (fun M u hO K hK => by (exact wp_load_box hO rfl rfl _ (by exact at2) (by rfl) (by rfl) (hK _ hO))) (by simp only [J.putL, zI, zG, zH, J.dstOf, zF, zD, zE, zS, zQ, zR, Act.put, zA, zB, zC]; rfl) ?_
  refine J.Chain.nil ⟨?_, ?_⟩
  · refine J.Each.cons (by rfl) ?_ ?_; exact ⟨rfl, fun vs M u hO _ K hK => by ((try simp only [J.putL, zI, zG, zH, J.dstOf, zF, zD, zE, zS, zQ, zR, Act.put, zA, zB, zC]); (try simp only [wp_at_zero, wp_at_succ]); go_step; refine (CX _ hO.below).mono ?_; rintro e u ⟨Ci, Cp, Cn, Cc, Cl, ri, rp, rn, rc, rl', F1, rfl, hvo1, hb⟩; have hK' := hK _ _ _ (show (J.freshC pk pl [] [] [] [] 0 0) _ from ⟨Ci, Cp, Cn, Cc, Cl, ri, rp, rn, rc, rl', F1, rfl, hvo1⟩) ((hO.call hb).perm List.perm_append_comm); clear hK; simp only [J.putL, zI, zG, zH, J.dstOf, zF, zD, zE, zS, zQ, zR, Act.put, zA, zB, zC] at hK'; exact hK')⟩; refine J.Each.cons (by rfl) ?_ ?_; exact ⟨rfl, fun vs M u hO _ K hK => by ((try simp only [J.putL, zI, zG, zH, J.dstOf, zF, zD, zE, zS, zQ, zR, Act.put, zA, zB, zC]); (try simp only [wp_at_zero, wp_at_succ]); go_step; refine (CY _ hO.below).mono ?_; rintro e u ⟨Di, Dp, Dn, Dc, Dl, si, sp, sn, sc, sl, F2, rfl, hvo2, hb⟩; have hK' := hK _ _ _ (show (J.freshC rk rl [] [] [] [] 0 0) _ from ⟨Di, Dp, Dn, Dc, Dl, si, sp, sn, sc, sl, F2, rfl, hvo2⟩) ((hO.call hb).perm List.perm_append_comm); clear hK; simp only [J.putL, zI, zG, zH, J.dstOf, zF, zD, zE, zS, zQ, zR, Act.put, zA, zB, zC] at hK'; exact hK')⟩; refine J.Each.cons (by rfl) ?_ ?_; exact ⟨rfl, fun vs M u hO _ K hK => by (refine wp_alloc_own hO rfl rfl fun b u hO => ?_; exact hK _ _ _ (show J.fresh 29 [.int .i64 0, .slice none 0 0, .slice none 0 0, .slice none 0 0, .slice none 0 0, .slice none 0 0, .int .i64 0, .int .i64 0] _ from ⟨b, rfl⟩) hO)⟩; refine J.Each.cons (by rfl) ?_ ?_; exact ⟨rfl, fun vs M u hO _ K hK => by (refine wp_alloc_own hO rfl rfl fun b u hO => ?_; exact hK _ _ _ (show J.fresh 29 [.int .i64 0, .slice none 0 0, .slice none 0 0, .slice none 0 0, .slice none 0 0, .slice none 0 0, .int .i64 0, .int .i64 0] _ from ⟨b, rfl⟩) hO)⟩; exact J.Each.nil
  intro vs u hO hF
  obtain ⟨Ci, Cp, Cn, Cc, Cl, ri, rp, rn, rc, rl', F1, h1, hvo1⟩ : (J.freshC pk pl [] [] [] [] 0 0) (vs 1) := hF 1 (by decide)
  obtain ⟨Di, Dp, Dn, Dc, Dl, si, sp, sn, sc, sl, F2, h3, hvo2⟩ : (J.freshC rk rl [] [] [] [] 0 0) (vs 3) := hF 3 (by decide)
  obtain ⟨b4, h4⟩ : J.fresh _ _ (vs 4) := hF 4 (by decide)
  obtain ⟨b5, h5⟩ : J.fresh _ _ (vs 5) := hF 5 (by decide)
  clear hF
  simp only [List.flatMap_cons, List.flatMap_nil, h1, h3, h4, h5, List.append_nil, zL, zK] at hO
  simp only [h1, h3, h4, h5, J.putL, zI, zG, zH, J.dstOf, zF, zD, zE, zS, zQ, zR, Act.put, zA, zB, zC]
  clear h1 h3 h4 h5 vs
  refine J.wpAny_one (i := 6) (by kernel_rfl) (by rfl) rfl fun K hK => ?_
  (refine wp_store_box hO rfl rfl _ (by exact at6) rfl (by rfl) (by rfl) (by rfl) (by rfl) (by rfl) ?_; clear hO; intro u hO; simp only [zC, zB] at hO; refine hK _ _ ?_; clear hK K)
  refine J.wpAny_one (i := 7) (by kernel_rfl) (by rfl) rfl fun K hK => ?_
  (refine wp_store_box hO rfl rfl _ (by exact at7) rfl (by rfl) (by rfl) (by rfl) (by rfl) (by rfl) ?_; clear hO; intro u hO; simp only [zC, zB] at hO; refine hK _ _ ?_; clear hK K)
  refine wpAny_done (by kernel_rfl) ?_ _
  go_wp2_with (first
    | ((with_reducible refine wpl_load ?_); refine wpList_load_box rfl (by rfl) hO rfl _ (by exact at6) (by rfl) (by simp only [Act.put, zA, zB, zC]; rfl) ?_)
    | ((with_reducible refine wpl_load ?_); refine wpList_load_field rfl (by rfl) hO rfl _ (by (first | exact at6 | exact at7 | fail)) (by rfl) (by simp only [Act.put, zA, zB, zC]; rfl) ?_)
    | fail)
  refine (CP _ _ (hO.rdp 4 rfl hvo1)).mono ?_
  rintro e9 u ⟨Q31, Q32, Q33, Q34, Q35, m31, m32, m33, m34, m35, F3, rfl, hvo3, hb⟩
  replace hO := hO.call hb
  clear hb CP
  simp only [List.cons_append, List.nil_append] at hO
  go_wp2_with (first
    | ((with_reducible refine wpl_alloc ?_); refine wpList_alloc_own rfl (by rfl) hO rfl (fun b => by simp only [Act.put, zA, zB, zC]; rfl) ?_; (refine nm 9 rfl ?_; clear hO; intro b9 u hO); simp only [zL, zK] at hO)
    | ((with_reducible refine wpl_load ?_); refine wpList_load_box rfl (by rfl) hO rfl _ (by exact at8) (by rfl) (by simp only [Act.put, zA, zB, zC]; rfl) ?_)
    | ((with_reducible refine wpl_store ?_); refine wpList_store_box rfl (by rfl) hO rfl _ (by exact at9) (by simp only [Act.eval, zJ, zF, zD, zE, zP]; rfl) (by rfl) (by rfl) (by rfl) (by rfl) (by rfl) ?_; clear hO; intro u hO; simp only [zC, zB] at hO)
    | fail)
  refine (CR _ _ (hO.rdp 6 rfl hvo2)).mono ?_
  rintro e9 u ⟨Q41, Q42, Q43, Q44, Q45, m41, m42, m43, m44, m45, F4, rfl, hvo4, hb⟩
  replace hO := hO.call hb
  clear hb CR
  simp only [List.cons_append, List.nil_append] at hO
  go_wp2_with (first
    | ((with_reducible refine wpl_alloc ?_); refine wpList_alloc_own rfl (by rfl) hO rfl (fun b => by simp only [Act.put, zA, zB, zC]; rfl) ?_; (refine nm 11 rfl ?_; clear hO; intro b11 u hO); simp only [zL, zK] at hO)
    | ((with_reducible refine wpl_load ?_); refine wpList_load_field rfl (by rfl) hO rfl _ (by exact at2) (by rfl) (by simp only [Act.put, zA, zB, zC]; rfl) ?_)
    | ((with_reducible refine wpl_store ?_); refine wpList_store_box rfl (by rfl) hO rfl _ (by exact at11) (by simp only [Act.eval, zJ, zF, zD, zE, zP]; rfl) (by rfl) (by rfl) (by rfl) (by rfl) (by rfl) ?_; clear hO; intro u hO; simp only [zC, zB] at hO)
    | fail)
  refine (S _ hO.below).mono ?_
  rintro e u ⟨N', d', rfl, hb⟩
  replace hO := hO.call hb
  clear hb
  simp only [zK, zL] at hO
  go_wp2_with (first
    | ((with_reducible refine wpl_alloc ?_); refine wpList_alloc_own rfl (by rfl) hO rfl (fun b => by simp only [Act.put, zA, zB, zC]; rfl) ?_; (refine nm 13 rfl ?_; clear hO; intro b13 u hO); simp only [zL, zK] at hO)
    | ((with_reducible refine wpl_load ?_); refine wpList_load_field rfl (by rfl) hO rfl _ (by exact at3) (by rfl) (by simp only [Act.put, zA, zB, zC]; rfl) ?_)
    | ((with_reducible refine wpl_store ?_); refine wpList_store_box rfl (by rfl) hO rfl _ (by exact at13) (by simp only [Act.eval, zJ, zF, zD, zE, zP]; rfl) (by rfl) (by rfl) (by rfl) (by rfl) (by rfl) ?_; clear hO; intro u hO; simp only [zC, zB] at hO)
    | fail)
  replace hO := hO.pick [1, 2, 0, 3, 6, 11, 12, 13] (by decide)
  simp only [zN, zO, zE, zD] at hO
  skip
  replace hO := hO.addNil 83 3
  simp only [List.cons_append, List.nil_append] at hO
  go_loopw [83] (fun i u => ∃ (m : Nat) (A' : Option Addr) (c' : Nat), m ≤ js.length ∧ i = .int .i64 m ∧ Own w [pack F4, pack F3, row 9 1 (.slice N' jn.length d') jn.length (stc jn), box b0 29 [.int .i64 j, .slice Ji js.length gi, .slice Jp jp.length gp, .slice Jn jn.length gn, .slice Jc jc.length gc, .slice Jl jl.length gl, .int .i64 jo, .int .i64 je], box b3 29 [.int .i64 0, .slice none 0 0, .slice none 0 0, .slice none 0 0, .slice none 0 0, .slice none 0 0, .int .i64 0, .int .i64 0], box b9 29 [.int .i64 K, .slice Q31 xl.length m31, .slice Q32 0 m32, .slice Q33 0 m33, .slice Q34 0 m34, .slice Q35 0 m35, .int .i64 0, .int .i64 0], box b11 29 [.int .i64 K, .slice Q41 yl.length m41, .slice Q42 0 m42, .slice Q43 0 m43, .slice Q44 0 m44, .slice Q45 0 m45, .int .i64 0, .int .i64 0], box b13 29 [.int .i64 K, .slice A' m c', .slice none 0 0, .slice N' jn.length d', .slice none 0 0, .slice none 0 0, .int .i64 0, .int .i64 0], row 83 3 (.slice A' m c') m (itc (chL js xl yl m))] u) (fun i _ => js.length - (intOf i).toNat)
  case atStart => exact ⟨0, none, 0, Nat.zero_le _, rfl, hO⟩
  case round =>
    clear hO
    obtain ⟨m, A', c', hm, rfl, hO⟩ := hrel
    by_cases hlt : m < js.length
    · have n1 : ¬ xl.length = 0 := by omega
      have n2 : ¬ yl.length = 0 := by omega
      obtain ⟨ja, hja⟩ : ∃ j, m % xl.length = j := ⟨_, rfl⟩
      obtain ⟨jb, hjb⟩ : ∃ j, m % yl.length = j := ⟨_, rfl⟩
      have a1 : ja < xl.length := by rw [← hja]; exact Nat.mod_lt _ lx0
      have a2 : jb < yl.length := by rw [← hjb]; exact Nat.mod_lt _ ly0
      have m1 : (m : Int) % (xl.length : Int) = (ja : Int) := by rw [← Int.natCast_emod, hja]
      have m2 : (m : Int) % (yl.length : Int) = (jb : Int) := by rw [← Int.natCast_emod, hjb]
      have c1 : (ja : Int) < (xl.length : Int) := by omega
      have c2 : (jb : Int) < (yl.length : Int) := by omega
      have HSS : Hid (itc (chL js xl yl (m + 1)) = itc (chL js xl yl m) ++ itc1 (chF (trI js[m]) xl[ja] yl[jb])) := Lib.hid (by rw [chL_succ hlt hja a1 hjb a2, itc_app]; simp [itc])
      obtain ⟨x, hx⟩ : ∃ x, xl[ja] = x := ⟨_, rfl⟩
      obtain ⟨y, hy⟩ : ∃ y, yl[jb] = y := ⟨_, rfl⟩
      obtain ⟨s, hs⟩ : ∃ s, js[m] = s := ⟨_, rfl⟩
      obtain ⟨ba, oa, rfl, _, _⟩ := (hO.rdp 1 rfl hvo3).sli.it (Below.refl _ _) a1 hx
      obtain ⟨bc, oc, rfl, _, _⟩ := (hO.rdp 0 rfl hvo4).sli.it (Below.refl _ _) a2 hy
      obtain ⟨bt, ot, rfl, hbt, d0, d1, d2⟩ := f1.it hO.below hlt hs
      have CRa := fun u (h : Sl u 3 (some ⟨ba, oa, none⟩) xl.length (itc xl)) => Sl.itS h rfl a1 hx
      have CRb := fun u (h : Sl u 3 (some ⟨bc, oc, none⟩) yl.length (itc yl)) => Sl.itS h rfl a2 hy
      rw [hx, hy, hs] at HSS
      have CT2 := fun u => impl_truth s.num s.den s.text u
      have htc := tr_cases s
      replace CT2 : ∀ u : World, Calls Try.prog 116 #[.agg #[.int .i64 s.num, .int .i64 s.den, .string s.text]] u fun e w' => e = .returned (.int .i64 (trI s)) ∧ Below u.heap.size u w' := CT2
      obtain ⟨tv, htv⟩ : ∃ t, trI s = t := ⟨_, rfl⟩
      rw [htv] at CT2 HSS htc
      obtain ⟨xn, xd, xt⟩ := x
      obtain ⟨yn, yd, yt⟩ := y
      obtain ⟨sn', sd', st'⟩ := s
      simp only at CRa CRb CT2 d0 d1 d2
      clear hja hjb hx hy hs htv
      rcases htc with rfl | rfl | rfl
      · rw [show chF 0 ⟨xn, xd, xt⟩ ⟨yn, yd, yt⟩ = ⟨yn, yd, yt⟩ from rfl] at HSS
        simp only [itc1] at HSS
        go_wp2_with (first
          | ((with_reducible refine (CT2 _).mono ?_); rintro e u ⟨rfl, hb⟩; (replace hO := hO.step hb; clear hb))
          | ((with_reducible refine wpl_alloc ?_); refine wpList_alloc_own rfl (by rfl) hO rfl (fun b => by simp only [Act.put, zA, zB, zC]; rfl) ?_; (refine nm 9 rfl ?_; clear hO; intro b9 u hO); simp only [zL, zK] at hO)
          | ((with_reducible refine wpl_load ?_); refine wpList_load_box rfl (by rfl) hO rfl _ (by (first | exact at3 | exact at9 | fail)) (by rfl) (by simp only [Act.put, zA, zB, zC]; rfl) ?_)
          | ((with_reducible refine wpl_store ?_); refine wpList_store_box rfl (by rfl) hO rfl _ (by exact at9) (by simp only [Act.eval, zJ, zF, zD, zE, zP]; rfl) (by rfl) (by rfl) (by rfl) (by rfl) (by rfl) ?_; clear hO; intro u hO; simp only [zC, zB] at hO)
          | fail)
        clear d0 d1 d2
        refine J.wp_region_c (n := 130) [0, 1, 2, 3, 4, 5, 6, 7, 8, 9, 10] [11] (deps := fun i => [[], [0], [], [2], [], [], [5], [5, 6], [4, 5, 6, 7], [2, 3, 4, 5, 6, 7, 8], [2, 3, 4, 5, 6, 7, 8, 9], [2, 3, 4, 5, 6, 7, 8, 9, 10], [], [], []].getD i []) (fun _ _ => (J.freshS 83 [.int .i64 yn, .int .i64 yd, .string yt])) (r := 3) (lst := #[true, true, true, true, true, true, true, true, true, true, true, true, false, false, false]) (by kernel_rfl) (by kernel_rfl) (by kernel_rfl) rfl (by decide) (by kernel_rfl) hO ?_
        refine J.Chain.cons (by rfl) (by rfl) (fun M u hO K hK => by (simp only [wp_at_zero, wp_at_succ]; go_step; exact hK _ hO)) (by simp only [J.putL, zI, zG, zH, J.dstOf, zF, zD, zE, zS, zQ, zR, Act.put, zA, zB, zC]; rfl) ?_
        refine J.Chain.cons (by rfl) (by rfl) (fun M u hO K hK => by (exact wp_load_field hO rfl rfl _ (by exact at7) (by rfl) (by rfl) (hK _ hO))) (by simp only [J.putL, zI, zG, zH, J.dstOf, zF, zD, zE, zS, zQ, zR, Act.put, zA, zB, zC]; rfl) ?_
        refine J.Chain.cons (by rfl) (by rfl) (fun M u hO K hK => by (simp only [wp_at_zero, wp_at_succ]; go_step; exact hK _ hO)) (by simp only [J.putL, zI, zG, zH, J.dstOf, zF, zD, zE, zS, zQ, zR, Act.put, zA, zB, zC]; rfl) ?_
        refine J.Chain.cons (by rfl) (by rfl) (fun M u hO K hK => by (exact wp_load_field hO rfl rfl _ (by exact at6) (by rfl) (by rfl) (hK _ hO))) (by simp only [J.putL, zI, zG, zH, J.dstOf, zF, zD, zE, zS, zQ, zR, Act.put, zA, zB, zC]; rfl) ?_
        refine J.Chain.cons (by rfl) (by rfl) (fun M u hO K hK => by (simp only [wp_at_zero, wp_at_succ]; go_step; exact hK _ hO)) (by simp only [J.putL, zI, zG, zH, J.dstOf, zF, zD, zE, zS, zQ, zR, Act.put, zA, zB, zC]; rfl) ?_
        refine J.Chain.cons (by rfl) (by rfl) (fun M u hO K hK => by (simp only [wp_at_zero, wp_at_succ]; go_step; exact hK _ hO)) (by simp only [J.putL, zI, zG, zH, J.dstOf, zF, zD, zE, zS, zQ, zR, Act.put, zA, zB, zC]; rfl) ?_
        refine J.Chain.cons (by rfl) (by rfl) (fun M u hO K hK => by (exact wp_load_field hO rfl rfl _ (by exact at6) (by rfl) (by rfl) (hK _ hO))) (by simp only [J.putL, zI, zG, zH, J.dstOf, zF, zD, zE, zS, zQ, zR, Act.put, zA, zB, zC]; rfl) ?_
        refine J.Chain.cons (by rfl) (by rfl) (fun M u hO K hK => by (simp only [wp_at_zero, wp_at_succ]; go_step; exact hK _ hO)) (by simp only [J.putL, zI, zG, zH, J.dstOf, zF, zD, zE, zS, zQ, zR, Act.put, zA, zB, zC]; rfl) ?_
        refine J.Chain.cons (by rfl) (by rfl) (fun M u hO K hK => by (simp only [wp_at_zero, wp_at_succ]; go_step; exact hK _ hO)) (by simp only [J.putL, zI, zG, zH, J.dstOf, zF, zD, zE, zS, zQ, zR, Act.put, zA, zB, zC]; rfl) ?_
        refine J.Chain.cons (by rfl) (by rfl) (fun M u hO K hK => by (simp only [wp_at_zero, wp_at_succ]; go_step; exact hK _ hO)) (by simp only [J.putL, zI, zG, zH, J.dstOf, zF, zD, zE, zS, zQ, zR, Act.put, zA, zB, zC]; rfl) ?_
        refine J.Chain.cons (by rfl) (by rfl) (fun M u hO K hK => by ((have f2 := CRb _ (hO.rdp 0 rfl hvo4).sli; obtain ⟨e3, e4, e5⟩ := f2; simp only [wp_at_zero, wp_at_succ]; go_step; exact hK _ hO))) (by simp only [J.putL, zI, zG, zH, J.dstOf, zF, zD, zE, zS, zQ, zR, Act.put, zA, zB, zC]; rfl) ?_
        refine J.Chain.nil ⟨?_, ?_⟩
        · refine J.Each.cons (by rfl) ?_ ?_; exact ⟨rfl, fun vs M u hO _ K hK => by (refine wp_build_one (cs := [.int .i64 yn, .int .i64 yd, .string yt]) hO rfl (by simp only [Act.eval, zJ, zP, J.putL, zI, zG, zH, J.dstOf, zF, zD, zE, zS, zQ, zR, Act.put, zA, zB, zC]; rfl) rfl rfl (zM rfl) rfl fun b u hO => ?_; exact hK _ _ _ (show (J.freshS 83 [.int .i64 yn, .int .i64 yd, .string yt]) _ from ⟨b, rfl⟩) hO)⟩; exact J.Each.nil
        intro vs u hO hF
        obtain ⟨b10, h11⟩ : J.freshS _ _ (vs 11) := hF 11 (by decide)
        clear hF
        simp only [List.flatMap_cons, List.flatMap_nil, h11, List.append_nil, zL, zK] at hO
        simp only [h11, J.putL, zI, zG, zH, J.dstOf, zF, zD, zE, zS, zQ, zR, Act.put, zA, zB, zC]
        clear h11 vs
        refine J.wpAny_one (i := 12) (by kernel_rfl) (by rfl) rfl fun K hK => ?_
        refine wp_append_box hO rfl rfl rfl _ (by exact at8) _ (by exact at10) (by rfl) (by simp [Value.oneCell']) (by omega) (by omega) rfl ?_
        clear hO
        intro A' c' u hO
        simp only [zC, zB] at hO
        simp only [Act.put, zA, zB, zC]
        refine hK _ _ ?_
        clear hK K
        refine J.wpAny_one (i := 13) (by kernel_rfl) (by rfl) rfl fun K hK => ?_
        simp only [wp_at_zero, wp_at_succ]
        go_step
        refine hK _ _ ?_
        clear hK K
        refine J.wpAny_one (i := 14) (by kernel_rfl) (by rfl) rfl fun K hK => ?_
        (refine wp_store_field hO rfl rfl _ (by exact at7) (zM rfl) (by simp only [Act.eval, zJ, zF, zD, zE, zP]; rfl) (by rfl) (by rfl) (by rfl) ?_; clear hO; intro u hO; simp only [zC, zB] at hO; refine hK _ _ ?_; clear hK K)
        refine wpAny_done (by kernel_rfl) ?_ _
        go_wp2_with (first
          | (with_reducible refine stop_ret ?_)
          | ((with_reducible refine wpl_alloc ?_); refine wpList_alloc_own rfl (by rfl) hO rfl (fun b => by simp only [Act.put, zA, zB, zC]; rfl) ?_; (first | (refine nm 0 rfl ?_; clear hO; intro b0 u hO) | (refine nm 1 rfl ?_; clear hO; intro b1 u hO) | (refine nm 2 rfl ?_; clear hO; intro b2 u hO) | (refine nm 3 rfl ?_; clear hO; intro b3 u hO) | (refine nm 4 rfl ?_; clear hO; intro b4 u hO) | (refine nm 5 rfl ?_; clear hO; intro b5 u hO) | (refine nm 6 rfl ?_; clear hO; intro b6 u hO) | (refine nm 7 rfl ?_; clear hO; intro b7 u hO) | (refine nm 8 rfl ?_; clear hO; intro b8 u hO) | (refine nm 9 rfl ?_; clear hO; intro b9 u hO)); simp only [zL, zK] at hO)
          | ((with_reducible refine wpl_box ?_); refine wpList_box_own rfl (by rfl) hO rfl rfl (fun b => by simp only [Act.put, zA, zB, zC]; rfl) ?_; (first | (refine nm 0 rfl ?_; clear hO; intro b0 u hO) | (refine nm 1 rfl ?_; clear hO; intro b1 u hO) | (refine nm 2 rfl ?_; clear hO; intro b2 u hO) | (refine nm 3 rfl ?_; clear hO; intro b3 u hO) | (refine nm 4 rfl ?_; clear hO; intro b4 u hO) | (refine nm 5 rfl ?_; clear hO; intro b5 u hO) | (refine nm 6 rfl ?_; clear hO; intro b6 u hO) | (refine nm 7 rfl ?_; clear hO; intro b7 u hO) | (refine nm 8 rfl ?_; clear hO; intro b8 u hO) | (refine nm 9 rfl ?_; clear hO; intro b9 u hO)); simp only [zL, zK] at hO)
          | ((with_reducible refine wpl_load ?_); refine wpList_load_box rfl (by (first | rfl | (simp only [Region.wanted, yielded, *]; go_simp; done) | (simp [Region.wanted, yielded, *]; done) | fail)) hO rfl _ (by (first | exact at0 | exact at1 | exact at2 | exact at3 | exact at4 | exact at5 | exact at6 | exact at7 | exact at8 | exact at9)) (by rfl) (by simp only [Act.put, zA, zB, zC]; rfl) ?_)
          | ((with_reducible refine wpl_load ?_); refine wpList_load_field rfl (by (first | rfl | (simp only [Region.wanted, yielded, *]; go_simp; done) | (simp [Region.wanted, yielded, *]; done) | fail)) hO rfl _ (by (first | exact at0 | exact at1 | exact at2 | exact at3 | exact at4 | exact at5 | exact at6 | exact at7 | exact at8 | exact at9)) (by rfl) (by simp only [Act.put, zA, zB, zC]; rfl) ?_)
          | ((with_reducible refine wpl_store ?_); refine wpList_store_box rfl (by rfl) hO rfl _ (by (first | exact at0 | exact at1 | exact at2 | exact at3 | exact at4 | exact at5 | exact at6 | exact at7 | exact at8 | exact at9)) (by simp only [Act.eval, zJ, zF, zD, zE, zP]; rfl) (by rfl) (by rfl) (by rfl) (by rfl) (by rfl) ?_; clear hO; intro u hO; simp only [zC, zB] at hO)
          | ((with_reducible refine wpl_store ?_); refine wpList_store_field rfl (by rfl) hO rfl _ (by (first | exact at0 | exact at1 | exact at2 | exact at3 | exact at4 | exact at5 | exact at6 | exact at7 | exact at8 | exact at9)) (zM rfl) (by simp only [Act.eval, zJ, zF, zD, zE, zP]; rfl) (by rfl) (by rfl) (by rfl) ?_; clear hO; intro u hO; simp only [zC, zB] at hO)
          | fail)
        replace hO := hO.pick [0, 1, 2, 3, 4, 5, 6, 7, 8] (by decide)
        simp only [zN, zO, zE, zD] at hO
        rw [← HSS.out] at hO
        go_roundw
        case rel => exact ⟨m + 1, _, _, by omega, by go_num, hO⟩
        case measure => simp [intOf]; omega
      · rw [show chF 1 ⟨xn, xd, xt⟩ ⟨yn, yd, yt⟩ = ⟨xn, xd, xt⟩ from rfl] at HSS
        simp only [itc1] at HSS
        go_wp2_with (first
          | ((with_reducible refine (CT2 _).mono ?_); rintro e u ⟨rfl, hb⟩; (replace hO := hO.step hb; clear hb))
          | ((with_reducible refine wpl_alloc ?_); refine wpList_alloc_own rfl (by rfl) hO rfl (fun b => by simp only [Act.put, zA, zB, zC]; rfl) ?_; (refine nm 9 rfl ?_; clear hO; intro b9 u hO); simp only [zL, zK] at hO)
          | ((with_reducible refine wpl_load ?_); refine wpList_load_box rfl (by rfl) hO rfl _ (by (first | exact at3 | exact at9 | fail)) (by rfl) (by simp only [Act.put, zA, zB, zC]; rfl) ?_)
          | ((with_reducible refine wpl_store ?_); refine wpList_store_box rfl (by rfl) hO rfl _ (by exact at9) (by simp only [Act.eval, zJ, zF, zD, zE, zP]; rfl) (by rfl) (by rfl) (by rfl) (by rfl) (by rfl) ?_; clear hO; intro u hO; simp only [zC, zB] at hO)
          | fail)
        clear d0 d1 d2
        refine J.wp_region_c (n := 130) [0, 1, 2, 3, 4, 5, 6, 7, 8, 9, 10] [11] (deps := fun i => [[], [0], [], [2], [], [], [5], [5, 6], [4, 5, 6, 7], [2, 3, 4, 5, 6, 7, 8], [2, 3, 4, 5, 6, 7, 8, 9], [2, 3, 4, 5, 6, 7, 8, 9, 10], [], [], []].getD i []) (fun _ _ => (J.freshS 83 [.int .i64 xn, .int .i64 xd, .string xt])) (r := 3) (lst := #[true, true, true, true, true, true, true, true, true, true, true, true, false, false, false]) (by kernel_rfl) (by kernel_rfl) (by kernel_rfl) rfl (by decide) (by kernel_rfl) hO ?_
        refine J.Chain.cons (by rfl) (by rfl) (fun M u hO K hK => by (simp only [wp_at_zero, wp_at_succ]; go_step; exact hK _ hO)) (by simp only [J.putL, zI, zG, zH, J.dstOf, zF, zD, zE, zS, zQ, zR, Act.put, zA, zB, zC]; rfl) ?_
        refine J.Chain.cons (by rfl) (by rfl) (fun M u hO K hK => by (exact wp_load_field hO rfl rfl _ (by exact at7) (by rfl) (by rfl) (hK _ hO))) (by simp only [J.putL, zI, zG, zH, J.dstOf, zF, zD, zE, zS, zQ, zR, Act.put, zA, zB, zC]; rfl) ?_
        refine J.Chain.cons (by rfl) (by rfl) (fun M u hO K hK => by (simp only [wp_at_zero, wp_at_succ]; go_step; exact hK _ hO)) (by simp only [J.putL, zI, zG, zH, J.dstOf, zF, zD, zE, zS, zQ, zR, Act.put, zA, zB, zC]; rfl) ?_
        refine J.Chain.cons (by rfl) (by rfl) (fun M u hO K hK => by (exact wp_load_field hO rfl rfl _ (by exact at5) (by rfl) (by rfl) (hK _ hO))) (by simp only [J.putL, zI, zG, zH, J.dstOf, zF, zD, zE, zS, zQ, zR, Act.put, zA, zB, zC]; rfl) ?_
        refine J.Chain.cons (by rfl) (by rfl) (fun M u hO K hK => by (simp only [wp_at_zero, wp_at_succ]; go_step; exact hK _ hO)) (by simp only [J.putL, zI, zG, zH, J.dstOf, zF, zD, zE, zS, zQ, zR, Act.put, zA, zB, zC]; rfl) ?_
        refine J.Chain.cons (by rfl) (by rfl) (fun M u hO K hK => by (simp only [wp_at_zero, wp_at_succ]; go_step; exact hK _ hO)) (by simp only [J.putL, zI, zG, zH, J.dstOf, zF, zD, zE, zS, zQ, zR, Act.put, zA, zB, zC]; rfl) ?_
        refine J.Chain.cons (by rfl) (by rfl) (fun M u hO K hK => by (exact wp_load_field hO rfl rfl _ (by exact at5) (by rfl) (by rfl) (hK _ hO))) (by simp only [J.putL, zI, zG, zH, J.dstOf, zF, zD, zE, zS, zQ, zR, Act.put, zA, zB, zC]; rfl) ?_
        refine J.Chain.cons (by rfl) (by rfl) (fun M u hO K hK => by (simp only [wp_at_zero, wp_at_succ]; go_step; exact hK _ hO)) (by simp only [J.putL, zI, zG, zH, J.dstOf, zF, zD, zE, zS, zQ, zR, Act.put, zA, zB, zC]; rfl) ?_
        refine J.Chain.cons (by rfl) (by rfl) (fun M u hO K hK => by (simp only [wp_at_zero, wp_at_succ]; go_step; exact hK _ hO)) (by simp only [J.putL, zI, zG, zH, J.dstOf, zF, zD, zE, zS, zQ, zR, Act.put, zA, zB, zC]; rfl) ?_
        refine J.Chain.cons (by rfl) (by rfl) (fun M u hO K hK => by (simp only [wp_at_zero, wp_at_succ]; go_step; exact hK _ hO)) (by simp only [J.putL, zI, zG, zH, J.dstOf, zF, zD, zE, zS, zQ, zR, Act.put, zA, zB, zC]; rfl) ?_
        refine J.Chain.cons (by rfl) (by rfl) (fun M u hO K hK => by ((have f2 := CRa _ (hO.rdp 1 rfl hvo3).sli; obtain ⟨e3, e4, e5⟩ := f2; simp only [wp_at_zero, wp_at_succ]; go_step; exact hK _ hO))) (by simp only [J.putL, zI, zG, zH, J.dstOf, zF, zD, zE, zS, zQ, zR, Act.put, zA, zB, zC]; rfl) ?_
        refine J.Chain.nil ⟨?_, ?_⟩
        · refine J.Each.cons (by rfl) ?_ ?_; exact ⟨rfl, fun vs M u hO _ K hK => by (refine wp_build_one (cs := [.int .i64 xn, .int .i64 xd, .string xt]) hO rfl (by simp only [Act.eval, zJ, zP, J.putL, zI, zG, zH, J.dstOf, zF, zD, zE, zS, zQ, zR, Act.put, zA, zB, zC]; rfl) rfl rfl (zM rfl) rfl fun b u hO => ?_; exact hK _ _ _ (show (J.freshS 83 [.int .i64 xn, .int .i64 xd, .string xt]) _ from ⟨b, rfl⟩) hO)⟩; exact J.Each.nil
        intro vs u hO hF
        obtain ⟨b10, h11⟩ : J.freshS _ _ (vs 11) := hF 11 (by decide)
        clear hF
        simp only [List.flatMap_cons, List.flatMap_nil, h11, List.append_nil, zL, zK] at hO
        simp only [h11, J.putL, zI, zG, zH, J.dstOf, zF, zD, zE, zS, zQ, zR, Act.put, zA, zB, zC]
        clear h11 vs
        refine J.wpAny_one (i := 12) (by kernel_rfl) (by rfl) rfl fun K hK => ?_
        refine wp_append_box hO rfl rfl rfl _ (by exact at8) _ (by exact at10) (by rfl) (by simp [Value.oneCell']) (by omega) (by omega) rfl ?_
        clear hO
        intro A' c' u hO
        simp only [zC, zB] at hO
        simp only [Act.put, zA, zB, zC]
        refine hK _ _ ?_
        clear hK K
        refine J.wpAny_one (i := 13) (by kernel_rfl) (by rfl) rfl fun K hK => ?_
        simp only [wp_at_zero, wp_at_succ]
        go_step
        refine hK _ _ ?_
        clear hK K
        refine J.wpAny_one (i := 14) (by kernel_rfl) (by rfl) rfl fun K hK => ?_
        (refine wp_store_field hO rfl rfl _ (by exact at7) (zM rfl) (by simp only [Act.eval, zJ, zF, zD, zE, zP]; rfl) (by rfl) (by rfl) (by rfl) ?_; clear hO; intro u hO; simp only [zC, zB] at hO; refine hK _ _ ?_; clear hK K)
        refine wpAny_done (by kernel_rfl) ?_ _
        go_wp2_with (first
          | (with_reducible refine stop_ret ?_)
          | ((with_reducible refine wpl_alloc ?_); refine wpList_alloc_own rfl (by rfl) hO rfl (fun b => by simp only [Act.put, zA, zB, zC]; rfl) ?_; (first | (refine nm 0 rfl ?_; clear hO; intro b0 u hO) | (refine nm 1 rfl ?_; clear hO; intro b1 u hO) | (refine nm 2 rfl ?_; clear hO; intro b2 u hO) | (refine nm 3 rfl ?_; clear hO; intro b3 u hO) | (refine nm 4 rfl ?_; clear hO; intro b4 u hO) | (refine nm 5 rfl ?_; clear hO; intro b5 u hO) | (refine nm 6 rfl ?_; clear hO; intro b6 u hO) | (refine nm 7 rfl ?_; clear hO; intro b7 u hO) | (refine nm 8 rfl ?_; clear hO; intro b8 u hO) | (refine nm 9 rfl ?_; clear hO; intro b9 u hO)); simp only [zL, zK] at hO)
          | ((with_reducible refine wpl_box ?_); refine wpList_box_own rfl (by rfl) hO rfl rfl (fun b => by simp only [Act.put, zA, zB, zC]; rfl) ?_; (first | (refine nm 0 rfl ?_; clear hO; intro b0 u hO) | (refine nm 1 rfl ?_; clear hO; intro b1 u hO) | (refine nm 2 rfl ?_; clear hO; intro b2 u hO) | (refine nm 3 rfl ?_; clear hO; intro b3 u hO) | (refine nm 4 rfl ?_; clear hO; intro b4 u hO) | (refine nm 5 rfl ?_; clear hO; intro b5 u hO) | (refine nm 6 rfl ?_; clear hO; intro b6 u hO) | (refine nm 7 rfl ?_; clear hO; intro b7 u hO) | (refine nm 8 rfl ?_; clear hO; intro b8 u hO) | (refine nm 9 rfl ?_; clear hO; intro b9 u hO)); simp only [zL, zK] at hO)
          | ((with_reducible refine wpl_load ?_); refine wpList_load_box rfl (by (first | rfl | (simp only [Region.wanted, yielded, *]; go_simp; done) | (simp [Region.wanted, yielded, *]; done) | fail)) hO rfl _ (by (first | exact at0 | exact at1 | exact at2 | exact at3 | exact at4 | exact at5 | exact at6 | exact at7 | exact at8 | exact at9)) (by rfl) (by simp only [Act.put, zA, zB, zC]; rfl) ?_)
          | ((with_reducible refine wpl_load ?_); refine wpList_load_field rfl (by (first | rfl | (simp only [Region.wanted, yielded, *]; go_simp; done) | (simp [Region.wanted, yielded, *]; done) | fail)) hO rfl _ (by (first | exact at0 | exact at1 | exact at2 | exact at3 | exact at4 | exact at5 | exact at6 | exact at7 | exact at8 | exact at9)) (by rfl) (by simp only [Act.put, zA, zB, zC]; rfl) ?_)
          | ((with_reducible refine wpl_store ?_); refine wpList_store_box rfl (by rfl) hO rfl _ (by (first | exact at0 | exact at1 | exact at2 | exact at3 | exact at4 | exact at5 | exact at6 | exact at7 | exact at8 | exact at9)) (by simp only [Act.eval, zJ, zF, zD, zE, zP]; rfl) (by rfl) (by rfl) (by rfl) (by rfl) (by rfl) ?_; clear hO; intro u hO; simp only [zC, zB] at hO)
          | ((with_reducible refine wpl_store ?_); refine wpList_store_field rfl (by rfl) hO rfl _ (by (first | exact at0 | exact at1 | exact at2 | exact at3 | exact at4 | exact at5 | exact at6 | exact at7 | exact at8 | exact at9)) (zM rfl) (by simp only [Act.eval, zJ, zF, zD, zE, zP]; rfl) (by rfl) (by rfl) (by rfl) ?_; clear hO; intro u hO; simp only [zC, zB] at hO)
          | fail)
        replace hO := hO.pick [0, 1, 2, 3, 4, 5, 6, 7, 8] (by decide)
        simp only [zN, zO, zE, zD] at hO
        rw [← HSS.out] at hO
        go_roundw
        case rel => exact ⟨m + 1, _, _, by omega, by go_num, hO⟩
        case measure => simp [intOf]; omega
      · rw [show chF 2 ⟨xn, xd, xt⟩ ⟨yn, yd, yt⟩ = ⟨0, 0, ⟨#[]⟩⟩ from rfl] at HSS
        simp only [itc1] at HSS
        go_wp2_with (first
          | ((with_reducible refine (CT2 _).mono ?_); rintro e u ⟨rfl, hb⟩; (replace hO := hO.step hb; clear hb))
          | ((with_reducible refine wpl_alloc ?_); refine wpList_alloc_own rfl (by rfl) hO rfl (fun b => by simp only [Act.put, zA, zB, zC]; rfl) ?_; (refine nm 9 rfl ?_; clear hO; intro b9 u hO); simp only [zL, zK] at hO)
          | ((with_reducible refine wpl_load ?_); refine wpList_load_box rfl (by rfl) hO rfl _ (by (first | exact at3 | exact at9 | fail)) (by rfl) (by simp only [Act.put, zA, zB, zC]; rfl) ?_)
          | ((with_reducible refine wpl_load ?_); refine wpList_load_field rfl (by rfl) hO rfl _ (by exact at7) (by rfl) (by simp only [Act.put, zA, zB, zC]; rfl) ?_)
          | ((with_reducible refine wpl_store ?_); refine wpList_store_box rfl (by rfl) hO rfl _ (by exact at9) (by simp only [Act.eval, zJ, zF, zD, zE, zP]; rfl) (by rfl) (by rfl) (by rfl) (by rfl) (by rfl) ?_; clear hO; intro u hO; simp only [zC, zB] at hO)
          | ((with_reducible refine wpl_store ?_); refine wpList_store_field rfl (by rfl) hO rfl _ (by exact at7) (zM rfl) (by simp only [Act.eval, zJ, zF, zD, zE, zP]; rfl) (by rfl) (by rfl) (by rfl) ?_; clear hO; intro u hO; simp only [zC, zB] at hO)
          | ((with_reducible refine wpl_build ?_); refine wpList_build_one (cs := [.int .i64 0, .int .i64 0, .string ⟨#[]⟩]) hO rfl (by rfl) (by simp only [Act.eval, zJ, zF, zD, zE, zP]; rfl) rfl rfl (zM rfl) rfl (fun b => by simp only [Act.put, zA, zB, zC]; rfl) ?_; clear hO; intro bb u hO; simp only [zL, zK] at hO)
          | ((with_reducible refine wpl_append ?_); refine wpList_append_box hO rfl (by rfl) rfl rfl _ (by exact at8) _ (by exact at10) (by rfl) (by simp [Value.oneCell']) (by omega) (by omega) rfl (fun A' c' => by simp only [Act.put, zA, zB, zC]; rfl) ?_; clear hO; intro A' c' u hO; simp only [zC, zB] at hO)
          | fail)
        clear d0 d1 d2
        replace hO := hO.pick [0, 1, 2, 3, 4, 5, 6, 7, 8] (by decide)
        simp only [zN, zO, zE, zD] at hO
        rw [← HSS.out] at hO
        go_roundw
        case rel => exact ⟨m + 1, _, _, by omega, by go_num, hO⟩
        case measure => simp [intOf]; omega
    · have hmn : m = js.length := by omega
      subst hmn
      have HN : Hid (js.length = (chL js xl yl js.length).length) := Lib.hid (chL_len _ _ _ _).symm
      go_wp2_with (first
        | (with_reducible refine stop_ret ?_)
        | ((with_reducible refine wpl_load ?_); refine wpList_load_box rfl (by rfl) hO rfl _ (by exact at7) (by rfl) (by simp only [Act.put, zA, zB, zC]; rfl) ?_)
        | ((with_reducible refine wpl_store ?_); refine wpList_store_box rfl (by rfl) hO rfl _ (by exact at4) (by simp only [Act.eval, zJ, zF, zD, zE, zP]; rfl) (by rfl) (by rfl) (by rfl) (by rfl) (by rfl) ?_; clear hO; intro u hO; simp only [zC, zB] at hO)
        | fail)
      have hR := hO.pick [8, 2] (by decide)
      simp only [List.filterMap_cons, List.filterMap_nil, List.getElem?_cons_zero, List.getElem?_cons_succ] at hR
      have hq := HN.out
      refine ⟨ret_box2 rfl hO rfl 4 at4 rfl rfl rfl ?_⟩
      clear hO
      obtain ⟨LL, hLL⟩ : ∃ L, chL js xl yl js.length = L := ⟨_, rfl⟩
      rw [hLL] at hR hq HF
      rw [hq] at hR ⊢
      obtain ⟨F, hvo, hF⟩ := Own.vecN hR K
      exact ⟨_, _, by rw [HG.out]; rfl, by rw [HF.out]; exact hvo, hF⟩

end Go.Proofs.Ytmofcbpabdbjlaa
