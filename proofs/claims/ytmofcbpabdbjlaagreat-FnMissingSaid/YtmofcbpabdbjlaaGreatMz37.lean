/-
  What is proved: what the reference's CompareVectors returns.
  Condition: vectors of size at most 1048576.
-/
import Derived.Test.YtmofcbpabdbjlaaGreatMz4
import Derived.Test.YtmofcbpabdbjlaaGreatMz13
import Derived.Test.YtmofcbpabdbjlaaGreatMz16
import Derived.Test.YtmofcbpabdbjlaaGreatMz36
namespace Go.Proofs.YtmofcbpabdbjlaaGreat

set_option maxRecDepth 8000

open Go.RowKit Go.ChangeShapes Go.WideShapes Go.Deep

set_option linter.unusedVariables false

set_option linter.unusedSimpArgs false

theorem Sl.it2 {u : World} {b off n : Nat} {l : List It} (h : Sl u 3 (some ⟨b, off, none⟩) n (itc l)) {i : Nat} (hn : l.length = n) (hi : i < l.length) {x : It} (hx : l[i]'hi = x) : u.cell? ⟨b, off + i * 3, none⟩ = some (.int .i64 x.num) ∧ u.cell? ⟨b, off + i * 3 + 1, none⟩ = some (.int .i64 x.den) ∧ u.cell? ⟨b, off + i * 3 + 2, none⟩ = some (.string x.text) := by
  subst hn
  obtain ⟨b', off', e, _, d0⟩ := h.it (Below.refl _ _) hi hx
  simp only [Option.some.injEq, Addr.mk.injEq, and_true] at e
  obtain ⟨rfl, rfl⟩ := e
  exact d0

theorem isV_lensD {t : VT} (h : isV t = true) : t.items.length ≤ 40 ∧ (t.names.length = 0 ∨ t.names.length = lenV t) ∧ 0 ≤ t.kind ∧ lenV t ≤ 40 ∧ (t.parts.length = 0 ∨ t.kind = 4) := by
  obtain ⟨k, is, ps, ns, cs, ls, c, e⟩ := t
  have hf := isV_facts h
  exact ⟨isV_items h, hf.2.2.1, hf.1.1, hf.2.1, hf.2.2.2.2.1⟩

def cmOps : List ByteArray := [⟨#[61, 61]⟩, ⟨#[33, 61]⟩, ⟨#[60]⟩, ⟨#[60, 61]⟩, ⟨#[62]⟩, ⟨#[62, 61]⟩]

theorem has_cm (op : ByteArray) : decide (0 ≤ findS cmOps op) = decide (cK op < 6) := by
  rw [find_any]
  have hc : ∀ l : List UInt8, (l == op.toList) = (op.toList == l) := fun l => BEq.comm
  have e : cmOps = ([[61, 61], [33, 61], [60], [60, 61], [62], [62, 61]] : List (List UInt8)).map fun l => (⟨l.toArray⟩ : ByteArray) := rfl
  have hl : (cmOps.any fun x => x.toList == op.toList) = ((op.toList == [61, 61]) || ((op.toList == [33, 61]) || ((op.toList == [60]) || ((op.toList == [60, 61]) || ((op.toList == [62]) || ((op.toList == [62, 61]) || false)))))) := by
    rw [e, List.any_map]
    simp only [Function.comp_def, toList_mk, hc]
    rfl
  rw [hl]
  rcases cK_cases op with ⟨o0, hk⟩ | ⟨o0, o1, hk⟩ | ⟨o0, o1, o2, hk⟩ | ⟨o0, o1, o2, o3, hk⟩ | ⟨o0, o1, o2, o3, o4, hk⟩ | ⟨o0, o1, o2, o3, o4, o5, hk⟩ | ⟨o0, o1, o2, o3, o4, o5, hk⟩ <;> rw [hk] <;> simp only [*] <;> rfl

/-- the reference's number for two items -/
def cqF (op : ByteArray) (ka fa fb : Int) (x y : It) : Int := hldI op (ordI ka (cvI fa ka x) (cvI fb ka y))

theorem atI_map {f : It → It} {l : List It} {i : Nat} (h : 0 < l.length) : atI (l.map f) i = f (atI l i) := by
  have e1 : i % l.length < l.length := Nat.mod_lt _ h
  rw [atI_eq (j := i % l.length) (by rw [List.length_map]) (by rw [List.length_map]; exact e1), List.getElem_map, atI_eq rfl e1]

theorem atI_mem {l : List It} {i : Nat} (h : 0 < l.length) : atI l i ∈ l := by
  have e1 : i % l.length < l.length := Nat.mod_lt _ h
  rw [atI_eq rfl e1]
  exact List.getElem_mem e1

theorem cq_list {op : ByteArray} {fa fb K : Int} {la lb : List It} {n : Nat} (hn : 0 < n → 0 < la.length ∧ 0 < lb.length) (ha : ∀ x ∈ la, itemB fa x = true) (hb : ∀ x ∈ lb, itemB fb x = true) (hK : K = if fa = 3 ∨ fb = 3 then 3 else 2) (a3 : fa ≤ 3) (b3 : fb ≤ 3) (a0 : 0 ≤ fa) (b0 : 0 ≤ fb) :
    (pwL (atI la) (atI lb) (cqF op (max fa fb) fa fb) n).map lgI = pwL (atI (la.map (cvI fa K))) (atI (lb.map (cvI fb K))) (cpF op K) n := by
  unfold pwL
  rw [List.map_map]
  refine List.map_congr_left fun i hi => ?_
  obtain ⟨h1, h2⟩ := hn (by have := List.mem_range.1 hi; omega)
  show lgI (cqF op (max fa fb) fa fb (atI la i) (atI lb i)) = cpF op K (atI (la.map (cvI fa K)) i) (atI (lb.map (cvI fb K)) i)
  rw [atI_map h1, atI_map h2]
  exact cmp_item (ha _ (atI_mem h1)) (hb _ (atI_mem h2)) rfl hK a3 b3 a0 b0

theorem ints_snocC (a : List Int) (z : Int) : ints (a ++ [z]) = ints a ++ [.int .i64 z] := by simp [ints]

set_option maxRecDepth 20000 in
set_option maxHeartbeats 8000000 in
theorem spec_cm (op : ByteArray) (ta tb : VT) (va vb : List Value) (w : World) (ha : RdV w ta va) (hb : RdV w tb vb) (hza : szV ta ≤ 1048576) (hzb : szV tb ≤ 1048576) : Calls Tryz.prog 9 #[.string op, .agg va.toArray, .agg vb.toArray] w (RetVS (cmT op ta tb) (cmS op ta tb) w) := by
  have CA := fun u (h : Below w.heap.size w u) => spec_isVec ta _ u (ha.grow h) hza
  have CB := fun u (h : Below w.heap.size w u) => spec_isVec tb _ u (hb.grow h) hzb
  have CX := fun u (h : Below w.heap.size w u) (hV : isV ta = true) (h3 : ta.kind ≤ 3) => (spec_plain ta _ u (ha.grow h) hV h3).mono fun e' w' h => RetV.exC (xk := plK ta) (xi := plL ta) (xp := []) (xn := []) (xc := []) (xl := []) (xo := 0) (xe := 0) h
  have CY := fun u (h : Below w.heap.size w u) (hV : isV tb = true) (h3 : tb.kind ≤ 3) => (spec_plain tb _ u (hb.grow h) hV h3).mono fun e' w' h => RetV.exC (xk := plK tb) (xi := plL tb) (xp := []) (xn := []) (xc := []) (xl := []) (xo := 0) (xe := 0) h
  have KA : Hid (isV ta = true → ta.items.length ≤ 40 ∧ (ta.names.length = 0 ∨ ta.names.length = lenV ta) ∧ 0 ≤ ta.kind ∧ lenV ta ≤ 40 ∧ (ta.parts.length = 0 ∨ ta.kind = 4)) := Lib.hid (fun h => isV_lensD h)
  have KB : Hid (isV tb = true → tb.items.length ≤ 40 ∧ (tb.names.length = 0 ∨ tb.names.length = lenV tb) ∧ 0 ≤ tb.kind ∧ lenV tb ≤ 40 ∧ (tb.parts.length = 0 ∨ tb.kind = 4)) := Lib.hid (fun h => isV_lensD h)
  have PA : Hid (isV ta = true → ta.kind ≤ 3 → (0 ≤ plK ta ∧ plK ta ≤ 3) ∧ (∀ x ∈ plL ta, itemB (plK ta) x = true) ∧ (plL ta).length = ta.items.length ∧ szV (.mk (plK ta) (plL ta) [] [] [] [] 0 0) ≤ 1048576) := Lib.hid (fun h h3 => ⟨plK_bd h h3, pl_item h, pl_len ta, pl_sz h⟩)
  have PB : Hid (isV tb = true → tb.kind ≤ 3 → (0 ≤ plK tb ∧ plK tb ≤ 3) ∧ (∀ x ∈ plL tb, itemB (plK tb) x = true) ∧ (plL tb).length = tb.items.length ∧ szV (.mk (plK tb) (plL tb) [] [] [] [] 0 0) ≤ 1048576) := Lib.hid (fun h h3 => ⟨plK_bd h h3, pl_item h, pl_len tb, pl_sz h⟩)
  have HT : Hid (cmT op ta tb = if isV ta && isV tb then (if cK op < 6 then (if ta.kind ≤ 3 ∧ tb.kind ≤ 3 then (if recB ta.items.length tb.items.length then cmW op ta tb else vecI 0 []) else vecI 0 []) else vecI 0 []) else vecI 0 []) := Lib.hid rfl
  have HS : Hid (cmS op ta tb = if isV ta && isV tb then (if cK op < 6 then (if ta.kind ≤ 3 ∧ tb.kind ≤ 3 then (if recB ta.items.length tb.items.length then ⟨#[]⟩ else difS) else notAtS) else unkS) else badS) := Lib.hid rfl
  have HW : Hid (cmW op ta tb = vecN 1 (pwL (atI ((plL ta).map (cvI (plK ta) (if plK ta = 3 ∨ plK tb = 3 then 3 else 2)))) (atI ((plL tb).map (cvI (plK tb) (if plK ta = 3 ∨ plK tb = 3 then 3 else 2)))) (cpF op (if plK ta = 3 ∨ plK tb = 3 then 3 else 2)) (recN ta.items.length tb.items.length)) (nmQ (recN ta.items.length tb.items.length) (lenV ta) ta.names (lenV tb) tb.names)) := Lib.hid rfl
  obtain ⟨X, hX⟩ : ∃ X, cmT op ta tb = X := ⟨_, rfl⟩
  obtain ⟨Y, hY⟩ : ∃ Y, cmS op ta tb = Y := ⟨_, rfl⟩
  rw [hX] at HT
  rw [hY] at HS
  rw [hX, hY]
  obtain ⟨W, hW⟩ : ∃ W, cmW op ta tb = W := ⟨_, rfl⟩
  rw [hW] at HT HW
  obtain ⟨qa, hqa⟩ : ∃ q, isV ta = q := ⟨_, rfl⟩
  obtain ⟨qb, hqb⟩ : ∃ q, isV tb = q := ⟨_, rfl⟩
  rw [hqa] at CA CX HT HS KA PA
  rw [hqb] at CB CY HT HS KB PB
  obtain ⟨pk, hpk⟩ : ∃ q, plK ta = q := ⟨_, rfl⟩
  obtain ⟨pl, hpl⟩ : ∃ q, plL ta = q := ⟨_, rfl⟩
  obtain ⟨rk, hrk⟩ : ∃ q, plK tb = q := ⟨_, rfl⟩
  obtain ⟨rl, hrl⟩ : ∃ q, plL tb = q := ⟨_, rfl⟩
  rw [hpk, hpl] at CX PA HW
  rw [hrk, hrl] at CY PB HW
  clear hX hY hW hqa hqb hpk hpl hrk hrl
  obtain ⟨k, is, ps, ns, cs, ls, c, e⟩ := ta
  obtain ⟨k', is', ps', ns', cs', ls', c', e'⟩ := tb
  have hsa : szI is + szL ps + szS ns + szS cs + szS ls ≤ 1048576 := hza
  have hsb : szI is' + szL ps' + szS ns' + szS cs' + szS ls' ≤ 1048576 := hzb
  have ya : ns.length ≤ 1048576 := by unfold szS at hsa; omega
  have yb : ns'.length ≤ 1048576 := by unfold szS at hsb; omega
  have xa : (is.length : Int) + ps.length ≤ 9223372036854775807 := by have := szL_eq ps; unfold szI at hsa; omega
  have xb : (is'.length : Int) + ps'.length ≤ 9223372036854775807 := by have := szL_eq ps'; unfold szI at hsb; omega
  replace HT : Hid (X = if qa && qb then (if cK op < 6 then (if k ≤ 3 ∧ k' ≤ 3 then (if recB is.length is'.length then W else vecI 0 []) else vecI 0 []) else vecI 0 []) else vecI 0 []) := HT
  replace HS : Hid (Y = if qa && qb then (if cK op < 6 then (if k ≤ 3 ∧ k' ≤ 3 then (if recB is.length is'.length then ⟨#[]⟩ else difS) else notAtS) else unkS) else badS) := HS
  replace HW : Hid (W = vecN 1 (pwL (atI (pl.map (cvI pk (if pk = 3 ∨ rk = 3 then 3 else 2)))) (atI (rl.map (cvI rk (if pk = 3 ∨ rk = 3 then 3 else 2)))) (cpF op (if pk = 3 ∨ rk = 3 then 3 else 2)) (recN is.length is'.length)) (nmQ (recN is.length is'.length) (lenN k is.length ps.length) ns (lenN k' is'.length ps'.length) ns')) := HW
  replace KA : Hid (qa = true → is.length ≤ 40 ∧ (ns.length = 0 ∨ ns.length = lenN k is.length ps.length) ∧ 0 ≤ k ∧ lenN k is.length ps.length ≤ 40 ∧ (ps.length = 0 ∨ k = 4)) := KA
  replace KB : Hid (qb = true → is'.length ≤ 40 ∧ (ns'.length = 0 ∨ ns'.length = lenN k' is'.length ps'.length) ∧ 0 ≤ k' ∧ lenN k' is'.length ps'.length ≤ 40 ∧ (ps'.length = 0 ∨ k' = 4)) := KB
  replace PA : Hid (qa = true → k ≤ 3 → (0 ≤ pk ∧ pk ≤ 3) ∧ (∀ x ∈ pl, itemB pk x = true) ∧ pl.length = is.length ∧ szV (.mk pk pl [] [] [] [] 0 0) ≤ 1048576) := PA
  replace PB : Hid (qb = true → k' ≤ 3 → (0 ≤ rk ∧ rk ≤ 3) ∧ (∀ x ∈ rl, itemB rk x = true) ∧ rl.length = is'.length ∧ szV (.mk rk rl [] [] [] [] 0 0) ≤ 1048576) := PB
  obtain ⟨Ai, Ap, An, Ac, Al, ci, cp, cn, cc, cl, pvs, rfl, h1, h2, h3, h4, h5⟩ := ha.open
  obtain ⟨Bi, Bp, Bn, Bc, Bl, di, dp, dn, dc, dl, pvs', rfl, g1, g2, g3, g4, g5⟩ := hb.open
  have S3 := fun u (h : Below w.heap.size w u) => h3.below h
  have S4 := fun u (h : Below w.heap.size w u) => g3.below h
  clear ha hb hza hzb hsa hsb h1 h2 h3 h4 h5 g1 g2 g3 g4 g5
  cases qa with
  | false =>
    have HF : Hid (X = vecI 0 []) := Lib.hid (by rw [HT.out]; rfl)
    have HG : Hid (Y = badS) := Lib.hid (by rw [HS.out]; rfl)
    clear HT HS HW KA KB PA PB CX CY S3 S4
    go_enter Tryz.func9, Tryz.ntmps9
    have hO := Own.nil w
    go_wp2_with (first | ((with_reducible refine (CA _ hO.below).mono ?_); rintro e u ⟨rfl, hb⟩; (replace hO := hO.step hb; clear hb)) | ((with_reducible refine (spec_bad _).mono ?_); rintro e u ⟨rfl, hb⟩; (replace hO := hO.step hb; clear hb)) | (with_reducible refine zaq ?_) | ((with_reducible refine zac ?_); refine zal rfl hO rfl ?_; (refine nm 2 rfl ?_; clear hO; intro b2 u hO); simp only [zL, zK] at hO) | ((with_reducible refine zad ?_); refine zbx rfl hO rfl rfl ?_; (first | (refine nm 0 rfl ?_; clear hO; intro b0 u hO) | (refine nm 1 rfl ?_; clear hO; intro b1 u hO) | fail); simp only [zL, zK] at hO) | ((with_reducible refine zaa ?_); refine zlb rfl hO rfl _ (by exact at0) ?_) | ((with_reducible refine zab ?_); refine zsc rfl hO rfl _ (by exact at2) ?_; clear hO; intro u hO; simp only [zC, zB] at hO) | fail)
    obtain ⟨F0, hvo0, hF⟩ := Own.vec0 u 0
    exact ⟨zau rfl hO rfl 2 at2 rfl rfl rfl ⟨_, _, by rw [HG.out]; rfl, by rw [HF.out]; exact hvo0, (hO.call hF).pick [0] (by decide)⟩⟩
  | true =>
  cases qb with
  | false =>
    have HF : Hid (X = vecI 0 []) := Lib.hid (by rw [HT.out]; rfl)
    have HG : Hid (Y = badS) := Lib.hid (by rw [HS.out]; rfl)
    clear HT HS HW KA KB PA PB CX CY S3 S4
    go_enter Tryz.func9, Tryz.ntmps9
    have hO := Own.nil w
    go_wp2_with (first | ((with_reducible refine (CA _ hO.below).mono ?_); rintro e u ⟨rfl, hb⟩; (replace hO := hO.step hb; clear hb)) | ((with_reducible refine (CB _ hO.below).mono ?_); rintro e u ⟨rfl, hb⟩; (replace hO := hO.step hb; clear hb)) | ((with_reducible refine (spec_bad _).mono ?_); rintro e u ⟨rfl, hb⟩; (replace hO := hO.step hb; clear hb)) | (with_reducible refine zaq ?_) | ((with_reducible refine zac ?_); refine zal rfl hO rfl ?_; (refine nm 2 rfl ?_; clear hO; intro b2 u hO); simp only [zL, zK] at hO) | ((with_reducible refine zad ?_); refine zbx rfl hO rfl rfl ?_; (first | (refine nm 0 rfl ?_; clear hO; intro b0 u hO) | (refine nm 1 rfl ?_; clear hO; intro b1 u hO) | fail); simp only [zL, zK] at hO) | ((with_reducible refine zaa ?_); refine zlb rfl hO rfl _ (by (first | exact at0 | exact at1 | fail)) ?_) | ((with_reducible refine zab ?_); refine zsc rfl hO rfl _ (by exact at2) ?_; clear hO; intro u hO; simp only [zC, zB] at hO) | fail)
    obtain ⟨F0, hvo0, hF⟩ := Own.vec0 u 0
    exact ⟨zau rfl hO rfl 2 at2 rfl rfl rfl ⟨_, _, by rw [HG.out]; rfl, by rw [HF.out]; exact hvo0, (hO.call hF).pick [0] (by decide)⟩⟩
  | true =>
  obtain ⟨la, na, k0, l40, pp⟩ := KA.out rfl
  obtain ⟨lb, nb, k0', l40', pp'⟩ := KB.out rfl
  have lla : lenN k is.length ps.length ≤ 1048576 := by omega
  have llb : lenN k' is'.length ps'.length ≤ 1048576 := by omega
  have LA := fun u => spec_len k Ai Ap is.length ps.length ci cp (.slice An ns.length cn) (.slice Ac cs.length cc) (.slice Al ls.length cl) (.int .i64 c) (.int .i64 e) u xa
  have LB := fun u => spec_len k' Bi Bp is'.length ps'.length di dp (.slice Bn ns'.length dn) (.slice Bc cs'.length dc) (.slice Bl ls'.length dl) (.int .i64 c') (.int .i64 e') u xb
  have CZ := fun u => spec_size (lenN k is.length ps.length) (lenN k' is'.length ps'.length) u lla llb
  have HZZ : Hid (sizI (lenN k is.length ps.length) (lenN k' is'.length ps'.length) = if recB (lenN k is.length ps.length) (lenN k' is'.length ps'.length) then ((recN (lenN k is.length ps.length) (lenN k' is'.length ps'.length) : Nat) : Int) else -1) := Lib.hid rfl
  obtain ⟨ll1, hll1⟩ : ∃ z, lenN k is.length ps.length = z := ⟨_, rfl⟩
  obtain ⟨ll2, hll2⟩ : ∃ z, lenN k' is'.length ps'.length = z := ⟨_, rfl⟩
  rw [hll1] at LA CZ HZZ na HW
  rw [hll2] at LB CZ HZZ nb HW
  obtain ⟨zz, hzz⟩ : ∃ z, sizI ll1 ll2 = z := ⟨_, rfl⟩
  rw [hzz] at CZ HZZ
  have HL1 := Lib.hid hll1
  have HL2 := Lib.hid hll2
  clear hzz hll1 hll2 lla llb
  have CH' : ∀ (A : Option Addr) (c : Nat) (u : World), Sl u 1 A 6 (strs cmOps) → Calls Tryz.prog 35 #[.slice A 6 c, .string op] u fun e w' => e = .returned (.bool (decide (cK op < 6))) ∧ Below u.heap.size u w' := fun A c u h => by
    have := (spec_has A 6 c cmOps op u h (by decide)).mono fun e w' (h : _ ∧ u = w') => (⟨h.1, h.2 ▸ Below.refl _ _⟩ : _ ∧ Below u.heap.size u w')
    rwa [has_cm] at this
  have HOPS : strs cmOps = [.string ⟨#[61, 61]⟩, .string ⟨#[33, 61]⟩, .string ⟨#[60]⟩, .string ⟨#[60, 61]⟩, .string ⟨#[62]⟩, .string ⟨#[62, 61]⟩] := rfl
  rw [HOPS] at CH'
  clear HOPS
  by_cases ho : ¬ cK op < 6
  · have HF : Hid (X = vecI 0 []) := Lib.hid (by rw [HT.out]; simp [ho])
    have HG : Hid (Y = unkS) := Lib.hid (by rw [HS.out]; simp [ho])
    rw [decide_eq_false ho] at CH'
    have CH := CH'
    clear HZZ HL1 HL2 HT HS HW KA KB PA PB CX CY S3 S4
    clear CH'
    go_enter Tryz.func9, Tryz.ntmps9
    have hO := Own.nil w
    go_upto_region 3 with (first | ((with_reducible refine (CA _ hO.below).mono ?_); rintro e u ⟨rfl, hb⟩; (replace hO := hO.step hb; clear hb)) | ((with_reducible refine (CB _ hO.below).mono ?_); rintro e u ⟨rfl, hb⟩; (replace hO := hO.step hb; clear hb)) | ((with_reducible refine zac ?_); refine zal rfl hO rfl ?_; (refine nm 2 rfl ?_; clear hO; intro b2 u hO); simp only [zL, zK] at hO) | ((with_reducible refine zad ?_); refine zbx rfl hO rfl rfl ?_; (first | (refine nm 0 rfl ?_; clear hO; intro b0 u hO) | (refine nm 1 rfl ?_; clear hO; intro b1 u hO) | fail); simp only [zL, zK] at hO) | ((with_reducible refine zaa ?_); refine zlb rfl hO rfl _ (by (first | exact at0 | exact at1 | fail)) ?_) | fail)
    refine J.wp_region_c (n := 105) [0, 1, 2, 3, 4, 5] [] (deps := fun i => [[], [0], [], [2], [0, 1, 2, 3], [0, 1, 2, 3, 4]].getD i []) (fun _ _ _ => True) (r := 0) (lst := #[true, true, true, true, true, true]) (by kernel_rfl) (by kernel_rfl) (by kernel_rfl) rfl (by decide) (by kernel_rfl) hO ?_
    refine zcc (f := fun M u hO K hK => by (exact zah hO rfl rfl _ (by exact at0) (by rfl) (by rfl) (hK _ hO))) (h := ?_)
    refine zcc (f := fun M u hO K hK => by (simp only [wp_at_zero, wp_at_succ]; go_step; refine (LA _).mono ?_; rintro e u ⟨rfl, hb⟩; exact hK _ (hO.step hb))) (h := ?_)
    refine zcc (f := fun M u hO K hK => by (exact zah hO rfl rfl _ (by exact at1) (by rfl) (by rfl) (hK _ hO))) (h := ?_)
    refine zcc (f := fun M u hO K hK => by (simp only [wp_at_zero, wp_at_succ]; go_step; refine (LB _).mono ?_; rintro e u ⟨rfl, hb⟩; exact hK _ (hO.step hb))) (h := ?_)
    refine zcc (f := fun M u hO K hK => by (simp only [wp_at_zero, wp_at_succ]; go_step; refine (CZ _).mono ?_; rintro e u ⟨rfl, hb⟩; exact hK _ (hO.step hb))) (h := ?_)
    refine zcp (h := ?_)
    refine J.Chain.nil ⟨?_, ?_⟩
    · exact J.Each.nil
    intro vs u hO hF
    clear hF
    simp only [List.flatMap_cons, List.flatMap_nil, List.append_nil, zL, zK] at hO
    simp only [J.putL]
    clear vs
    refine wpAny_done (by kernel_rfl) ?_ _
    go_wp2_with (first | ((with_reducible refine zao ?_); refine zaj (cs := [.string ⟨#[61, 61]⟩, .string ⟨#[33, 61]⟩, .string ⟨#[60]⟩, .string ⟨#[60, 61]⟩, .string ⟨#[62]⟩, .string ⟨#[62, 61]⟩]) hO rfl (by rfl) [.string ⟨#[61, 61]⟩, .string ⟨#[33, 61]⟩, .string ⟨#[60]⟩, .string ⟨#[60, 61]⟩, .string ⟨#[62]⟩, .string ⟨#[62, 61]⟩] (by rfl) (by rfl) rfl (zM rfl) (by rfl) rfl (fun b => by simp only [Act.put, zA, zB, zC]; rfl) ?_; clear hO; intro bb u hO; simp only [zL, zK] at hO) | fail)
    go_wp2_with (first | ((with_reducible refine (CH _ _ _ (hO.box_sl 3 rfl rfl)).mono ?_); rintro e u ⟨rfl, hb⟩; (replace hO := hO.step hb; clear hb)) | (with_reducible refine zaq ?_) | ((with_reducible refine zab ?_); refine zsc rfl hO rfl _ (by exact at2) ?_; clear hO; intro u hO; simp only [zC, zB] at hO) | fail)
    obtain ⟨F0, hvo0, hF⟩ := Own.vec0 u 0
    exact ⟨zau rfl hO rfl 2 at2 rfl rfl rfl ⟨_, _, by rw [HG.out]; rfl, by rw [HF.out]; exact hvo0, (hO.call hF).pick [0] (by decide)⟩⟩
  replace ho := Decidable.not_not.1 ho
  rw [decide_eq_true ho] at CH'
  have CH := CH'
  clear CH'
  by_cases h4 : 4 ≤ k
  · have hn : ¬ (k ≤ 3 ∧ k' ≤ 3) := by omega
    obtain ⟨mk, hmk⟩ : ∃ m, (if k < k' then k' else k) = m := ⟨_, rfl⟩
    have hm : 4 ≤ mk := by rw [← hmk]; split <;> omega
    have HF : Hid (X = vecI 0 []) := Lib.hid (by rw [HT.out]; simp [ho, hn])
    have HG : Hid (Y = notAtS) := Lib.hid (by rw [HS.out]; simp [ho, hn])
    clear HZZ HL1 HL2 HT HS HW KA KB PA PB CX CY S3 S4
    clear hn
    go_enter Tryz.func9, Tryz.ntmps9
    have hO := Own.nil w
    go_upto_region 3 with (first | ((with_reducible refine (CA _ hO.below).mono ?_); rintro e u ⟨rfl, hb⟩; (replace hO := hO.step hb; clear hb)) | ((with_reducible refine (CB _ hO.below).mono ?_); rintro e u ⟨rfl, hb⟩; (replace hO := hO.step hb; clear hb)) | ((with_reducible refine zac ?_); refine zal rfl hO rfl ?_; (refine nm 2 rfl ?_; clear hO; intro b2 u hO); simp only [zL, zK] at hO) | ((with_reducible refine zad ?_); refine zbx rfl hO rfl rfl ?_; (first | (refine nm 0 rfl ?_; clear hO; intro b0 u hO) | (refine nm 1 rfl ?_; clear hO; intro b1 u hO) | fail); simp only [zL, zK] at hO) | ((with_reducible refine zaa ?_); refine zlb rfl hO rfl _ (by (first | exact at0 | exact at1 | fail)) ?_) | fail)
    refine J.wp_region_c (n := 105) [0, 1, 2, 3, 4, 5] [] (deps := fun i => [[], [0], [], [2], [0, 1, 2, 3], [0, 1, 2, 3, 4]].getD i []) (fun _ _ _ => True) (r := 0) (lst := #[true, true, true, true, true, true]) (by kernel_rfl) (by kernel_rfl) (by kernel_rfl) rfl (by decide) (by kernel_rfl) hO ?_
    refine zcc (f := fun M u hO K hK => by (exact zah hO rfl rfl _ (by exact at0) (by rfl) (by rfl) (hK _ hO))) (h := ?_)
    refine zcc (f := fun M u hO K hK => by (simp only [wp_at_zero, wp_at_succ]; go_step; refine (LA _).mono ?_; rintro e u ⟨rfl, hb⟩; exact hK _ (hO.step hb))) (h := ?_)
    refine zcc (f := fun M u hO K hK => by (exact zah hO rfl rfl _ (by exact at1) (by rfl) (by rfl) (hK _ hO))) (h := ?_)
    refine zcc (f := fun M u hO K hK => by (simp only [wp_at_zero, wp_at_succ]; go_step; refine (LB _).mono ?_; rintro e u ⟨rfl, hb⟩; exact hK _ (hO.step hb))) (h := ?_)
    refine zcc (f := fun M u hO K hK => by (simp only [wp_at_zero, wp_at_succ]; go_step; refine (CZ _).mono ?_; rintro e u ⟨rfl, hb⟩; exact hK _ (hO.step hb))) (h := ?_)
    refine zcp (h := ?_)
    refine J.Chain.nil ⟨?_, ?_⟩
    · exact J.Each.nil
    intro vs u hO hF
    clear hF
    simp only [List.flatMap_cons, List.flatMap_nil, List.append_nil, zL, zK] at hO
    simp only [J.putL]
    clear vs
    refine wpAny_done (by kernel_rfl) ?_ _
    go_wp2_with (first | ((with_reducible refine zao ?_); refine zaj (cs := [.string ⟨#[61, 61]⟩, .string ⟨#[33, 61]⟩, .string ⟨#[60]⟩, .string ⟨#[60, 61]⟩, .string ⟨#[62]⟩, .string ⟨#[62, 61]⟩]) hO rfl (by rfl) [.string ⟨#[61, 61]⟩, .string ⟨#[33, 61]⟩, .string ⟨#[60]⟩, .string ⟨#[60, 61]⟩, .string ⟨#[62]⟩, .string ⟨#[62, 61]⟩] (by rfl) (by rfl) rfl (zM rfl) (by rfl) rfl (fun b => by simp only [Act.put, zA, zB, zC]; rfl) ?_; clear hO; intro bb u hO; simp only [zL, zK] at hO) | fail)
    go_wp2_with (first | ((with_reducible refine (CH _ _ _ (hO.box_sl 3 rfl rfl)).mono ?_); rintro e u ⟨rfl, hb⟩; (replace hO := hO.step hb; clear hb)) | (with_reducible refine zaq ?_) | ((with_reducible refine zaa ?_); refine zlf rfl hO rfl _ (by (first | exact at0 | exact at1 | fail)) ?_) | ((with_reducible refine zab ?_); refine zsc rfl hO rfl _ (by exact at2) ?_; clear hO; intro u hO; simp only [zC, zB] at hO) | fail)
    obtain ⟨F0, hvo0, hF⟩ := Own.vec0 u 0
    exact ⟨zau rfl hO rfl 2 at2 rfl rfl rfl ⟨_, _, by rw [HG.out]; rfl, by rw [HF.out]; exact hvo0, (hO.call hF).pick [0] (by decide)⟩⟩
  by_cases h4' : 4 ≤ k'
  · have hn : ¬ (k ≤ 3 ∧ k' ≤ 3) := by omega
    obtain ⟨mk, hmk⟩ : ∃ m, (if k < k' then k' else k) = m := ⟨_, rfl⟩
    have hm : 4 ≤ mk := by rw [← hmk]; split <;> omega
    have HF : Hid (X = vecI 0 []) := Lib.hid (by rw [HT.out]; simp [ho, hn])
    have HG : Hid (Y = notAtS) := Lib.hid (by rw [HS.out]; simp [ho, hn])
    clear HZZ HL1 HL2 HT HS HW KA KB PA PB CX CY S3 S4
    clear hn
    go_enter Tryz.func9, Tryz.ntmps9
    have hO := Own.nil w
    go_upto_region 3 with (first | ((with_reducible refine (CA _ hO.below).mono ?_); rintro e u ⟨rfl, hb⟩; (replace hO := hO.step hb; clear hb)) | ((with_reducible refine (CB _ hO.below).mono ?_); rintro e u ⟨rfl, hb⟩; (replace hO := hO.step hb; clear hb)) | ((with_reducible refine zac ?_); refine zal rfl hO rfl ?_; (refine nm 2 rfl ?_; clear hO; intro b2 u hO); simp only [zL, zK] at hO) | ((with_reducible refine zad ?_); refine zbx rfl hO rfl rfl ?_; (first | (refine nm 0 rfl ?_; clear hO; intro b0 u hO) | (refine nm 1 rfl ?_; clear hO; intro b1 u hO) | fail); simp only [zL, zK] at hO) | ((with_reducible refine zaa ?_); refine zlb rfl hO rfl _ (by (first | exact at0 | exact at1 | fail)) ?_) | fail)
    refine J.wp_region_c (n := 105) [0, 1, 2, 3, 4, 5] [] (deps := fun i => [[], [0], [], [2], [0, 1, 2, 3], [0, 1, 2, 3, 4]].getD i []) (fun _ _ _ => True) (r := 0) (lst := #[true, true, true, true, true, true]) (by kernel_rfl) (by kernel_rfl) (by kernel_rfl) rfl (by decide) (by kernel_rfl) hO ?_
    refine zcc (f := fun M u hO K hK => by (exact zah hO rfl rfl _ (by exact at0) (by rfl) (by rfl) (hK _ hO))) (h := ?_)
    refine zcc (f := fun M u hO K hK => by (simp only [wp_at_zero, wp_at_succ]; go_step; refine (LA _).mono ?_; rintro e u ⟨rfl, hb⟩; exact hK _ (hO.step hb))) (h := ?_)
    refine zcc (f := fun M u hO K hK => by (exact zah hO rfl rfl _ (by exact at1) (by rfl) (by rfl) (hK _ hO))) (h := ?_)
    refine zcc (f := fun M u hO K hK => by (simp only [wp_at_zero, wp_at_succ]; go_step; refine (LB _).mono ?_; rintro e u ⟨rfl, hb⟩; exact hK _ (hO.step hb))) (h := ?_)
    refine zcc (f := fun M u hO K hK => by (simp only [wp_at_zero, wp_at_succ]; go_step; refine (CZ _).mono ?_; rintro e u ⟨rfl, hb⟩; exact hK _ (hO.step hb))) (h := ?_)
    refine zcp (h := ?_)
    refine J.Chain.nil ⟨?_, ?_⟩
    · exact J.Each.nil
    intro vs u hO hF
    clear hF
    simp only [List.flatMap_cons, List.flatMap_nil, List.append_nil, zL, zK] at hO
    simp only [J.putL]
    clear vs
    refine wpAny_done (by kernel_rfl) ?_ _
    go_wp2_with (first | ((with_reducible refine zao ?_); refine zaj (cs := [.string ⟨#[61, 61]⟩, .string ⟨#[33, 61]⟩, .string ⟨#[60]⟩, .string ⟨#[60, 61]⟩, .string ⟨#[62]⟩, .string ⟨#[62, 61]⟩]) hO rfl (by rfl) [.string ⟨#[61, 61]⟩, .string ⟨#[33, 61]⟩, .string ⟨#[60]⟩, .string ⟨#[60, 61]⟩, .string ⟨#[62]⟩, .string ⟨#[62, 61]⟩] (by rfl) (by rfl) rfl (zM rfl) (by rfl) rfl (fun b => by simp only [Act.put, zA, zB, zC]; rfl) ?_; clear hO; intro bb u hO; simp only [zL, zK] at hO) | fail)
    go_wp2_with (first | ((with_reducible refine (CH _ _ _ (hO.box_sl 3 rfl rfl)).mono ?_); rintro e u ⟨rfl, hb⟩; (replace hO := hO.step hb; clear hb)) | (with_reducible refine zaq ?_) | ((with_reducible refine zaa ?_); refine zlf rfl hO rfl _ (by (first | exact at0 | exact at1 | fail)) ?_) | ((with_reducible refine zab ?_); refine zsc rfl hO rfl _ (by exact at2) ?_; clear hO; intro u hO; simp only [zC, zB] at hO) | fail)
    obtain ⟨F0, hvo0, hF⟩ := Own.vec0 u 0
    exact ⟨zau rfl hO rfl 2 at2 rfl rfl rfl ⟨_, _, by rw [HG.out]; rfl, by rw [HF.out]; exact hvo0, (hO.call hF).pick [0] (by decide)⟩⟩
  have k3 : k ≤ 3 := by omega
  have k3' : k' ≤ 3 := by omega
  obtain ⟨mk, hmk⟩ : ∃ m, (if k < k' then k' else k) = m := ⟨_, rfl⟩
  have hmx : ¬ 4 ≤ mk := by rw [← hmk]; split <;> omega
  have e1 : ll1 = is.length := by
    rw [← HL1.out]
    unfold lenN
    rw [if_neg (by omega)]
    omega
  have e2 : ll2 = is'.length := by
    rw [← HL2.out]
    unfold lenN
    rw [if_neg (by omega)]
    omega
  obtain ⟨⟨p0, p3⟩, pit, plen, psz⟩ := PA.out rfl k3
  obtain ⟨⟨r0, r3⟩, rit, rlen, rsz⟩ := PB.out rfl k3'
  replace CX := fun u (h : Below w.heap.size w u) => CX u h rfl k3
  replace CY := fun u (h : Below w.heap.size w u) => CY u h rfl k3'
  have HT' : Hid (X = if recB pl.length rl.length then W else vecI 0 []) := Lib.hid (by rw [HT.out, plen, rlen]; simp [ho, k3, k3'])
  have HS' : Hid (Y = if recB pl.length rl.length then ⟨#[]⟩ else difS) := Lib.hid (by rw [HS.out, plen, rlen]; simp [ho, k3, k3'])
  have HZ' : Hid (zz = if recB pl.length rl.length then ((recN pl.length rl.length : Nat) : Int) else -1) := Lib.hid (by rw [HZZ.out, e1, e2, plen, rlen])
  have hx40 : pl.length ≤ 40 := by omega
  have hy40 : rl.length ≤ 40 := by omega
  have HW' : Hid (W = vecN 1 ((pwL (atI pl) (atI rl) (cqF op (max pk rk) pk rk) (recN pl.length rl.length)).map lgI) (nmQ (recN pl.length rl.length) (lenN k is.length ps.length) ns (lenN k' is'.length ps'.length) ns')) := Lib.hid (by
    rw [cq_list (by unfold recN; intro h; split at h <;> omega) pit rit rfl p3 r3 p0 r0, HL1.out, HL2.out, HW.out, plen, rlen])
  clear HT HS HZZ HW HL1 HL2 KA KB PA PB e1 e2 h4 h4' pp pp' l40 l40' psz rsz plen rlen
  obtain ⟨ka, hka⟩ : ∃ m, max pk rk = m := ⟨_, rfl⟩
  have hkb : (if pk < rk then rk else pk) = ka := by rw [← hka]; split <;> omega
  rw [hka] at HW'
  have hka3 : pk ≤ ka ∧ rk ≤ ka ∧ ka ≤ 3 := by omega
  obtain ⟨qk1, qk2, qk3⟩ := hka3
  clear hka
  have HNZ : Hid (0 < recN pl.length rl.length → 0 < pl.length ∧ 0 < rl.length) := Lib.hid (by unfold recN; intro h; split at h <;> omega)
  have hN40 : recN pl.length rl.length ≤ 40 := recN_le hx40 hy40
  obtain ⟨rq, hrq⟩ : ∃ q, recB pl.length rl.length = q := ⟨_, rfl⟩
  rw [hrq] at HT' HS' HZ'
  obtain ⟨N, hN⟩ : ∃ N, recN pl.length rl.length = N := ⟨_, rfl⟩
  rw [hN] at HZ' HW' HNZ hN40
  clear hrq hN
  cases rq with
  | false =>
    have HF : Hid (X = vecI 0 []) := Lib.hid (by rw [HT'.out]; rfl)
    have HG : Hid (Y = difS) := Lib.hid (by rw [HS'.out]; rfl)
    have hz : zz = -1 := by rw [HZ'.out]; rfl
    subst hz
    clear HT' HS' HZ' HW' HNZ CX CY S3 S4 pit rit
    go_enter Tryz.func9, Tryz.ntmps9
    have hO := Own.nil w
    go_upto_region 3 with (first | ((with_reducible refine (CA _ hO.below).mono ?_); rintro e u ⟨rfl, hb⟩; (replace hO := hO.step hb; clear hb)) | ((with_reducible refine (CB _ hO.below).mono ?_); rintro e u ⟨rfl, hb⟩; (replace hO := hO.step hb; clear hb)) | ((with_reducible refine zac ?_); refine zal rfl hO rfl ?_; (refine nm 2 rfl ?_; clear hO; intro b2 u hO); simp only [zL, zK] at hO) | ((with_reducible refine zad ?_); refine zbx rfl hO rfl rfl ?_; (first | (refine nm 0 rfl ?_; clear hO; intro b0 u hO) | (refine nm 1 rfl ?_; clear hO; intro b1 u hO) | fail); simp only [zL, zK] at hO) | ((with_reducible refine zaa ?_); refine zlb rfl hO rfl _ (by (first | exact at0 | exact at1 | fail)) ?_) | fail)
    refine J.wp_region_c (n := 105) [0, 1, 2, 3, 4, 5] [] (deps := fun i => [[], [0], [], [2], [0, 1, 2, 3], [0, 1, 2, 3, 4]].getD i []) (fun _ _ _ => True) (r := 0) (lst := #[true, true, true, true, true, true]) (by kernel_rfl) (by kernel_rfl) (by kernel_rfl) rfl (by decide) (by kernel_rfl) hO ?_
    refine zcc (f := fun M u hO K hK => by (exact zah hO rfl rfl _ (by exact at0) (by rfl) (by rfl) (hK _ hO))) (h := ?_)
    refine zcc (f := fun M u hO K hK => by (simp only [wp_at_zero, wp_at_succ]; go_step; refine (LA _).mono ?_; rintro e u ⟨rfl, hb⟩; exact hK _ (hO.step hb))) (h := ?_)
    refine zcc (f := fun M u hO K hK => by (exact zah hO rfl rfl _ (by exact at1) (by rfl) (by rfl) (hK _ hO))) (h := ?_)
    refine zcc (f := fun M u hO K hK => by (simp only [wp_at_zero, wp_at_succ]; go_step; refine (LB _).mono ?_; rintro e u ⟨rfl, hb⟩; exact hK _ (hO.step hb))) (h := ?_)
    refine zcc (f := fun M u hO K hK => by (simp only [wp_at_zero, wp_at_succ]; go_step; refine (CZ _).mono ?_; rintro e u ⟨rfl, hb⟩; exact hK _ (hO.step hb))) (h := ?_)
    refine zcp (h := ?_)
    refine J.Chain.nil ⟨?_, ?_⟩
    · exact J.Each.nil
    intro vs u hO hF
    clear hF
    simp only [List.flatMap_cons, List.flatMap_nil, List.append_nil, zL, zK] at hO
    simp only [J.putL]
    clear vs
    refine wpAny_done (by kernel_rfl) ?_ _
    go_wp2_with (first | ((with_reducible refine zao ?_); refine zaj (cs := [.string ⟨#[61, 61]⟩, .string ⟨#[33, 61]⟩, .string ⟨#[60]⟩, .string ⟨#[60, 61]⟩, .string ⟨#[62]⟩, .string ⟨#[62, 61]⟩]) hO rfl (by rfl) [.string ⟨#[61, 61]⟩, .string ⟨#[33, 61]⟩, .string ⟨#[60]⟩, .string ⟨#[60, 61]⟩, .string ⟨#[62]⟩, .string ⟨#[62, 61]⟩] (by rfl) (by rfl) rfl (zM rfl) (by rfl) rfl (fun b => by simp only [Act.put, zA, zB, zC]; rfl) ?_; clear hO; intro bb u hO; simp only [zL, zK] at hO) | fail)
    go_wp2_with (first | ((with_reducible refine (CH _ _ _ (hO.box_sl 3 rfl rfl)).mono ?_); rintro e u ⟨rfl, hb⟩; (replace hO := hO.step hb; clear hb)) | (with_reducible refine zaq ?_) | ((with_reducible refine zaa ?_); refine zlf rfl hO rfl _ (by (first | exact at0 | exact at1 | fail)) ?_) | ((with_reducible refine zab ?_); refine zsc rfl hO rfl _ (by exact at2) ?_; clear hO; intro u hO; simp only [zC, zB] at hO) | fail)
    obtain ⟨F0, hvo0, hF⟩ := Own.vec0 u 0
    exact ⟨zau rfl hO rfl 2 at2 rfl rfl rfl ⟨_, _, by rw [HG.out]; rfl, by rw [HF.out]; exact hvo0, (hO.call hF).pick [0] (by decide)⟩⟩
  | true =>
    have hz : zz = (N : Int) := by rw [HZ'.out]; rfl
    subst hz
    have HG : Hid (Y = ⟨#[]⟩) := Lib.hid (by rw [HS'.out]; rfl)
    have HF : Hid (X = vecN 1 ((pwL (atI pl) (atI rl) (cqF op ka pk rk) N).map lgI) (nmQ N (lenN k is.length ps.length) ns (lenN k' is'.length ps'.length) ns')) := Lib.hid (by rw [HT'.out, if_pos rfl, HW'.out])
    obtain ⟨NN, hNN⟩ : ∃ R, nmQ N (lenN k is.length ps.length) ns (lenN k' is'.length ps'.length) ns' = R := ⟨_, rfl⟩
    have HNM := Lib.hid hNN
    rw [hNN] at HF
    clear HT' HS' HZ' HW' hNN
    go_enter Tryz.func9, Tryz.ntmps9
    have hO := Own.nil w
    go_upto_region 3 with (first | ((with_reducible refine (CA _ hO.below).mono ?_); rintro e u ⟨rfl, hb⟩; (replace hO := hO.step hb; clear hb)) | ((with_reducible refine (CB _ hO.below).mono ?_); rintro e u ⟨rfl, hb⟩; (replace hO := hO.step hb; clear hb)) | ((with_reducible refine zac ?_); refine zal rfl hO rfl ?_; (refine nm 2 rfl ?_; clear hO; intro b2 u hO); simp only [zL, zK] at hO) | ((with_reducible refine zad ?_); refine zbx rfl hO rfl rfl ?_; (first | (refine nm 0 rfl ?_; clear hO; intro b0 u hO) | (refine nm 1 rfl ?_; clear hO; intro b1 u hO) | fail); simp only [zL, zK] at hO) | ((with_reducible refine zaa ?_); refine zlb rfl hO rfl _ (by (first | exact at0 | exact at1 | fail)) ?_) | fail)
    refine J.wp_region_c (n := 105) [0, 1, 2, 3, 4, 5] [] (deps := fun i => [[], [0], [], [2], [0, 1, 2, 3], [0, 1, 2, 3, 4]].getD i []) (fun _ _ _ => True) (r := 0) (lst := #[true, true, true, true, true, true]) (by kernel_rfl) (by kernel_rfl) (by kernel_rfl) rfl (by decide) (by kernel_rfl) hO ?_
    refine zcc (f := fun M u hO K hK => by (exact zah hO rfl rfl _ (by exact at0) (by rfl) (by rfl) (hK _ hO))) (h := ?_)
    refine zcc (f := fun M u hO K hK => by (simp only [wp_at_zero, wp_at_succ]; go_step; refine (LA _).mono ?_; rintro e u ⟨rfl, hb⟩; exact hK _ (hO.step hb))) (h := ?_)
    refine zcc (f := fun M u hO K hK => by (exact zah hO rfl rfl _ (by exact at1) (by rfl) (by rfl) (hK _ hO))) (h := ?_)
    refine zcc (f := fun M u hO K hK => by (simp only [wp_at_zero, wp_at_succ]; go_step; refine (LB _).mono ?_; rintro e u ⟨rfl, hb⟩; exact hK _ (hO.step hb))) (h := ?_)
    refine zcc (f := fun M u hO K hK => by (simp only [wp_at_zero, wp_at_succ]; go_step; refine (CZ _).mono ?_; rintro e u ⟨rfl, hb⟩; exact hK _ (hO.step hb))) (h := ?_)
    refine zcp (h := ?_)
    refine J.Chain.nil ⟨?_, ?_⟩
    · exact J.Each.nil
    intro vs u hO hF
    clear hF
    simp only [List.flatMap_cons, List.flatMap_nil, List.append_nil, zL, zK] at hO
    simp only [J.putL]
    clear vs
    refine wpAny_done (by kernel_rfl) ?_ _
    go_wp2_with (first | ((with_reducible refine zao ?_); refine zaj (cs := [.string ⟨#[61, 61]⟩, .string ⟨#[33, 61]⟩, .string ⟨#[60]⟩, .string ⟨#[60, 61]⟩, .string ⟨#[62]⟩, .string ⟨#[62, 61]⟩]) hO rfl (by rfl) [.string ⟨#[61, 61]⟩, .string ⟨#[33, 61]⟩, .string ⟨#[60]⟩, .string ⟨#[60, 61]⟩, .string ⟨#[62]⟩, .string ⟨#[62, 61]⟩] (by rfl) (by rfl) rfl (zM rfl) (by rfl) rfl (fun b => by simp only [Act.put, zA, zB, zC]; rfl) ?_; clear hO; intro bb u hO; simp only [zL, zK] at hO) | fail)
    go_wp2_with (first | ((with_reducible refine (CH _ _ _ (hO.box_sl 3 rfl rfl)).mono ?_); rintro e u ⟨rfl, hb⟩; (replace hO := hO.step hb; clear hb)) | ((with_reducible refine zaa ?_); refine zlb rfl hO rfl _ (by exact at0) ?_) | ((with_reducible refine zaa ?_); refine zlf rfl hO rfl _ (by (first | exact at0 | exact at1 | fail)) ?_) | fail)
    refine (CX _ hO.below).mono ?_
    rintro e u ⟨Ci, Cp, Cn, Cc, Cl, ri, rp, rn, rc, rl', F1, rfl, hvo1, hb⟩
    replace hO := hO.call hb
    clear hb
    simp only [zK, zL] at hO
    go_wp2_with (first | ((with_reducible refine zac ?_); refine zal rfl hO rfl ?_; (refine nm 5 rfl ?_; clear hO; intro b5 u hO); simp only [zL, zK] at hO) | ((with_reducible refine zaa ?_); refine zlb rfl hO rfl _ (by exact at2) ?_) | ((with_reducible refine zab ?_); refine zsc rfl hO rfl _ (by exact at5) ?_; clear hO; intro u hO; simp only [zC, zB] at hO) | fail)
    refine (CY _ hO.below).mono ?_
    rintro e u ⟨Di, Dp, Dn, Dc, Dl, si, sp, sn, sc, sl, F2, rfl, hvo2, hb⟩
    replace hO := hO.call hb
    clear hb
    simp only [zK, zL] at hO
    go_wp2_with (first | ((with_reducible refine zac ?_); refine zal rfl hO rfl ?_; (refine nm 7 rfl ?_; clear hO; intro b7 u hO); simp only [zL, zK] at hO) | ((with_reducible refine zaa ?_); refine zlf rfl hO rfl _ (by (first | exact at6 | exact at7 | fail)) ?_) | ((with_reducible refine zab ?_); refine zsc rfl hO rfl _ (by exact at7) ?_; clear hO; intro u hO; simp only [zC, zB] at hO) | ((with_reducible refine zao ?_); refine za0 hO rfl (by rfl) rfl (fun b => by simp only [Act.put, zA, zB, zC]; rfl) ?_; clear hO; intro bb u hO; simp only [zL, zK] at hO) | fail)
    replace hO := hO.pick [0, 1, 2, 3, 4, 6, 7, 8] (by decide)
    simp only [zN, zO, zE, zD] at hO
    go_loopw [12, 13] (fun s i u => ∃ (m : Nat) (A' : Option Addr) (c'' : Nat), m ≤ N ∧ i = .int .i64 m ∧ s = .slice A' m c'' ∧ Own w [pack F2, pack F1, box b0 28 [.int .i64 k, .slice Ai is.length ci, .slice Ap ps.length cp, .slice An ns.length cn, .slice Ac cs.length cc, .slice Al ls.length cl, .int .i64 c, .int .i64 e], box b1 28 [.int .i64 k', .slice Bi is'.length di, .slice Bp ps'.length dp, .slice Bn ns'.length dn, .slice Bc cs'.length dc, .slice Bl ls'.length dl, .int .i64 c', .int .i64 e'], box b2 28 [.int .i64 0, .slice none 0 0, .slice none 0 0, .slice none 0 0, .slice none 0 0, .slice none 0 0, .int .i64 0, .int .i64 0], box b5 28 [.int .i64 pk, .slice Ci pl.length ri, .slice Cp 0 rp, .slice Cn 0 rn, .slice Cc 0 rc, .slice Cl 0 rl', .int .i64 0, .int .i64 0], box b7 28 [.int .i64 rk, .slice Di rl.length si, .slice Dp 0 sp, .slice Dn 0 sn, .slice Dc 0 sc, .slice Dl 0 sl, .int .i64 0, .int .i64 0], row 3 1 (.slice A' m c'') m (ints (pwL (atI pl) (atI rl) (cqF op ka pk rk) m))] u) (fun _ i _ => N - (intOf i).toNat)
    case atStart => exact ⟨0, _, _, Nat.zero_le _, rfl, rfl, hO⟩
    case round =>
      clear hO
      obtain ⟨m, A', c'', hm', rfl, rfl, hO⟩ := hrel
      by_cases hlt : m < N
      · obtain ⟨p1, p2⟩ := HNZ.out (by omega)
        have n1 : ¬ pl.length = 0 := by omega
        have n2 : ¬ rl.length = 0 := by omega
        have i1 : (m : Int) < (N : Int) := by omega
        obtain ⟨ja, hja⟩ : ∃ j, m % pl.length = j := ⟨_, rfl⟩
        obtain ⟨jb, hjb⟩ : ∃ j, m % rl.length = j := ⟨_, rfl⟩
        have a1 : ja < pl.length := by rw [← hja]; exact Nat.mod_lt _ p1
        have a2 : jb < rl.length := by rw [← hjb]; exact Nat.mod_lt _ p2
        have m1 : (m : Int) % (pl.length : Int) = (ja : Int) := by rw [← Int.natCast_emod, hja]
        have m2 : (m : Int) % (rl.length : Int) = (jb : Int) := by rw [← Int.natCast_emod, hjb]
        have c1 : (ja : Int) < (pl.length : Int) := by omega
        have c2 : (jb : Int) < (rl.length : Int) := by omega
        have HSS : Hid (ints (pwL (atI pl) (atI rl) (cqF op ka pk rk) (m + 1)) = ints (pwL (atI pl) (atI rl) (cqF op ka pk rk) m) ++ [.int .i64 (cqF op ka pk rk pl[ja] rl[jb])]) := Lib.hid (by rw [pwL_succ, ints_snocC, atI_eq hja a1, atI_eq hjb a2])
        have hix := pit _ (List.getElem_mem a1)
        have hiy := rit _ (List.getElem_mem a2)
        obtain ⟨x, hx⟩ : ∃ x, pl[ja] = x := ⟨_, rfl⟩
        obtain ⟨y, hy⟩ : ∃ y, rl[jb] = y := ⟨_, rfl⟩
        obtain ⟨ba, oa, rfl, _, _⟩ := (hO.rdp 1 rfl hvo1).sli.it (Below.refl _ _) a1 hx
        obtain ⟨bc, oc, rfl, _, _⟩ := (hO.rdp 0 rfl hvo2).sli.it (Below.refl _ _) a2 hy
        have CRa := fun u (h : Sl u 3 (some ⟨ba, oa, none⟩) pl.length (itc pl)) => Sl.it2 h rfl a1 hx
        have CRb := fun u (h : Sl u 3 (some ⟨bc, oc, none⟩) rl.length (itc rl)) => Sl.it2 h rfl a2 hy
        rw [hx, hy] at HSS
        rw [hx] at hix
        rw [hy] at hiy
        have C1 := fun u => spec_as pk ka x.num x.den x.text u hix qk1 qk3
        have C2 := fun u => spec_as rk ka y.num y.den y.text u hiy qk2 qk3
        have HV : Hid (cqF op ka pk rk x y = hldI op (ordI ka (cvI pk ka x) (cvI rk ka y))) := Lib.hid rfl
        obtain ⟨x2, hx2⟩ : ∃ z, cvI pk ka x = z := ⟨_, rfl⟩
        obtain ⟨y2, hy2⟩ : ∃ z, cvI rk ka y = z := ⟨_, rfl⟩
        rw [hx2, hy2] at HV
        replace C1 : ∀ u : World, Calls Tryz.prog 42 #[.int .i64 pk, .int .i64 ka, .agg #[.int .i64 x.num, .int .i64 x.den, .string x.text]] u fun e w' => e = .returned (.agg #[.int .i64 x2.num, .int .i64 x2.den, .string x2.text]) ∧ Below u.heap.size u w' := by rw [← hx2]; exact C1
        replace C2 : ∀ u : World, Calls Tryz.prog 42 #[.int .i64 rk, .int .i64 ka, .agg #[.int .i64 y.num, .int .i64 y.den, .string y.text]] u fun e w' => e = .returned (.agg #[.int .i64 y2.num, .int .i64 y2.den, .string y2.text]) ∧ Below u.heap.size u w' := by rw [← hy2]; exact C2
        have C3 := fun u => spec_order ka x2.num x2.den y2.num y2.den x2.text y2.text u
        replace C3 : ∀ u : World, Calls Tryz.prog 41 #[.int .i64 ka, .agg #[.int .i64 x2.num, .int .i64 x2.den, .string x2.text], .agg #[.int .i64 y2.num, .int .i64 y2.den, .string y2.text]] u fun e w' => e = .returned (.int .i64 (ordI ka x2 y2)) ∧ Below u.heap.size u w' := C3
        obtain ⟨oz, hoz⟩ : ∃ z, ordI ka x2 y2 = z := ⟨_, rfl⟩
        rw [hoz] at C3 HV
        have C4 := fun u => spec_holds op oz u ho
        obtain ⟨vz, hvz⟩ : ∃ z, hldI op oz = z := ⟨_, rfl⟩
        rw [hvz] at C4 HV
        rw [HV.out] at HSS
        obtain ⟨xn, xd, xt⟩ := x
        obtain ⟨yn, yd, yt⟩ := y
        obtain ⟨x2n, x2d, x2t⟩ := x2
        obtain ⟨y2n, y2d, y2t⟩ := y2
        simp only at CRa CRb C1 C2 C3
        clear hja hjb p1 p2 hx hy hix hiy hx2 hy2 hoz hvz HV
        go_wp2_with fail
        refine J.wp_region_t (n := 105) [0, 1, 2, 3, 4, 5, 6, 7, 8, 9, 10, 11, 12, 13, 14, 15, 16, 17, 18, 19, 20, 21, 22, 23, 24, 25, 26, 27, 28, 29, 30] [31] [0, 0, 0, 0, 8, 0, 0, 64, 0, 0, 512, 1536, 3840, 8128, 16320, 32760, 0, 65536, 0, 0, 524288, 0, 0, 4194304, 12582912, 31457280, 66584576, 133693440, 268435448, 536870908, 1073741822, 2147483646, 4294967295, 8589934591] (deps := fun i => [[], [], [], [], [3], [], [], [6], [], [], [9], [9, 10], [8, 9, 10, 11], [6, 7, 8, 9, 10, 11, 12], [6, 7, 8, 9, 10, 11, 12, 13], [3, 4, 5, 6, 7, 8, 9, 10, 11, 12, 13, 14], [], [16], [], [], [19], [], [], [22], [22, 23], [21, 22, 23, 24], [19, 20, 21, 22, 23, 24, 25], [19, 20, 21, 22, 23, 24, 25, 26], [16, 17, 18, 19, 20, 21, 22, 23, 24, 25, 26, 27], [2, 3, 4, 5, 6, 7, 8, 9, 10, 11, 12, 13, 14, 15, 16, 17, 18, 19, 20, 21, 22, 23, 24, 25, 26, 27, 28], [1, 2, 3, 4, 5, 6, 7, 8, 9, 10, 11, 12, 13, 14, 15, 16, 17, 18, 19, 20, 21, 22, 23, 24, 25, 26, 27, 28, 29], [1, 2, 3, 4, 5, 6, 7, 8, 9, 10, 11, 12, 13, 14, 15, 16, 17, 18, 19, 20, 21, 22, 23, 24, 25, 26, 27, 28, 29, 30], [], []].getD i []) (fun _ _ => (J.freshS 3 [.int .i64 vz])) (r := 2) (lst := #[true, true, true, true, true, true, true, true, true, true, true, true, true, true, true, true, true, true, true, true, true, true, true, true, true, true, true, true, true, true, true, true, false, false]) (by kernel_rfl) (by kernel_rfl) (by kernel_rfl) rfl (by decide) (by kernel_rfl) hO ?_
        refine zcp (h := ?_)
        refine zcp (h := ?_)
        refine zcp (h := ?_)
        refine zcp (h := ?_)
        refine zcc (f := fun M u hO K hK => by (exact zae hO rfl rfl _ (by exact at5) (by rfl) (by rfl) (hK _ hO))) (h := ?_)
        refine zcp (h := ?_)
        refine zcp (h := ?_)
        refine zcc (f := fun M u hO K hK => by (exact zae hO rfl rfl _ (by exact at5) (by rfl) (by rfl) (hK _ hO))) (h := ?_)
        refine zcp (h := ?_)
        refine zcp (h := ?_)
        refine zcc (f := fun M u hO K hK => by (exact zae hO rfl rfl _ (by exact at5) (by rfl) (by rfl) (hK _ hO))) (h := ?_)
        refine zcp (h := ?_)
        refine zcp (h := ?_)
        refine zcp (h := ?_)
        refine zcc (f := fun M u hO K hK => by ((have f1 := CRa _ (hO.rdp 1 rfl hvo1).sli; have f2 := CRb _ (hO.rdp 0 rfl hvo2).sli; obtain ⟨e0, e1, e2⟩ := f1; obtain ⟨e3, e4, e5⟩ := f2; simp only [wp_at_zero, wp_at_succ]; go_step; exact hK _ hO))) (h := ?_)
        refine zcc (f := fun M u hO K hK => by (simp only [wp_at_zero, wp_at_succ]; go_step; refine (C1 _).mono ?_; rintro e u ⟨rfl, hb⟩; exact hK _ (hO.step hb))) (h := ?_)
        refine zcp (h := ?_)
        refine zcc (f := fun M u hO K hK => by (exact zae hO rfl rfl _ (by exact at6) (by rfl) (by rfl) (hK _ hO))) (h := ?_)
        refine zcp (h := ?_)
        refine zcp (h := ?_)
        refine zcc (f := fun M u hO K hK => by (exact zae hO rfl rfl _ (by exact at6) (by rfl) (by rfl) (hK _ hO))) (h := ?_)
        refine zcp (h := ?_)
        refine zcp (h := ?_)
        refine zcc (f := fun M u hO K hK => by (exact zae hO rfl rfl _ (by exact at6) (by rfl) (by rfl) (hK _ hO))) (h := ?_)
        refine zcp (h := ?_)
        refine zcp (h := ?_)
        refine zcp (h := ?_)
        refine zcc (f := fun M u hO K hK => by ((have f1 := CRa _ (hO.rdp 1 rfl hvo1).sli; have f2 := CRb _ (hO.rdp 0 rfl hvo2).sli; obtain ⟨e0, e1, e2⟩ := f1; obtain ⟨e3, e4, e5⟩ := f2; simp only [wp_at_zero, wp_at_succ]; go_step; exact hK _ hO))) (h := ?_)
        refine zcc (f := fun M u hO K hK => by (simp only [wp_at_zero, wp_at_succ]; go_step; refine (C2 _).mono ?_; rintro e u ⟨rfl, hb⟩; exact hK _ (hO.step hb))) (h := ?_)
        refine zcc (f := fun M u hO K hK => by (simp only [wp_at_zero, wp_at_succ]; go_step; refine (C3 _).mono ?_; rintro e u ⟨rfl, hb⟩; exact hK _ (hO.step hb))) (h := ?_)
        refine zcc (f := fun M u hO K hK => by (simp only [wp_at_zero, wp_at_succ]; go_step; refine (C4 _).mono ?_; rintro e u ⟨rfl, hb⟩; exact hK _ (hO.step hb))) (h := ?_)
        refine J.Chain.nil ⟨?_, ?_⟩
        · refine J.Each.cons (by rfl) ?_ ?_; exact ⟨rfl, fun vs M u hO _ K hK => by (refine za4 (cs := [.int .i64 vz]) hO rfl (by simp only [Act.eval, zJ, zP, J.putL, zI, zG, zH, J.dstOf, zF, zD, zE, zS, zQ, zR, Act.put, zA, zB, zC]; rfl) rfl rfl (zM rfl) rfl fun b u hO => ?_; exact hK _ _ _ (show (J.freshS 3 [.int .i64 vz]) _ from ⟨b, rfl⟩) hO)⟩; exact J.Each.nil
        intro vs u hO hF
        obtain ⟨b5, h31⟩ : J.freshS _ _ (vs 31) := hF 31 (by decide)
        clear hF
        simp only [List.flatMap_cons, List.flatMap_nil, h31, List.append_nil, zL, zK] at hO
        simp only [h31, J.putL, zI, zG, zH, J.dstOf, zF, zD, zE, zS, zQ, zR, Act.put, zA, zB, zC]
        clear h31 vs
        refine J.wpAny_one (i := 32) (by kernel_rfl) (by rfl) rfl fun K hK => ?_
        refine za3 hO rfl rfl rfl _ (by exact at7) _ (by exact at8) (by rfl) (by simp [Value.oneCell']) (by omega) (by omega) rfl ?_
        clear hO
        intro A' c' u hO
        simp only [zC, zB] at hO
        simp only [Act.put, zA, zB, zC]
        refine hK _ _ ?_
        clear hK K
        refine J.wpAny_one (i := 33) (by kernel_rfl) (by rfl) rfl fun K hK => ?_
        simp only [wp_at_zero, wp_at_succ]
        go_step
        refine hK _ _ ?_
        clear hK K
        refine wpAny_done (by kernel_rfl) ?_ _
        go_wp2_with fail
        replace hO := hO.pick [0, 1, 2, 3, 4, 5, 6, 7] (by decide)
        simp only [zN, zO, zE, zD] at hO
        rw [← HSS.out] at hO
        go_roundw
        case rel => exact ⟨m + 1, _, _, by omega, by go_num, rfl, hO⟩
        case measure => simp [intOf]; omega
      · have hmn : m = N := by omega
        subst hmn
        have hlen := pwL_len (atI pl) (atI rl) (cqF op ka pk rk) m
        obtain ⟨ZL, hZL⟩ : ∃ Z, pwL (atI pl) (atI rl) (cqF op ka pk rk) m = Z := ⟨_, rfl⟩
        rw [hZL] at hO hlen HF
        have HV : Hid (lvT ZL = vecI 1 (ZL.map lgI)) := Lib.hid (by unfold lvT; rw [if_pos (by omega)])
        have HLL : Hid ((ZL.map lgI).length = m) := Lib.hid (by rw [List.length_map]; exact hlen)
        have HVV : Hid (lvT ZL = vecI 1 (ZL.map lgI)) := HV
        obtain ⟨LL, hLL⟩ : ∃ L, ZL.map lgI = L := ⟨_, rfl⟩
        rw [hLL] at HVV HF HLL
        clear hZL hlen HV hLL HNZ
        go_wp2_with fail
        refine ((spec_logicalVec _ _ _ ZL _ (hO.row_sl 7 rfl) (by omega)).mono fun e' w' h => RetV.exC (xk := 1) (xi := LL) (xp := []) (xn := []) (xc := []) (xl := []) (xo := 0) (xe := 0) (HVV.out ▸ h)).mono ?_
        rintro e9 u ⟨Q1, Q2, Q3, Q4, Q5, m1, m2, m3, m4, m5, F, rfl, hvo, hb⟩
        replace hO := hO.call hb
        clear hb
        simp only [List.cons_append, List.nil_append] at hO
        replace hO := hO.pick [0, 3, 4, 5] (by decide)
        simp only [zN, zO, zE, zD] at hO
        go_wp2_with (first | ((with_reducible refine zac ?_); refine zal rfl hO rfl ?_; (refine nm 4 rfl ?_; clear hO; intro b4 u hO); simp only [zL, zK] at hO) | ((with_reducible refine zaa ?_); refine zlb rfl hO rfl _ (by (first | exact at1 | exact at2 | fail)) ?_) | ((with_reducible refine zab ?_); refine zsc rfl hO rfl _ (by exact at4) ?_; clear hO; intro u hO; simp only [zC, zB] at hO) | fail)
        refine (spec_names m k k' Ai Ap An Bi Bp Bn is.length ci ps.length cp cn is'.length di ps'.length dp dn _ _ _ _ _ _ _ _ ns ns' _ (S3 _ hO.below) (S4 _ hO.below) ya yb xa xb).mono ?_
        rintro e9 u ⟨N', d', rfl, hb⟩
        rw [HNM.out] at hb
        rw [HNM.out]
        replace hO := hO.call hb
        clear hb
        simp only [List.cons_append, List.nil_append] at hO
        go_wp2_with (first | (with_reducible refine zaq ?_) | ((with_reducible refine zaa ?_); refine zlb rfl hO rfl _ (by exact at5) ?_) | ((with_reducible refine zab ?_); refine zsc rfl hO rfl _ (by exact at4) ?_; clear hO; intro u hO; simp only [zC, zB] at hO) | ((with_reducible refine zab ?_); refine zsf rfl hO rfl _ (by exact at5) (zM rfl) ?_; clear hO; intro u hO; simp only [zC, zB] at hO) | fail)
        have hR := hO.pick [1, 0] (by decide)
        simp only [List.filterMap_cons, List.filterMap_nil, List.getElem?_cons_zero, List.getElem?_cons_succ] at hR
        refine ⟨zau rfl hO rfl 4 at4 rfl rfl rfl ?_⟩
        clear hO
        obtain ⟨F', hvo', hF⟩ := Own.rename hR hvo
        exact ⟨_, _, by rw [HG.out]; rfl, by rw [HF.out]; exact hvo', hF⟩

end Go.Proofs.YtmofcbpabdbjlaaGreat
