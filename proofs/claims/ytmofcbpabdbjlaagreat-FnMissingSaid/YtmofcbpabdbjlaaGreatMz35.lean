/-
  What is proved: what the reference's ArithmeticOf returns.
  Condition: vectors of size at most 1048576.
-/
import Derived.Test.YtmofcbpabdbjlaaGreatMz4
import Derived.Test.YtmofcbpabdbjlaaGreatMz13
import Derived.Test.YtmofcbpabdbjlaaGreatMz20
import Derived.Test.YtmofcbpabdbjlaaGreatMz28
namespace Go.Proofs.YtmofcbpabdbjlaaGreat

set_option maxRecDepth 8000

open Go.RowKit Go.ChangeShapes Go.WideShapes Go.Deep

set_option linter.unusedVariables false

set_option linter.unusedSimpArgs false

theorem isV_lens' {t : VT} (h : isV t = true) : t.items.length ≤ 40 ∧ (t.names.length = 0 ∨ t.names.length = lenV t) := by
  obtain ⟨k, is, ps, ns, cs, ls, c, e⟩ := t
  have hf := isV_facts h
  exact ⟨isV_items h, hf.2.2.1⟩

theorem isV_cnt {k : Int} {is : List It} {ps : List VT} {ns cs ls : List ByteArray} {c e : Int} (h : isV (.mk k is ps ns cs ls c e) = true) : l5B k ls.length = cntK k ls.length := l5_cnt h

theorem spec_numsR (k : Int) (v2 v3 v4 v6 v7 : Value) (Ai Al : Option Addr) (ni ci nl cl : Nat) (hn : ni ≤ 40) (w : World) : Calls Tryz.prog 33 #[.agg #[.int .i64 k, .slice Ai ni ci, v2, v3, v4, .slice Al nl cl, v6, v7]] w fun e w' =>
    ∃ A n c, e = .returned (.tuple #[.slice A n c, .bool (l5B k nl)]) ∧ Below w.heap.size w w' ∧ n ≤ 40 ∧ Hid (l5B k nl = true → A = Ai ∧ n = ni ∧ c = ci) := by
  cases h : l5B k nl with
  | true =>
    refine (spec_nums_yes k v2 v3 v4 v6 v7 Ai Al ni ci nl cl w h).mono ?_
    rintro e u ⟨rfl, hb⟩
    exact ⟨_, _, _, rfl, hb, hn, Lib.hid fun _ => ⟨rfl, rfl, rfl⟩⟩
  | false =>
    refine (spec_nums_no k v2 v3 v4 v6 v7 Ai Al ni ci nl cl w h).mono ?_
    rintro e u ⟨b, rfl, hb⟩
    exact ⟨_, _, _, rfl, hb, Nat.zero_le _, Lib.hid fun h => absurd h (by decide)⟩

def arOps : List ByteArray := [⟨#[43]⟩, ⟨#[45]⟩, ⟨#[42]⟩, ⟨#[47]⟩, ⟨#[94]⟩, ⟨#[37, 37]⟩, ⟨#[37, 47, 37]⟩]

theorem has_ops (op : ByteArray) : decide (0 ≤ findS arOps op) = decide (opK op < 7) := by
  rw [find_any]
  have hc : ∀ l : List UInt8, (l == op.toList) = (op.toList == l) := fun l => BEq.comm
  have e : arOps = ([[43], [45], [42], [47], [94], [37, 37], [37, 47, 37]] : List (List UInt8)).map fun l => (⟨l.toArray⟩ : ByteArray) := rfl
  have hl : (arOps.any fun x => x.toList == op.toList) = ((op.toList == [43]) || ((op.toList == [45]) || ((op.toList == [42]) || ((op.toList == [47]) || ((op.toList == [94]) || ((op.toList == [37, 37]) || ((op.toList == [37, 47, 37]) || false))))))) := by
    rw [e, List.any_map]
    simp only [Function.comp_def, toList_mk, hc]
    rfl
  rw [hl]
  rcases opK_cases op with ⟨o0, hk⟩ | ⟨o0, o1, hk⟩ | ⟨o0, o1, o2, hk⟩ | ⟨o0, o1, o2, o3, hk⟩ | ⟨o0, o1, o2, o3, o4, hk⟩ | ⟨o0, o1, o2, o3, o4, o5, hk⟩ | ⟨o0, o1, o2, o3, o4, o5, o6, hk⟩ | ⟨o0, o1, o2, o3, o4, o5, o6, hk⟩ <;> rw [hk] <;> simp only [*] <;> rfl

set_option maxRecDepth 20000 in
set_option maxHeartbeats 8000000 in
theorem spec_ar (op : ByteArray) (ta tb : VT) (va vb : List Value) (w : World) (ha : RdV w ta va) (hb : RdV w tb vb) (hza : szV ta ≤ 1048576) (hzb : szV tb ≤ 1048576) : Calls Tryz.prog 8 #[.string op, .agg va.toArray, .agg vb.toArray] w (RetVS (arT op ta tb) (arS op ta tb) w) := by
  have CA := fun u (h : Below w.heap.size w u) => spec_isVec ta _ u (ha.grow h) hza
  have CB := fun u (h : Below w.heap.size w u) => spec_isVec tb _ u (hb.grow h) hzb
  obtain ⟨k, is, ps, ns, cs, ls, c, e⟩ := ta
  obtain ⟨k', is', ps', ns', cs', ls', c', e'⟩ := tb
  have HT : Hid (arT op (.mk k is ps ns cs ls c e) (.mk k' is' ps' ns' cs' ls' c' e') = if isV (.mk k is ps ns cs ls c e) && isV (.mk k' is' ps' ns' cs' ls' c' e') then (if opK op < 7 then (if cntK k ls.length && cntK k' ls'.length then (if recB is.length is'.length then twoT 2 (arF op) (.mk k is ps ns cs ls c e) (.mk k' is' ps' ns' cs' ls' c' e') else vecI 0 []) else vecI 0 []) else vecI 0 []) else vecI 0 []) := Lib.hid rfl
  have HS : Hid (arS op (.mk k is ps ns cs ls c e) (.mk k' is' ps' ns' cs' ls' c' e') = if isV (.mk k is ps ns cs ls c e) && isV (.mk k' is' ps' ns' cs' ls' c' e') then (if opK op < 7 then (if cntK k ls.length && cntK k' ls'.length then (if recB is.length is'.length then ⟨#[]⟩ else difS) else nonNumS) else unkS) else badS) := Lib.hid rfl
  have KA : Hid (isV (.mk k is ps ns cs ls c e) = true → is.length ≤ 40 ∧ (ns.length = 0 ∨ ns.length = lenN k is.length ps.length)) := Lib.hid (fun h => isV_lens' h)
  have KB : Hid (isV (.mk k' is' ps' ns' cs' ls' c' e') = true → is'.length ≤ 40 ∧ (ns'.length = 0 ∨ ns'.length = lenN k' is'.length ps'.length)) := Lib.hid (fun h => isV_lens' h)
  have IA := Lib.hid (fun h => isV_cnt (k := k) (is := is) (ps := ps) (ns := ns) (cs := cs) (ls := ls) (c := c) (e := e) h)
  have IB := Lib.hid (fun h => isV_cnt (k := k') (is := is') (ps := ps') (ns := ns') (cs := cs') (ls := ls') (c := c') (e := e') h)
  have HW : Hid (twoT 2 (arF op) (.mk k is ps ns cs ls c e) (.mk k' is' ps' ns' cs' ls' c' e') = vecN 2 (pwL (atI is) (atI is') (arF op) (recN is.length is'.length)) (nmQ (recN is.length is'.length) (lenN k is.length ps.length) ns (lenN k' is'.length ps'.length) ns')) := Lib.hid rfl
  obtain ⟨X, hX⟩ : ∃ X, arT op (.mk k is ps ns cs ls c e) (.mk k' is' ps' ns' cs' ls' c' e') = X := ⟨_, rfl⟩
  obtain ⟨Y, hY⟩ : ∃ Y, arS op (.mk k is ps ns cs ls c e) (.mk k' is' ps' ns' cs' ls' c' e') = Y := ⟨_, rfl⟩
  rw [hX] at HT
  rw [hY] at HS
  rw [hX, hY]
  obtain ⟨W, hW⟩ : ∃ W, twoT 2 (arF op) (.mk k is ps ns cs ls c e) (.mk k' is' ps' ns' cs' ls' c' e') = W := ⟨_, rfl⟩
  rw [hW] at HT HW
  obtain ⟨qa, hqa⟩ : ∃ q, isV (.mk k is ps ns cs ls c e) = q := ⟨_, rfl⟩
  obtain ⟨qb, hqb⟩ : ∃ q, isV (.mk k' is' ps' ns' cs' ls' c' e') = q := ⟨_, rfl⟩
  rw [hqa] at CA HT HS KA IA
  rw [hqb] at CB HT HS KB IB
  have hsa : szI is + szL ps + szS ns + szS cs + szS ls ≤ 1048576 := hza
  have hsb : szI is' + szL ps' + szS ns' + szS cs' + szS ls' ≤ 1048576 := hzb
  have ya : ns.length ≤ 1048576 := by unfold szS at hsa; omega
  have yb : ns'.length ≤ 1048576 := by unfold szS at hsb; omega
  have xa : (is.length : Int) + ps.length ≤ 9223372036854775807 := by have := szL_eq ps; unfold szI at hsa; omega
  have xb : (is'.length : Int) + ps'.length ≤ 9223372036854775807 := by have := szL_eq ps'; unfold szI at hsb; omega
  obtain ⟨Ai, Ap, An, Ac, Al, ci, cp, cn, cc, cl, pvs, rfl, h1, h2, h3, h4, h5⟩ := ha.open
  obtain ⟨Bi, Bp, Bn, Bc, Bl, di, dp, dn, dc, dl, pvs', rfl, g1, g2, g3, g4, g5⟩ := hb.open
  clear ha hb hza hzb hsa hsb hX hY hW hqa hqb h2 h4 h5 g2 g4 g5
  cases qa with
  | false =>
    have HF : Hid (X = vecI 0 []) := Lib.hid (by rw [HT.out]; rfl)
    have HG : Hid (Y = badS) := Lib.hid (by rw [HS.out]; rfl)
    clear HT HS
    go_enter Tryz.func8, Tryz.ntmps8
    have hO := Own.nil w
    go_wp2_with (first | ((with_reducible refine (CA _ hO.below).mono ?_); rintro e u ⟨rfl, hb⟩; (replace hO := hO.step hb; clear hb)) | ((with_reducible refine (spec_bad _).mono ?_); rintro e u ⟨rfl, hb⟩; (replace hO := hO.step hb; clear hb)) | ((with_reducible refine zac ?_); refine zal rfl hO rfl ?_; (refine nm 2 rfl ?_; clear hO; intro b2 u hO); simp only [zL, zK] at hO) | ((with_reducible refine zad ?_); refine zbx rfl hO rfl rfl ?_; (first | (refine nm 0 rfl ?_; clear hO; intro b0 u hO) | (refine nm 1 rfl ?_; clear hO; intro b1 u hO) | fail); simp only [zL, zK] at hO) | ((with_reducible refine zaa ?_); refine zlb rfl hO rfl _ (by exact at0) ?_) | ((with_reducible refine zab ?_); refine zsb rfl hO rfl _ (by exact at2) rfl ?_; clear hO; intro u hO; simp only [zC, zB] at hO) | fail)
    obtain ⟨F, hvo, hF⟩ := Own.vec0 u 0
    exact zau rfl hO rfl 2 at2 rfl rfl rfl ⟨_, _, by rw [HG.out]; rfl, by rw [HF.out]; exact hvo, (hO.call hF).pick [0] (by decide)⟩
  | true =>
  cases qb with
  | false =>
    have HF : Hid (X = vecI 0 []) := Lib.hid (by rw [HT.out]; rfl)
    have HG : Hid (Y = badS) := Lib.hid (by rw [HS.out]; rfl)
    clear HT HS
    go_enter Tryz.func8, Tryz.ntmps8
    have hO := Own.nil w
    go_wp2_with (first | ((with_reducible refine (CA _ hO.below).mono ?_); rintro e u ⟨rfl, hb⟩; (replace hO := hO.step hb; clear hb)) | ((with_reducible refine (CB _ hO.below).mono ?_); rintro e u ⟨rfl, hb⟩; (replace hO := hO.step hb; clear hb)) | ((with_reducible refine (spec_bad _).mono ?_); rintro e u ⟨rfl, hb⟩; (replace hO := hO.step hb; clear hb)) | ((with_reducible refine zac ?_); refine zal rfl hO rfl ?_; (refine nm 2 rfl ?_; clear hO; intro b2 u hO); simp only [zL, zK] at hO) | ((with_reducible refine zad ?_); refine zbx rfl hO rfl rfl ?_; (first | (refine nm 0 rfl ?_; clear hO; intro b0 u hO) | (refine nm 1 rfl ?_; clear hO; intro b1 u hO) | fail); simp only [zL, zK] at hO) | ((with_reducible refine zaa ?_); refine zlb rfl hO rfl _ (by (first | exact at0 | exact at1 | fail)) ?_) | ((with_reducible refine zab ?_); refine zsb rfl hO rfl _ (by exact at2) rfl ?_; clear hO; intro u hO; simp only [zC, zB] at hO) | fail)
    obtain ⟨F, hvo, hF⟩ := Own.vec0 u 0
    exact zau rfl hO rfl 2 at2 rfl rfl rfl ⟨_, _, by rw [HG.out]; rfl, by rw [HF.out]; exact hvo, (hO.call hF).pick [0] (by decide)⟩
  | true =>
  obtain ⟨la, na⟩ := KA.out rfl
  obtain ⟨lb, nb⟩ := KB.out rfl
  have ca := IA.out rfl
  have cb := IB.out rfl
  have LA := fun u => spec_numsR k (.slice Ap ps.length cp) (.slice An ns.length cn) (.slice Ac cs.length cc) (.int .i64 c) (.int .i64 e) Ai Al is.length ci ls.length cl la u
  have LB := fun u => spec_numsR k' (.slice Bp ps'.length dp) (.slice Bn ns'.length dn) (.slice Bc cs'.length dc) (.int .i64 c') (.int .i64 e') Bi Bl is'.length di ls'.length dl lb u
  rw [ca] at LA
  rw [cb] at LB
  obtain ⟨ra, hra⟩ : ∃ r, cntK k ls.length = r := ⟨_, rfl⟩
  obtain ⟨rb, hrb⟩ : ∃ r, cntK k' ls'.length = r := ⟨_, rfl⟩
  rw [hra] at LA HT HS
  rw [hrb] at LB HT HS
  have S3 := fun u (h : Below w.heap.size w u) => h3.below h
  have S4 := fun u (h : Below w.heap.size w u) => g3.below h
  clear hra hrb ca cb IA IB KA KB
  have CH' : ∀ (A : Option Addr) (c : Nat) (u : World), Sl u 1 A 7 (strs arOps) → Calls Tryz.prog 35 #[.slice A 7 c, .string op] u fun e w' => e = .returned (.bool (decide (opK op < 7))) ∧ Below u.heap.size u w' := fun A c u h => by
    have := (spec_has A 7 c arOps op u h (by decide)).mono fun e w' (h : _ ∧ u = w') => (⟨h.1, h.2 ▸ Below.refl _ _⟩ : _ ∧ Below u.heap.size u w')
    rwa [has_ops] at this
  have HOPS : strs arOps = [.string ⟨#[43]⟩, .string ⟨#[45]⟩, .string ⟨#[42]⟩, .string ⟨#[47]⟩, .string ⟨#[94]⟩, .string ⟨#[37, 37]⟩, .string ⟨#[37, 47, 37]⟩] := rfl
  rw [HOPS] at CH'
  clear HOPS
  by_cases ho : opK op < 7
  case neg =>
    have HF : Hid (X = vecI 0 []) := Lib.hid (by rw [HT.out]; simp [ho])
    have HG : Hid (Y = unkS) := Lib.hid (by rw [HS.out]; simp [ho])
    rw [decide_eq_false ho] at CH'
    have CH := CH'
    clear HT HS ho CH' h1 g1 h3 g3 S3 S4
    go_enter Tryz.func8, Tryz.ntmps8
    have hO := Own.nil w
    go_wp2_with (first | ((with_reducible refine (CA _ hO.below).mono ?_); rintro e u ⟨rfl, hb⟩; (replace hO := hO.step hb; clear hb)) | ((with_reducible refine (CB _ hO.below).mono ?_); rintro e u ⟨rfl, hb⟩; (replace hO := hO.step hb; clear hb)) | ((with_reducible refine zac ?_); refine zal rfl hO rfl ?_; (refine nm 2 rfl ?_; clear hO; intro b2 u hO); simp only [zL, zK] at hO) | ((with_reducible refine zad ?_); refine zbx rfl hO rfl rfl ?_; (first | (refine nm 0 rfl ?_; clear hO; intro b0 u hO) | (refine nm 1 rfl ?_; clear hO; intro b1 u hO) | fail); simp only [zL, zK] at hO) | ((with_reducible refine zaa ?_); refine zlb rfl hO rfl _ (by (first | exact at0 | exact at1 | fail)) ?_) | fail)
    refine (LA _).mono ?_
    rintro e u ⟨A1, n1, d1, rfl, hb, hn1, H1⟩
    replace hO := hO.step hb
    clear hb LA
    go_wp2_with (first | ((with_reducible refine zaa ?_); refine zlb rfl hO rfl _ (by exact at1) ?_) | fail)
    refine (LB _).mono ?_
    rintro e u ⟨A2, n2, d2, rfl, hb, hn2, H2⟩
    replace hO := hO.step hb
    clear hb LB
    have CZ := fun u => spec_size n1 n2 u (by omega) (by omega)
    obtain ⟨zz, hzz⟩ : ∃ z, sizI n1 n2 = z := ⟨_, rfl⟩
    rw [hzz] at CZ
    clear H1 H2 hzz
    go_wp2_with (first | ((with_reducible refine (CZ _).mono ?_); rintro e u ⟨rfl, hb⟩; (replace hO := hO.step hb; clear hb)) | ((with_reducible refine (CH _ _ _ (hO.box_sl 3 rfl rfl)).mono ?_); rintro e u ⟨rfl, hb⟩; (replace hO := hO.step hb; clear hb)) | ((with_reducible refine zab ?_); refine zsb rfl hO rfl _ (by exact at2) rfl ?_; clear hO; intro u hO; simp only [zC, zB] at hO) | ((with_reducible refine zao ?_); refine zaj (cs := [.string ⟨#[43]⟩, .string ⟨#[45]⟩, .string ⟨#[42]⟩, .string ⟨#[47]⟩, .string ⟨#[94]⟩, .string ⟨#[37, 37]⟩, .string ⟨#[37, 47, 37]⟩]) hO rfl (by rfl) [.string ⟨#[43]⟩, .string ⟨#[45]⟩, .string ⟨#[42]⟩, .string ⟨#[47]⟩, .string ⟨#[94]⟩, .string ⟨#[37, 37]⟩, .string ⟨#[37, 47, 37]⟩] (by rfl) (by rfl) rfl (zM rfl) (by rfl) rfl (fun b => by simp only [Act.put, zA, zB, zC]; rfl) ?_; clear hO; intro bb u hO; simp only [zL, zK] at hO) | fail)
    obtain ⟨F, hvo, hF⟩ := Own.vec0 u 0
    exact zau rfl hO rfl 2 at2 rfl rfl rfl ⟨_, _, by rw [HG.out]; rfl, by rw [HF.out]; exact hvo, (hO.call hF).pick [0] (by decide)⟩
  case pos =>
  rw [decide_eq_true ho] at CH'
  have CH := CH'
  have HT' : Hid (X = if ra && rb then (if recB is.length is'.length then W else vecI 0 []) else vecI 0 []) := Lib.hid (by rw [HT.out]; simp only [Bool.and_self, if_true]; rw [if_pos ho])
  have HS' : Hid (Y = if ra && rb then (if recB is.length is'.length then ⟨#[]⟩ else difS) else nonNumS) := Lib.hid (by rw [HS.out]; simp only [Bool.and_self, if_true]; rw [if_pos ho])
  clear HT HS CH'
  cases ra with
  | false =>
    have HF : Hid (X = vecI 0 []) := Lib.hid (by rw [HT'.out]; rfl)
    have HG : Hid (Y = nonNumS) := Lib.hid (by rw [HS'.out]; rfl)
    clear HT' HS' ho h1 g1 h3 g3 S3 S4
    go_enter Tryz.func8, Tryz.ntmps8
    have hO := Own.nil w
    go_wp2_with (first | ((with_reducible refine (CA _ hO.below).mono ?_); rintro e u ⟨rfl, hb⟩; (replace hO := hO.step hb; clear hb)) | ((with_reducible refine (CB _ hO.below).mono ?_); rintro e u ⟨rfl, hb⟩; (replace hO := hO.step hb; clear hb)) | ((with_reducible refine zac ?_); refine zal rfl hO rfl ?_; (refine nm 2 rfl ?_; clear hO; intro b2 u hO); simp only [zL, zK] at hO) | ((with_reducible refine zad ?_); refine zbx rfl hO rfl rfl ?_; (first | (refine nm 0 rfl ?_; clear hO; intro b0 u hO) | (refine nm 1 rfl ?_; clear hO; intro b1 u hO) | fail); simp only [zL, zK] at hO) | ((with_reducible refine zaa ?_); refine zlb rfl hO rfl _ (by (first | exact at0 | exact at1 | fail)) ?_) | fail)
    refine (LA _).mono ?_
    rintro e u ⟨A1, n1, d1, rfl, hb, hn1, H1⟩
    replace hO := hO.step hb
    clear hb LA
    go_wp2_with (first | ((with_reducible refine zaa ?_); refine zlb rfl hO rfl _ (by exact at1) ?_) | fail)
    refine (LB _).mono ?_
    rintro e u ⟨A2, n2, d2, rfl, hb, hn2, H2⟩
    replace hO := hO.step hb
    clear hb LB
    have CZ := fun u => spec_size n1 n2 u (by omega) (by omega)
    obtain ⟨zz, hzz⟩ : ∃ z, sizI n1 n2 = z := ⟨_, rfl⟩
    rw [hzz] at CZ
    clear H1 H2 hzz
    go_wp2_with (first | ((with_reducible refine (CZ _).mono ?_); rintro e u ⟨rfl, hb⟩; (replace hO := hO.step hb; clear hb)) | ((with_reducible refine (CH _ _ _ (hO.box_sl 3 rfl rfl)).mono ?_); rintro e u ⟨rfl, hb⟩; (replace hO := hO.step hb; clear hb)) | ((with_reducible refine zab ?_); refine zsb rfl hO rfl _ (by exact at2) rfl ?_; clear hO; intro u hO; simp only [zC, zB] at hO) | ((with_reducible refine zao ?_); refine zaj (cs := [.string ⟨#[43]⟩, .string ⟨#[45]⟩, .string ⟨#[42]⟩, .string ⟨#[47]⟩, .string ⟨#[94]⟩, .string ⟨#[37, 37]⟩, .string ⟨#[37, 47, 37]⟩]) hO rfl (by rfl) [.string ⟨#[43]⟩, .string ⟨#[45]⟩, .string ⟨#[42]⟩, .string ⟨#[47]⟩, .string ⟨#[94]⟩, .string ⟨#[37, 37]⟩, .string ⟨#[37, 47, 37]⟩] (by rfl) (by rfl) rfl (zM rfl) (by rfl) rfl (fun b => by simp only [Act.put, zA, zB, zC]; rfl) ?_; clear hO; intro bb u hO; simp only [zL, zK] at hO) | fail)
    obtain ⟨F, hvo, hF⟩ := Own.vec0 u 0
    exact zau rfl hO rfl 2 at2 rfl rfl rfl ⟨_, _, by rw [HG.out]; rfl, by rw [HF.out]; exact hvo, (hO.call hF).pick [0] (by decide)⟩
  | true =>
  cases rb with
  | false =>
    have HF : Hid (X = vecI 0 []) := Lib.hid (by rw [HT'.out]; rfl)
    have HG : Hid (Y = nonNumS) := Lib.hid (by rw [HS'.out]; rfl)
    clear HT' HS' ho h1 g1 h3 g3 S3 S4
    go_enter Tryz.func8, Tryz.ntmps8
    have hO := Own.nil w
    go_wp2_with (first | ((with_reducible refine (CA _ hO.below).mono ?_); rintro e u ⟨rfl, hb⟩; (replace hO := hO.step hb; clear hb)) | ((with_reducible refine (CB _ hO.below).mono ?_); rintro e u ⟨rfl, hb⟩; (replace hO := hO.step hb; clear hb)) | ((with_reducible refine zac ?_); refine zal rfl hO rfl ?_; (refine nm 2 rfl ?_; clear hO; intro b2 u hO); simp only [zL, zK] at hO) | ((with_reducible refine zad ?_); refine zbx rfl hO rfl rfl ?_; (first | (refine nm 0 rfl ?_; clear hO; intro b0 u hO) | (refine nm 1 rfl ?_; clear hO; intro b1 u hO) | fail); simp only [zL, zK] at hO) | ((with_reducible refine zaa ?_); refine zlb rfl hO rfl _ (by (first | exact at0 | exact at1 | fail)) ?_) | fail)
    refine (LA _).mono ?_
    rintro e u ⟨A1, n1, d1, rfl, hb, hn1, H1⟩
    replace hO := hO.step hb
    clear hb LA
    go_wp2_with (first | ((with_reducible refine zaa ?_); refine zlb rfl hO rfl _ (by exact at1) ?_) | fail)
    refine (LB _).mono ?_
    rintro e u ⟨A2, n2, d2, rfl, hb, hn2, H2⟩
    replace hO := hO.step hb
    clear hb LB
    have CZ := fun u => spec_size n1 n2 u (by omega) (by omega)
    obtain ⟨zz, hzz⟩ : ∃ z, sizI n1 n2 = z := ⟨_, rfl⟩
    rw [hzz] at CZ
    clear H1 H2 hzz
    go_wp2_with (first | ((with_reducible refine (CZ _).mono ?_); rintro e u ⟨rfl, hb⟩; (replace hO := hO.step hb; clear hb)) | ((with_reducible refine (CH _ _ _ (hO.box_sl 3 rfl rfl)).mono ?_); rintro e u ⟨rfl, hb⟩; (replace hO := hO.step hb; clear hb)) | ((with_reducible refine zab ?_); refine zsb rfl hO rfl _ (by exact at2) rfl ?_; clear hO; intro u hO; simp only [zC, zB] at hO) | ((with_reducible refine zao ?_); refine zaj (cs := [.string ⟨#[43]⟩, .string ⟨#[45]⟩, .string ⟨#[42]⟩, .string ⟨#[47]⟩, .string ⟨#[94]⟩, .string ⟨#[37, 37]⟩, .string ⟨#[37, 47, 37]⟩]) hO rfl (by rfl) [.string ⟨#[43]⟩, .string ⟨#[45]⟩, .string ⟨#[42]⟩, .string ⟨#[47]⟩, .string ⟨#[94]⟩, .string ⟨#[37, 37]⟩, .string ⟨#[37, 47, 37]⟩] (by rfl) (by rfl) rfl (zM rfl) (by rfl) rfl (fun b => by simp only [Act.put, zA, zB, zC]; rfl) ?_; clear hO; intro bb u hO; simp only [zL, zK] at hO) | fail)
    obtain ⟨F, hvo, hF⟩ := Own.vec0 u 0
    exact zau rfl hO rfl 2 at2 rfl rfl rfl ⟨_, _, by rw [HG.out]; rfl, by rw [HF.out]; exact hvo, (hO.call hF).pick [0] (by decide)⟩
  | true =>
    have HSZ : Hid (sizI is.length is'.length = if recB is.length is'.length then ((recN is.length is'.length : Nat) : Int) else -1) := Lib.hid rfl
    have CZ := fun u => spec_size is.length is'.length u (by omega) (by omega)
    obtain ⟨zz, hzz⟩ : ∃ z, sizI is.length is'.length = z := ⟨_, rfl⟩
    rw [hzz] at CZ HSZ
    obtain ⟨rq, hrq⟩ : ∃ q, recB is.length is'.length = q := ⟨_, rfl⟩
    rw [hrq] at HSZ HT' HS'
    clear hzz hrq
    cases rq with
    | false =>
      have HF : Hid (X = vecI 0 []) := Lib.hid (by rw [HT'.out]; rfl)
      have HG : Hid (Y = difS) := Lib.hid (by rw [HS'.out]; rfl)
      have hz : zz = -1 := by rw [HSZ.out]; rfl
      subst hz
      clear HT' HS' HSZ ho h1 g1 h3 g3 S3 S4
      go_enter Tryz.func8, Tryz.ntmps8
      have hO := Own.nil w
      go_wp2_with (first | ((with_reducible refine (CA _ hO.below).mono ?_); rintro e u ⟨rfl, hb⟩; (replace hO := hO.step hb; clear hb)) | ((with_reducible refine (CB _ hO.below).mono ?_); rintro e u ⟨rfl, hb⟩; (replace hO := hO.step hb; clear hb)) | ((with_reducible refine zac ?_); refine zal rfl hO rfl ?_; (refine nm 2 rfl ?_; clear hO; intro b2 u hO); simp only [zL, zK] at hO) | ((with_reducible refine zad ?_); refine zbx rfl hO rfl rfl ?_; (first | (refine nm 0 rfl ?_; clear hO; intro b0 u hO) | (refine nm 1 rfl ?_; clear hO; intro b1 u hO) | fail); simp only [zL, zK] at hO) | ((with_reducible refine zaa ?_); refine zlb rfl hO rfl _ (by (first | exact at0 | exact at1 | fail)) ?_) | fail)
      refine (LA _).mono ?_
      rintro e u ⟨A1, n1, d1, rfl, hb, hn1, H1⟩
      replace hO := hO.step hb
      clear hb LA
      go_wp2_with (first | ((with_reducible refine zaa ?_); refine zlb rfl hO rfl _ (by exact at1) ?_) | fail)
      refine (LB _).mono ?_
      rintro e u ⟨A2, n2, d2, rfl, hb, hn2, H2⟩
      replace hO := hO.step hb
      clear hb LB
      obtain ⟨q1, q2, q3⟩ := H1.out (by trivial)
      obtain ⟨q4, q5, q6⟩ := H2.out (by trivial)
      clear H1 H2
      replace q1 := q1.symm
      replace q3 := q3.symm
      replace q4 := q4.symm
      replace q6 := q6.symm
      subst q1 q2 q3 q4 q5 q6
      go_wp2_with (first | ((with_reducible refine (CZ _).mono ?_); rintro e u ⟨rfl, hb⟩; (replace hO := hO.step hb; clear hb)) | ((with_reducible refine (CH _ _ _ (hO.box_sl 3 rfl rfl)).mono ?_); rintro e u ⟨rfl, hb⟩; (replace hO := hO.step hb; clear hb)) | ((with_reducible refine zab ?_); refine zsb rfl hO rfl _ (by exact at2) rfl ?_; clear hO; intro u hO; simp only [zC, zB] at hO) | ((with_reducible refine zao ?_); refine zaj (cs := [.string ⟨#[43]⟩, .string ⟨#[45]⟩, .string ⟨#[42]⟩, .string ⟨#[47]⟩, .string ⟨#[94]⟩, .string ⟨#[37, 37]⟩, .string ⟨#[37, 47, 37]⟩]) hO rfl (by rfl) [.string ⟨#[43]⟩, .string ⟨#[45]⟩, .string ⟨#[42]⟩, .string ⟨#[47]⟩, .string ⟨#[94]⟩, .string ⟨#[37, 37]⟩, .string ⟨#[37, 47, 37]⟩] (by rfl) (by rfl) rfl (zM rfl) (by rfl) rfl (fun b => by simp only [Act.put, zA, zB, zC]; rfl) ?_; clear hO; intro bb u hO; simp only [zL, zK] at hO) | fail)
      obtain ⟨F, hvo, hF⟩ := Own.vec0 u 0
      exact zau rfl hO rfl 2 at2 rfl rfl rfl ⟨_, _, by rw [HG.out]; rfl, by rw [HF.out]; exact hvo, (hO.call hF).pick [0] (by decide)⟩
    | true =>
      have HG : Hid (Y = ⟨#[]⟩) := Lib.hid (by rw [HS'.out]; rfl)
      have hX : X = W := by rw [HT'.out]; rfl
      have hz : zz = ((recN is.length is'.length : Nat) : Int) := by rw [HSZ.out]; rfl
      subst hz
      have hN40 : recN is.length is'.length ≤ 40 := recN_le la lb
      have HNZ : Hid (0 < recN is.length is'.length → 0 < is.length ∧ 0 < is'.length) := Lib.hid (by unfold recN; intro h; split at h <;> omega)
      have hXW := hX.trans HW.out
      obtain ⟨N, hN⟩ : ∃ N, recN is.length is'.length = N := ⟨_, rfl⟩
      rw [hN] at CZ hN40 HNZ hXW
      have HF := Lib.hid hXW
      obtain ⟨NN, hNN⟩ : ∃ R, nmQ N (lenN k is.length ps.length) ns (lenN k' is'.length ps'.length) ns' = R := ⟨_, rfl⟩
      have HNM := Lib.hid hNN
      rw [hNN] at HF
      clear HT' HS' HSZ hX hXW hN HW hNN
      go_enter Tryz.func8, Tryz.ntmps8
      have hO := Own.nil w
      go_wp2_with (first | ((with_reducible refine (CA _ hO.below).mono ?_); rintro e u ⟨rfl, hb⟩; (replace hO := hO.step hb; clear hb)) | ((with_reducible refine (CB _ hO.below).mono ?_); rintro e u ⟨rfl, hb⟩; (replace hO := hO.step hb; clear hb)) | ((with_reducible refine zac ?_); refine zal rfl hO rfl ?_; (refine nm 2 rfl ?_; clear hO; intro b2 u hO); simp only [zL, zK] at hO) | ((with_reducible refine zad ?_); refine zbx rfl hO rfl rfl ?_; (first | (refine nm 0 rfl ?_; clear hO; intro b0 u hO) | (refine nm 1 rfl ?_; clear hO; intro b1 u hO) | fail); simp only [zL, zK] at hO) | ((with_reducible refine zaa ?_); refine zlb rfl hO rfl _ (by (first | exact at0 | exact at1 | fail)) ?_) | fail)
      refine (LA _).mono ?_
      rintro e u ⟨A1, n1, d1, rfl, hb, hn1, H1⟩
      replace hO := hO.step hb
      clear hb LA
      go_wp2_with (first | ((with_reducible refine zaa ?_); refine zlb rfl hO rfl _ (by exact at1) ?_) | fail)
      refine (LB _).mono ?_
      rintro e u ⟨A2, n2, d2, rfl, hb, hn2, H2⟩
      replace hO := hO.step hb
      clear hb LB
      obtain ⟨q1, q2, q3⟩ := H1.out (by trivial)
      obtain ⟨q4, q5, q6⟩ := H2.out (by trivial)
      clear H1 H2
      replace q1 := q1.symm
      replace q3 := q3.symm
      replace q4 := q4.symm
      replace q6 := q6.symm
      subst q1 q2 q3 q4 q5 q6
      go_wp2_with (first | ((with_reducible refine (CZ _).mono ?_); rintro e u ⟨rfl, hb⟩; (replace hO := hO.step hb; clear hb)) | ((with_reducible refine (CH _ _ _ (hO.box_sl 3 rfl rfl)).mono ?_); rintro e u ⟨rfl, hb⟩; (replace hO := hO.step hb; clear hb)) | ((with_reducible refine zaa ?_); refine zlb rfl hO rfl _ (by (first | exact at0 | exact at1 | fail)) ?_) | ((with_reducible refine zao ?_); refine zaj (cs := [.string ⟨#[43]⟩, .string ⟨#[45]⟩, .string ⟨#[42]⟩, .string ⟨#[47]⟩, .string ⟨#[94]⟩, .string ⟨#[37, 37]⟩, .string ⟨#[37, 47, 37]⟩]) hO rfl (by rfl) [.string ⟨#[43]⟩, .string ⟨#[45]⟩, .string ⟨#[42]⟩, .string ⟨#[47]⟩, .string ⟨#[94]⟩, .string ⟨#[37, 37]⟩, .string ⟨#[37, 47, 37]⟩] (by rfl) (by rfl) rfl (zM rfl) (by rfl) rfl (fun b => by simp only [Act.put, zA, zB, zC]; rfl) ?_; clear hO; intro bb u hO; simp only [zL, zK] at hO) | fail)
      refine (spec_names N k k' Ai Ap An Bi Bp Bn is.length ci ps.length cp cn is'.length di ps'.length dp dn _ _ _ _ _ _ _ _ ns ns' _ (S3 _ hO.below) (S4 _ hO.below) ya yb xa xb).mono ?_
      rintro e u ⟨N', d', rfl, hb⟩
      rw [HNM.out] at hb
      rw [HNM.out]
      replace hO := hO.call hb
      clear hb S3 S4 CH CZ
      simp only [List.cons_append, List.nil_append] at hO
      go_wp2_with (first | ((with_reducible refine zac ?_); refine zal rfl hO rfl ?_; (refine nm 5 rfl ?_; clear hO; intro b5 u hO); simp only [zL, zK] at hO) | ((with_reducible refine zab ?_); refine zsb rfl hO rfl _ (by exact at5) rfl ?_; clear hO; intro u hO; simp only [zC, zB] at hO) | fail)
      replace hO := hO.pick [0, 1, 2, 3, 5] (by decide)
      simp only [zN, zO, zE, zD] at hO
      replace hO := hO.addNil 35 3
      simp only [List.cons_append, List.nil_append] at hO
      go_loopw [14] (fun i u => ∃ (m : Nat) (A' : Option Addr) (c'' : Nat), m ≤ N ∧ i = .int .i64 m ∧ Own w [row 9 1 (.slice N' NN.length d') NN.length (stc NN), box b0 28 [.int .i64 k, .slice Ai is.length ci, .slice Ap ps.length cp, .slice An ns.length cn, .slice Ac cs.length cc, .slice Al ls.length cl, .int .i64 c, .int .i64 e], box b1 28 [.int .i64 k', .slice Bi is'.length di, .slice Bp ps'.length dp, .slice Bn ns'.length dn, .slice Bc cs'.length dc, .slice Bl ls'.length dl, .int .i64 c', .int .i64 e'], box b2 28 [.int .i64 0, .slice none 0 0, .slice none 0 0, .slice none 0 0, .slice none 0 0, .slice none 0 0, .int .i64 0, .int .i64 0], box b5 28 [.int .i64 2, .slice A' m c'', .slice none 0 0, .slice N' NN.length d', .slice none 0 0, .slice none 0 0, .int .i64 0, .int .i64 0], row 35 3 (.slice A' m c'') m (itc (pwL (atI is) (atI is') (arF op) m))] u) (fun i _ => N - (intOf i).toNat)
      case atStart => exact ⟨0, none, 0, Nat.zero_le _, rfl, hO⟩
      case round =>
        clear hO
        obtain ⟨m, A', c'', hm, rfl, hO⟩ := hrel
        by_cases hlt : m < N
        · obtain ⟨p1, p2⟩ := HNZ.out (by omega)
          have n1 : ¬ is.length = 0 := by omega
          have n2 : ¬ is'.length = 0 := by omega
          have i1 : (m : Int) < (N : Int) := by omega
          obtain ⟨ja, hja⟩ : ∃ j, m % is.length = j := ⟨_, rfl⟩
          obtain ⟨jb, hjb⟩ : ∃ j, m % is'.length = j := ⟨_, rfl⟩
          have a1 : ja < is.length := by rw [← hja]; exact Nat.mod_lt _ p1
          have a2 : jb < is'.length := by rw [← hjb]; exact Nat.mod_lt _ p2
          have m1 : (m : Int) % (is.length : Int) = (ja : Int) := by rw [← Int.natCast_emod, hja]
          have m2 : (m : Int) % (is'.length : Int) = (jb : Int) := by rw [← Int.natCast_emod, hjb]
          have c1 : (ja : Int) < (is.length : Int) := by omega
          have c2 : (jb : Int) < (is'.length : Int) := by omega
          have HSS : Hid (itc (pwL (atI is) (atI is') (arF op) (m + 1)) = itc (pwL (atI is) (atI is') (arF op) m) ++ itc1 (arF op is[ja] is'[jb])) := Lib.hid (by
            rw [pwL_succ, itc_app, atI_eq hja a1, atI_eq hjb a2]
            simp [itc])
          obtain ⟨x, hx⟩ : ∃ x, is[ja] = x := ⟨_, rfl⟩
          obtain ⟨y, hy⟩ : ∃ y, is'[jb] = y := ⟨_, rfl⟩
          have CG : ∀ u : World, Calls Tryz.prog 37 #[.string op, .agg #[.int .i64 x.num, .int .i64 x.den, .string x.text], .agg #[.int .i64 y.num, .int .i64 y.den, .string y.text]] u fun e w' => e = .returned (.agg #[.int .i64 (arF op x y).num, .int .i64 (arF op x y).den, .string (arF op x y).text]) ∧ Below u.heap.size u w' := fun u => spec_apply op x.num x.den y.num y.den x.text y.text u ho
          obtain ⟨ba, oa, rfl, hba, d0, d1, d2⟩ := h1.it (Below.refl _ _) a1 hx
          obtain ⟨bc, oc, rfl, hbc, f0, f1, f2⟩ := g1.it (Below.refl _ _) a2 hy
          rw [hx, hy] at HSS
          obtain ⟨g, hg⟩ : ∃ g, arF op x y = g := ⟨_, rfl⟩
          rw [hg] at HSS CG
          clear hx hy hg hja hjb p1 p2
          obtain ⟨xn, xd, xt⟩ := x
          obtain ⟨yn, yd, yt⟩ := y
          obtain ⟨gn, gd, gt⟩ := g
          simp only at d0 d1 d2 f0 f1 f2
          simp only [itc1] at HSS
          go_wp2_with fail
          refine J.wp_region_t (n := 91) [0, 1, 2, 3, 4, 5, 6, 7, 8, 9, 10, 11, 12, 13, 14, 15, 16, 17] [18] [0, 1, 0, 0, 0, 0, 32, 112, 248, 504, 0, 0, 0, 4096, 14336, 31744, 64512, 131068, 262140, 524287, 1048575, 2097151] (deps := fun i => [[], [0], [], [], [], [], [5], [4, 5, 6], [3, 4, 5, 6, 7], [3, 4, 5, 6, 7, 8], [], [], [], [12], [11, 12, 13], [10, 11, 12, 13, 14], [10, 11, 12, 13, 14, 15], [2, 3, 4, 5, 6, 7, 8, 9, 10, 11, 12, 13, 14, 15, 16], [2, 3, 4, 5, 6, 7, 8, 9, 10, 11, 12, 13, 14, 15, 16, 17], [], [], []].getD i []) (fun _ _ => (J.freshS 35 [.int .i64 gn, .int .i64 gd, .string gt])) (r := 3) (lst := #[true, true, true, true, true, true, true, true, true, true, true, true, true, true, true, true, true, true, true, false, false, false]) (by kernel_rfl) (by kernel_rfl) (by kernel_rfl) rfl (by decide) (by kernel_rfl) hO ?_
          refine zcp (h := ?_)
          refine zcc (f := fun M u hO K hK => by (exact zae hO rfl rfl _ (by exact at4) (by rfl) (by rfl) (hK _ hO))) (h := ?_)
          refine zcp (h := ?_)
          refine zcp (h := ?_)
          refine zcp (h := ?_)
          refine zcp (h := ?_)
          refine zcp (h := ?_)
          refine zcp (h := ?_)
          refine zcp (h := ?_)
          refine zcc (f := fun M u hO K hK => by ((have e0 := (hO.old hba).trans d0; have e1 := (hO.old hba).trans d1; have e2 := (hO.old hba).trans d2; have e3 := (hO.old hbc).trans f0; have e4 := (hO.old hbc).trans f1; have e5 := (hO.old hbc).trans f2; simp only [wp_at_zero, wp_at_succ]; go_step; exact hK _ hO))) (h := ?_)
          refine zcp (h := ?_)
          refine zcp (h := ?_)
          refine zcp (h := ?_)
          refine zcp (h := ?_)
          refine zcp (h := ?_)
          refine zcp (h := ?_)
          refine zcc (f := fun M u hO K hK => by ((have e0 := (hO.old hba).trans d0; have e1 := (hO.old hba).trans d1; have e2 := (hO.old hba).trans d2; have e3 := (hO.old hbc).trans f0; have e4 := (hO.old hbc).trans f1; have e5 := (hO.old hbc).trans f2; simp only [wp_at_zero, wp_at_succ]; go_step; exact hK _ hO))) (h := ?_)
          refine zcc (f := fun M u hO K hK => by (simp only [wp_at_zero, wp_at_succ]; go_step; refine (CG _).mono ?_; rintro e u ⟨rfl, hb⟩; exact hK _ (hO.step hb))) (h := ?_)
          refine J.Chain.nil ⟨?_, ?_⟩
          · refine J.Each.cons (by rfl) ?_ ?_; exact ⟨rfl, fun vs M u hO _ K hK => by (refine za4 (cs := [.int .i64 gn, .int .i64 gd, .string gt]) hO rfl (by simp only [Act.eval, zJ, zP, J.putL, zI, zG, zH, J.dstOf, zF, zD, zE, zS, zQ, zR, Act.put, zA, zB, zC]; rfl) rfl rfl (zM rfl) rfl fun b u hO => ?_; exact hK _ _ _ (show (J.freshS 35 [.int .i64 gn, .int .i64 gd, .string gt]) _ from ⟨b, rfl⟩) hO)⟩; exact J.Each.nil
          intro vs u hO hF
          obtain ⟨b4, h18⟩ : J.freshS _ _ (vs 18) := hF 18 (by decide)
          clear hF
          simp only [List.flatMap_cons, List.flatMap_nil, h18, List.append_nil, zL, zK] at hO
          simp only [h18, J.putL, zI, zG, zH, J.dstOf, zF, zD, zE, zS, zQ, zR, Act.put, zA, zB, zC]
          clear h18 vs
          refine J.wpAny_one (i := 19) (by kernel_rfl) (by rfl) rfl fun K hK => ?_
          refine za3 hO rfl rfl rfl _ (by exact at5) _ (by exact at6) (by rfl) (by simp [Value.oneCell']) (by omega) (by omega) rfl ?_
          clear hO
          intro A' c' u hO
          simp only [zC, zB] at hO
          simp only [Act.put, zA, zB, zC]
          refine hK _ _ ?_
          clear hK K
          refine J.wpAny_one (i := 20) (by kernel_rfl) (by rfl) rfl fun K hK => ?_
          simp only [wp_at_zero, wp_at_succ]
          go_step
          refine hK _ _ ?_
          clear hK K
          refine J.wpAny_one (i := 21) (by kernel_rfl) (by rfl) rfl fun K hK => ?_
          (refine za1 hO rfl rfl _ (by exact at4) (zM rfl) (by simp only [Act.eval, zJ, zF, zD, zE, zP]; rfl) (by rfl) (by rfl) (by rfl) ?_; clear hO; intro u hO; simp only [zC, zB] at hO; refine hK _ _ ?_; clear hK K)
          refine wpAny_done (by kernel_rfl) ?_ _
          go_wp2_with fail
          replace hO := hO.pick [0, 1, 2, 3, 4, 5] (by decide)
          simp only [zN, zO, zE, zD] at hO
          rw [← HSS.out] at hO
          go_roundw
          case rel => exact ⟨m + 1, _, _, by omega, by go_num, hO⟩
          case measure => simp [intOf]; omega
        · have hmn : m = N := by omega
          subst hmn
          have HN : Hid (m = (pwL (atI is) (atI is') (arF op) m).length) := Lib.hid (pwL_len _ _ _ _).symm
          go_wp2_with (first | ((with_reducible refine zaa ?_); refine zlb rfl hO rfl _ (by exact at4) ?_) | ((with_reducible refine zab ?_); refine zsb rfl hO rfl _ (by exact at3) rfl ?_; clear hO; intro u hO; simp only [zC, zB] at hO) | fail)
          have hR := hO.pick [5, 0] (by decide)
          simp only [List.filterMap_cons, List.filterMap_nil, List.getElem?_cons_zero, List.getElem?_cons_succ] at hR
          have hq := HN.out
          refine zau rfl hO rfl 3 at3 rfl rfl rfl ?_
          clear hO
          obtain ⟨XX, hXX⟩ : ∃ X, pwL (atI is) (atI is') (arF op) m = X := ⟨_, rfl⟩
          rw [hXX] at hR hq HF
          subst hq
          obtain ⟨F, hvo, hF⟩ := Own.vecN hR 2
          exact ⟨_, _, by rw [HG.out]; rfl, by rw [HF.out]; exact hvo, hF⟩

end Go.Proofs.YtmofcbpabdbjlaaGreat
