/-
  What is proved: what CoerceVector (of the program and of the reference) returns.
  Condition: vectors of size at most 1048576.
-/
import Derived.Test.YtmofcbpabdbjlaaVz6
import Derived.Test.YtmofcbpabdbjlaaVz23
import Derived.Test.YtmofcbpabdbjlaaVz31
namespace Go.Proofs.Ytmofcbpabdbjlaa

set_option maxRecDepth 8000

open Go.RowKit Go.ChangeShapes Go.WideShapes Go.Deep

set_option linter.unusedVariables false

set_option linter.unusedSimpArgs false

/-- parts and names, as a vector of a call's own -/
theorem Own.vecL {w0 w : World} {R : List Res} {ps : List VT} {ns : List ByteArray} {A B : Option Addr} {c d n : Nat} {pvs : List (List Value)} {Ls : List (List Res)} (hvl : VL ps pvs Ls) (hn : ps.length = n) (h : Own w0 (row 29 8 (.slice A n c) n pvs.flatten :: row 9 1 (.slice B ns.length d) ns.length (stc ns) :: Go.Proofs.Ytmofcbpabdbjlaa.pack Ls.flatten :: R) w) (k : Int) :
    ∃ F, VO (.mk k [] ps ns [] [] 0 0) [.int .i64 k, .slice none 0 0, .slice A n c, .slice B ns.length d, .slice none 0 0, .slice none 0 0, .int .i64 0, .int .i64 0] F ∧ Own w0 (Go.Proofs.Ytmofcbpabdbjlaa.pack F :: R) w := by
  subst hn
  have h1 := ((h.addNil 83 3).addNil 9 1).addNil 9 1
  have h2 := h1.perm (L' := [row 83 3 (.slice none 0 0) 0 [], row 29 8 (.slice A ps.length c) ps.length pvs.flatten, row 9 1 (.slice B ns.length d) ns.length (stc ns), row 9 1 (.slice none 0 0) 0 [], row 9 1 (.slice none 0 0) 0 []] ++ Go.Proofs.Ytmofcbpabdbjlaa.pack Ls.flatten :: R) (by
    simp only [List.cons_append, List.nil_append, List.append_assoc]
    have e : ∀ (X Y Z P I S T : Res) (L : List Res), (X :: Y :: P :: (L ++ [I, S, T])).Perm (I :: X :: Y :: S :: T :: P :: L) := fun X Y Z P I S T L => by
      refine (List.perm_append_comm (l₁ := X :: Y :: P :: L) (l₂ := [I, S, T])).trans ?_
      simp only [List.cons_append, List.nil_append]
      refine List.Perm.cons _ ?_
      refine (List.perm_append_comm (l₁ := [S, T]) (l₂ := [X, Y])).append_right (P :: L)
    exact e _ _ (row 0 0 undef 0 []) _ _ _ _ _)
  exact ⟨_, VO.close (is := []) (cs := []) (ls := []) hvl, Own.packs' [_, _, _, _, _] h2⟩

theorem Own.vecNm {w0 w : World} {L : List Res} {is : List It} {ns : List ByteArray} {A B : Option Addr} {c d n : Nat} (hn : is.length = n) (h : Own w0 (row 83 3 (.slice A n c) n (itc is) :: row 9 1 (.slice B ns.length d) ns.length (stc ns) :: L) w) (k : Int) :
    ∃ F, VO (Go.Proofs.Ytmofcbpabdbjlaa.vecN k is ns) [.int .i64 k, .slice A n c, .slice none 0 0, .slice B ns.length d, .slice none 0 0, .slice none 0 0, .int .i64 0, .int .i64 0] F ∧ Own w0 (Go.Proofs.Ytmofcbpabdbjlaa.pack F :: L) w := by
  subst hn
  exact Own.vecNn h k

def coB (kind : Int) (t : VT) : Bool := isV t && decide (0 ≤ kind) && decide (kind ≤ 4) && cvB kind t && isV (cvT kind t)

def coT (kind : Int) (t : VT) : VT := if coB kind t then cvT kind t else vecI 0 []

theorem co_no {kind : Int} {t : VT} (h : coB kind t = false) : coT kind t = vecI 0 [] := by unfold coT; rw [h]; rfl

theorem co_yes {kind : Int} {t : VT} (h : coB kind t = true) : coT kind t = cvT kind t := by unfold coT; rw [h]; rfl

theorem fmtN_le (n d : Int) (t : ByteArray) (h1 : -9223372036854775808 ≤ n) (h2 : n ≤ 9223372036854775807) (h3 : -9223372036854775808 ≤ d) (h4 : d ≤ 9223372036854775807) : (fmtN n d t).size ≤ 41 := by
  unfold fmtN
  have f1 := fmtI_le n h1 h2
  have f2 := fmtI_le d h3 h4
  split
  · exact Nat.le_of_ble_eq_true rfl
  · split
    · exact Nat.le_of_ble_eq_true rfl
    · split
      · omega
      · simp only [ByteArray.size_append]
        have : (⟨#[47]⟩ : ByteArray).size = 1 := rfl
        omega

theorem cvI_text {fk tk : Int} {x : It} (h : itemB fk x = true) : (cvI fk tk x).text.size ≤ 60 := by
  unfold cvI
  split
  · exact item_text h
  · rename_i hc
    simp only [Bool.or_eq_true, not_or, Bool.not_eq_true, decide_eq_true_eq] at hc
    split
    · rename_i h2
      subst h2
      have := num_bd h hc.1.1
      have := fmtN_le x.num x.den x.text (by omega) (by omega) (by omega) (by omega)
      show (fmtN x.num x.den x.text).size ≤ 60
      omega
    · split <;> exact Nat.le_of_ble_eq_true rfl

theorem szL_ones (k : Int) (l : List It) : szL (l.map (oneV k)) = 2 * l.length + itz l := by
  induction l with
  | nil => rfl
  | cons x l ih =>
    rw [List.map_cons]
    simp only [szL, oneV, vecI, szV, szI, szS, itz, stz, List.length_cons, List.length_nil, ih]
    omega

theorem szL_app (a b : List VT) : szL (a ++ b) = szL a + szL b := by
  induction a with
  | nil => simp [szL]
  | cons x a ih => simp [szL, ih, Nat.add_assoc]

theorem isV_itemB {t : VT} (h : isV t = true) : ∀ x ∈ t.items, itemB t.kind x = true := by
  obtain ⟨k, is, ps, ns, cs, ls, c, e⟩ := t
  intro x hx
  have h3 := (node_facts (isV_node h)).2.2.2.2.2.2.1 x hx
  unfold itB at h3
  simp only [Bool.and_eq_true] at h3
  exact h3.1.2

theorem cv_sz {kind : Int} {t : VT} (h : isV t = true) : szV (cvT kind t) ≤ 1048576 := by
  have hs := isV_small h
  have hi := isV_itemB h
  obtain ⟨k, is, ps, ns, cs, ls, c, e⟩ := t
  have hf := node_facts (isV_node h)
  have h40 : is.length ≤ 40 := by
    have h1 := hf.2.1
    have h2 := hf.2.2.2.2.2.2.2.2.1
    unfold lenN at h1
    by_cases h5 : k = 5
    · have := (h2 h5).1
      omega
    · rw [if_neg h5] at h1
      omega
  have hs' : szI is + szL ps + szS ns + szS cs + szS ls ≤ 341500 := hs
  have hi' : ∀ x ∈ is, itemB k x = true := hi
  show szV (if k = 5 then .mk kind [] [.mk k is ps ns cs ls c e] ns [] [] 0 0 else if kind < k then vecI 0 [] else if kind = 4 then .mk 4 [] (ps ++ is.map (oneV k)) ns [] [] 0 0 else vecN kind (is.map (cvI k kind)) ns) ≤ 1048576
  have z0 : szS ([] : List ByteArray) = 0 := rfl
  split
  · simp only [szV, szL, szI, itz, List.length_nil, z0]
    simp only [szI] at hs'
    omega
  · split
    · simp [vecI, szV, szI, szL, szS, stz, itz]
    · split
      · simp only [szV, szL_app, szL_ones, z0, szI, itz, List.length_nil]
        simp only [szI] at hs'
        omega
      · have hz := itz_sh (z := 60) (l := is.map (cvI k kind)) (by
          intro x hx
          obtain ⟨y, hy, rfl⟩ := List.mem_map.1 hx
          exact cvI_text (hi' y hy))
        rw [List.length_map] at hz
        simp only [vecN, szV, szI, szL, z0, List.length_map]
        omega

set_option maxRecDepth 20000 in
set_option maxHeartbeats 4000000 in
theorem impl_co (kind : Int) (t : VT) (vs : List Value) (w : World) (hv : RdV w t vs) (hz : szV t ≤ 1048576) :
    Calls Try.prog 40 #[.agg vs.toArray, .int .i64 kind] w (RetVB (coT kind t) (coB kind t) w) := by
  have CA := fun u (hb : Below w.heap.size w u) => impl_isVec t _ u (hv.grow hb) hz
  have CV := fun (h : isV t = true) u (hb : Below w.heap.size w u) => RetVE.ofB (impl_convert kind t _ u (hv.grow hb) hz (isV_itemB h))
  have HB : Hid (coB kind t = (isV t && decide (0 ≤ kind) && decide (kind ≤ 4) && cvB kind t && isV (cvT kind t))) := Lib.hid rfl
  have HT : Hid (coT kind t = if (isV t && decide (0 ≤ kind) && decide (kind ≤ 4) && cvB kind t && isV (cvT kind t)) = true then cvT kind t else vecI 0 []) := Lib.hid rfl
  have HZ := Lib.hid (fun h => cv_sz (kind := kind) (t := t) h)
  obtain ⟨X, hX⟩ : ∃ X, coT kind t = X := ⟨_, rfl⟩
  obtain ⟨Y, hY⟩ : ∃ Y, coB kind t = Y := ⟨_, rfl⟩
  rw [hX, hY]
  rw [hX] at HT
  rw [hY] at HB
  obtain ⟨q, hq⟩ : ∃ q, isV t = q := ⟨_, rfl⟩
  rw [hq] at CA CV HB HT HZ
  obtain ⟨r, hr⟩ : ∃ r, cvB kind t = r := ⟨_, rfl⟩
  rw [hr] at CV HB HT
  obtain ⟨Z, hZ⟩ : ∃ Z, cvT kind t = Z := ⟨_, rfl⟩
  rw [hZ] at CV HB HT HZ
  obtain ⟨Ai, Ap, An, Ac, Al, ci, cp, cn, cc, cl, rfl⟩ := hv.ex
  clear hX hY hv hz hq hr hZ
  cases q with
  | false =>
    have HG : Hid (Y = false) := Lib.hid (by rw [HB.out]; simp)
    have HF : Hid (X = vecI 0 []) := Lib.hid (by rw [HT.out, if_neg (by rw [← HB.out, HG.out]; decide)])
    clear HT HB CV HZ
    go_enter Try.func40, Try.ntmps40
    have hO := Own.nil w
    go_wp2_with (first | ((with_reducible refine (CA _ hO.below).mono ?_); rintro e u ⟨rfl, hb⟩; (replace hO := hO.step hb; clear hb)) | ((with_reducible refine zac ?_); refine zal rfl hO rfl ?_; (refine nm 1 rfl ?_; clear hO; intro b1 u hO); simp only [zL, zK] at hO) | ((with_reducible refine zaf ?_); refine zbx rfl hO rfl rfl ?_; (refine nm 0 rfl ?_; clear hO; intro b0 u hO); simp only [zL, zK] at hO) | ((with_reducible refine zaa ?_); refine zlb rfl hO rfl _ (by exact at0) ?_) | ((with_reducible refine zab ?_); refine zsb rfl hO rfl _ (by exact at1) rfl ?_; clear hO; intro u hO; simp only [zC, zB] at hO) | fail)
    obtain ⟨F, hvo, hF⟩ := Own.vec0 u 0
    exact zap rfl hO rfl 1 at1 rfl rfl rfl ⟨_, _, by rw [HG.out]; rfl, by rw [HF.out]; exact hvo, (hO.call hF).pick [0] (by decide)⟩
  | true =>
    by_cases k0 : kind < 0
    · have k00 : ¬ 0 ≤ kind := by omega
      have HG : Hid (Y = false) := Lib.hid (by rw [HB.out]; simp [k00])
      have HF : Hid (X = vecI 0 []) := Lib.hid (by rw [HT.out, if_neg (by rw [← HB.out, HG.out]; decide)])
      clear HT HB CV HZ k00
      go_enter Try.func40, Try.ntmps40
      have hO := Own.nil w
      go_wp2_with (first | ((with_reducible refine (CA _ hO.below).mono ?_); rintro e u ⟨rfl, hb⟩; (replace hO := hO.step hb; clear hb)) | ((with_reducible refine zac ?_); refine zal rfl hO rfl ?_; (refine nm 1 rfl ?_; clear hO; intro b1 u hO); simp only [zL, zK] at hO) | ((with_reducible refine zaf ?_); refine zbx rfl hO rfl rfl ?_; (refine nm 0 rfl ?_; clear hO; intro b0 u hO); simp only [zL, zK] at hO) | ((with_reducible refine zaa ?_); refine zlb rfl hO rfl _ (by exact at0) ?_) | ((with_reducible refine zab ?_); refine zsb rfl hO rfl _ (by exact at1) rfl ?_; clear hO; intro u hO; simp only [zC, zB] at hO) | fail)
      obtain ⟨F, hvo, hF⟩ := Own.vec0 u 0
      exact zap rfl hO rfl 1 at1 rfl rfl rfl ⟨_, _, by rw [HG.out]; rfl, by rw [HF.out]; exact hvo, (hO.call hF).pick [0] (by decide)⟩
    by_cases k4 : 4 < kind
    · have k04 : ¬ kind ≤ 4 := by omega
      have HG : Hid (Y = false) := Lib.hid (by rw [HB.out]; simp [k04])
      have HF : Hid (X = vecI 0 []) := Lib.hid (by rw [HT.out, if_neg (by rw [← HB.out, HG.out]; decide)])
      clear HT HB CV HZ k04
      go_enter Try.func40, Try.ntmps40
      have hO := Own.nil w
      go_wp2_with (first | ((with_reducible refine (CA _ hO.below).mono ?_); rintro e u ⟨rfl, hb⟩; (replace hO := hO.step hb; clear hb)) | ((with_reducible refine zac ?_); refine zal rfl hO rfl ?_; (refine nm 1 rfl ?_; clear hO; intro b1 u hO); simp only [zL, zK] at hO) | ((with_reducible refine zaf ?_); refine zbx rfl hO rfl rfl ?_; (refine nm 0 rfl ?_; clear hO; intro b0 u hO); simp only [zL, zK] at hO) | ((with_reducible refine zaa ?_); refine zlb rfl hO rfl _ (by exact at0) ?_) | ((with_reducible refine zab ?_); refine zsb rfl hO rfl _ (by exact at1) rfl ?_; clear hO; intro u hO; simp only [zC, zB] at hO) | fail)
      obtain ⟨F, hvo, hF⟩ := Own.vec0 u 0
      exact zap rfl hO rfl 1 at1 rfl rfl rfl ⟨_, _, by rw [HG.out]; rfl, by rw [HF.out]; exact hvo, (hO.call hF).pick [0] (by decide)⟩
    have k00 : 0 ≤ kind := by omega
    have k04 : kind ≤ 4 := by omega
    have hsz := HZ.out rfl
    replace CV := fun u (hb : Below w.heap.size w u) => CV rfl u hb
    cases r with
    | false =>
      have HG : Hid (Y = false) := Lib.hid (by rw [HB.out]; simp)
      have HF : Hid (X = vecI 0 []) := Lib.hid (by rw [HT.out, if_neg (by rw [← HB.out, HG.out]; decide)])
      clear HT HB HZ k00 k04
      go_enter Try.func40, Try.ntmps40
      have hO := Own.nil w
      go_wp2_with (first | ((with_reducible refine (CA _ hO.below).mono ?_); rintro e u ⟨rfl, hb⟩; (replace hO := hO.step hb; clear hb)) | ((with_reducible refine zac ?_); refine zal rfl hO rfl ?_; (refine nm 1 rfl ?_; clear hO; intro b1 u hO); simp only [zL, zK] at hO) | ((with_reducible refine zaf ?_); refine zbx rfl hO rfl rfl ?_; (refine nm 0 rfl ?_; clear hO; intro b0 u hO); simp only [zL, zK] at hO) | ((with_reducible refine zaa ?_); refine zlb rfl hO rfl _ (by exact at0) ?_) | fail)
      refine (CV _ hO.below).mono ?_
      rintro e u ⟨Q1, Q2, Q3, Q4, Q5, m1, m2, m3, m4, m5, F, rfl, hvo, hb⟩
      replace hO := hO.call hb
      clear hb CV
      simp only [List.cons_append, List.nil_append] at hO
      go_wp2_with (first | ((with_reducible refine zac ?_); refine zal rfl hO rfl ?_; (refine nm 3 rfl ?_; clear hO; intro b3 u hO); simp only [zL, zK] at hO) | ((with_reducible refine zab ?_); refine zsb rfl hO rfl _ (by (first | exact at2 | exact at3 | fail)) rfl ?_; clear hO; intro u hO; simp only [zC, zB] at hO) | fail)
      obtain ⟨F2, hvo2, hF⟩ := Own.vec0 u 0
      exact zap rfl hO rfl 2 at2 rfl rfl rfl ⟨_, _, by rw [HG.out]; rfl, by rw [HF.out]; exact hvo2, (hO.call hF).pick [0] (by decide)⟩
    | true =>
      have CI := fun vs1 u (h : RdV u Z vs1) => impl_isVec Z vs1 u h hsz
      obtain ⟨s, hs⟩ : ∃ s, isV Z = s := ⟨_, rfl⟩
      rw [hs] at CI HB HT
      clear hs
      cases s with
      | false =>
        have HG : Hid (Y = false) := Lib.hid (by rw [HB.out]; simp)
        have HF : Hid (X = vecI 0 []) := Lib.hid (by rw [HT.out, if_neg (by rw [← HB.out, HG.out]; decide)])
        clear HT HB HZ k00 k04
        go_enter Try.func40, Try.ntmps40
        have hO := Own.nil w
        go_wp2_with (first | ((with_reducible refine (CA _ hO.below).mono ?_); rintro e u ⟨rfl, hb⟩; (replace hO := hO.step hb; clear hb)) | ((with_reducible refine zac ?_); refine zal rfl hO rfl ?_; (refine nm 1 rfl ?_; clear hO; intro b1 u hO); simp only [zL, zK] at hO) | ((with_reducible refine zaf ?_); refine zbx rfl hO rfl rfl ?_; (refine nm 0 rfl ?_; clear hO; intro b0 u hO); simp only [zL, zK] at hO) | ((with_reducible refine zaa ?_); refine zlb rfl hO rfl _ (by exact at0) ?_) | fail)
        refine (CV _ hO.below).mono ?_
        rintro e u ⟨Q1, Q2, Q3, Q4, Q5, m1, m2, m3, m4, m5, F, rfl, hvo, hb⟩
        replace hO := hO.call hb
        clear hb CV
        simp only [List.cons_append, List.nil_append] at hO
        go_wp2_with (first | ((with_reducible refine (CI _ _ (hO.rdp 0 rfl hvo)).mono ?_); rintro e u ⟨rfl, hb⟩; (replace hO := hO.step hb; clear hb)) | ((with_reducible refine zac ?_); refine zal rfl hO rfl ?_; (refine nm 3 rfl ?_; clear hO; intro b3 u hO); simp only [zL, zK] at hO) | ((with_reducible refine zaa ?_); refine zlb rfl hO rfl _ (by exact at3) ?_) | ((with_reducible refine zab ?_); refine zsb rfl hO rfl _ (by (first | exact at2 | exact at3 | fail)) rfl ?_; clear hO; intro u hO; simp only [zC, zB] at hO) | fail)
        obtain ⟨F2, hvo2, hF⟩ := Own.vec0 u 0
        exact zap rfl hO rfl 2 at2 rfl rfl rfl ⟨_, _, by rw [HG.out]; rfl, by rw [HF.out]; exact hvo2, (hO.call hF).pick [0] (by decide)⟩
      | true =>
        have HG : Hid (Y = true) := Lib.hid (by rw [HB.out]; simp [k00, k04])
        have HF : Hid (X = Z) := Lib.hid (by rw [HT.out, if_pos (by simp [k00, k04])])
        clear HT HB HZ k00 k04
        go_enter Try.func40, Try.ntmps40
        have hO := Own.nil w
        go_wp2_with (first | ((with_reducible refine (CA _ hO.below).mono ?_); rintro e u ⟨rfl, hb⟩; (replace hO := hO.step hb; clear hb)) | ((with_reducible refine zac ?_); refine zal rfl hO rfl ?_; (refine nm 1 rfl ?_; clear hO; intro b1 u hO); simp only [zL, zK] at hO) | ((with_reducible refine zaf ?_); refine zbx rfl hO rfl rfl ?_; (refine nm 0 rfl ?_; clear hO; intro b0 u hO); simp only [zL, zK] at hO) | ((with_reducible refine zaa ?_); refine zlb rfl hO rfl _ (by exact at0) ?_) | fail)
        refine (CV _ hO.below).mono ?_
        rintro e u ⟨Q1, Q2, Q3, Q4, Q5, m1, m2, m3, m4, m5, F, rfl, hvo, hb⟩
        replace hO := hO.call hb
        clear hb CV
        simp only [List.cons_append, List.nil_append] at hO
        go_wp2_with (first | ((with_reducible refine (CI _ _ (hO.rdp 0 rfl hvo)).mono ?_); rintro e u ⟨rfl, hb⟩; (replace hO := hO.step hb; clear hb)) | ((with_reducible refine zac ?_); refine zal rfl hO rfl ?_; (refine nm 3 rfl ?_; clear hO; intro b3 u hO); simp only [zL, zK] at hO) | ((with_reducible refine zaa ?_); refine zlb rfl hO rfl _ (by exact at3) ?_) | ((with_reducible refine zab ?_); refine zsb rfl hO rfl _ (by (first | exact at2 | exact at3 | fail)) rfl ?_; clear hO; intro u hO; simp only [zC, zB] at hO) | fail)
        exact zap rfl hO rfl 2 at2 rfl rfl rfl ⟨_, _, by rw [HG.out]; rfl, by rw [HF.out]; exact hvo, hO.pick [0] (by decide)⟩

theorem isV_shape {k : Int} {is : List It} {ps : List VT} {ns cs ls : List ByteArray} {c e : Int} (h : isV (.mk k is ps ns cs ls c e) = true) : (k = 4 → is = []) ∧ (k = 5 → is = []) ∧ (k ≠ 4 → ps = []) := by
  have hf := node_facts (isV_node h)
  refine ⟨fun h4 => ?_, fun h5 => List.length_eq_zero_iff.1 (hf.2.2.2.2.2.2.2.2.1 h5).1, fun h4 => ?_⟩
  · cases is with
    | nil => rfl
    | cons x l =>
      have h3 := hf.2.2.2.2.2.2.1 x (List.mem_cons_self)
      unfold itB at h3
      simp only [Bool.and_eq_true, decide_eq_true_eq] at h3
      omega
  · rcases hf.2.2.2.2.2.2.2.1 with h | h
    · exact List.length_eq_zero_iff.1 h
    · exact absurd h h4

set_option maxRecDepth 20000 in
set_option maxHeartbeats 8000000 in
theorem spec_co (kind : Int) (t : VT) (vs : List Value) (w : World) (hv : RdV w t vs) (hz : szV t ≤ 1048576) :
    Calls Try.prog 39 #[.agg vs.toArray, .int .i64 kind] w (RetVB (coT kind t) (coB kind t) w) := by
  have CA := fun u (hb : Below w.heap.size w u) => spec_isVec t _ u (hv.grow hb) hz
  have CP := fun (hB : isV t = true) u (hb : Below w.heap.size w u) => spec_copy t (isV_lB hB) _ u (hv.grow hb) hz
  have HI := Lib.hid (fun h => isV_itemB (t := t) h)
  have HZ := Lib.hid (fun h => cv_sz (kind := kind) (t := t) h)
  obtain ⟨k, is, ps, ns, cs, ls, c, e⟩ := t
  replace CP := fun (hB : isV (.mk k is ps ns cs ls c e) = true) u (hb : Below w.heap.size w u) => (CP hB u hb).mono fun e' w' h => RetV.exC h
  have HB : Hid (coB kind (.mk k is ps ns cs ls c e) = (isV (.mk k is ps ns cs ls c e) && decide (0 ≤ kind) && decide (kind ≤ 4) && (if k = 5 then decide (kind = 4) else decide (k ≤ kind)) && isV (cvT kind (.mk k is ps ns cs ls c e)))) := Lib.hid rfl
  have HT : Hid (coT kind (.mk k is ps ns cs ls c e) = if coB kind (.mk k is ps ns cs ls c e) = true then cvT kind (.mk k is ps ns cs ls c e) else vecI 0 []) := Lib.hid rfl
  have HC : Hid (cvT kind (.mk k is ps ns cs ls c e) = if k = 5 then .mk kind [] [.mk k is ps ns cs ls c e] ns [] [] 0 0 else if kind < k then vecI 0 [] else if kind = 4 then .mk 4 [] (ps ++ is.map (oneV k)) ns [] [] 0 0 else vecN kind (is.map (cvI k kind)) ns) := Lib.hid rfl
  have HS := Lib.hid (fun h => isV_shape (k := k) (is := is) (ps := ps) (ns := ns) (cs := cs) (ls := ls) (c := c) (e := e) h)
  have HP := Lib.hid (fun h => isV_parts (k := k) (is := is) (ps := ps) (ns := ns) (cs := cs) (ls := ls) (c := c) (e := e) h)
  have HN := Lib.hid (fun h => (node_facts (isV_node (t := .mk k is ps ns cs ls c e) h)).1)
  obtain ⟨X, hX⟩ : ∃ X, coT kind (.mk k is ps ns cs ls c e) = X := ⟨_, rfl⟩
  obtain ⟨Y, hY⟩ : ∃ Y, coB kind (.mk k is ps ns cs ls c e) = Y := ⟨_, rfl⟩
  rw [hX, hY]
  rw [hX, hY] at HT
  rw [hY] at HB
  obtain ⟨q, hq⟩ : ∃ q, isV (.mk k is ps ns cs ls c e) = q := ⟨_, rfl⟩
  rw [hq] at CA CP HB HZ HI HS HP HN
  obtain ⟨Z, hZ⟩ : ∃ Z, cvT kind (.mk k is ps ns cs ls c e) = Z := ⟨_, rfl⟩
  rw [hZ] at HB HT HZ HC
  have hsz : szI is + szL ps + szS ns + szS cs + szS ls ≤ 1048576 := hz
  have z2 : szL ps ≤ 1048576 := by omega
  have z3 : ns.length ≤ 1048576 := by unfold szS at hsz; omega
  have z1 : is.length ≤ 1048576 := by unfold szI at hsz; omega
  obtain ⟨Ai, Ap, An, Ac, Al, ci, cp, cn, cc, cl, pvs, rfl, h1, h2, h3, h4, h5⟩ := hv.open
  have S3 := fun u (hb : Below w.heap.size w u) => h3.below hb
  have CL := fun u (hb : Below w.heap.size w u) => spec_copiesL Ap cp ps pvs u (h2.below hb) z2
  clear hX hY hv hz hq hZ hsz h2 h3 h4 h5
  cases q with
  | false =>
    have HG : Hid (Y = false) := Lib.hid (by rw [HB.out]; simp)
    have HF : Hid (X = vecI 0 []) := Lib.hid (by rw [HT.out, HG.out]; rfl)
    clear HT HB HC HZ HI HS HP HN CP CL S3 h1
    go_enter Try.func39, Try.ntmps39
    have hO := Own.nil w
    go_wp2_with (first | ((with_reducible refine (CA _ hO.below).mono ?_); rintro e u ⟨rfl, hb⟩; (replace hO := hO.step hb; clear hb)) | ((with_reducible refine zac ?_); refine zal rfl hO rfl ?_; (refine nm 1 rfl ?_; clear hO; intro b1 u hO); simp only [zL, zK] at hO) | ((with_reducible refine zaf ?_); refine zbx rfl hO rfl rfl ?_; (refine nm 0 rfl ?_; clear hO; intro b0 u hO); simp only [zL, zK] at hO) | ((with_reducible refine zaa ?_); refine zlb rfl hO rfl _ (by exact at0) ?_) | ((with_reducible refine zab ?_); refine zsb rfl hO rfl _ (by exact at1) rfl ?_; clear hO; intro u hO; simp only [zC, zB] at hO) | fail)
    obtain ⟨F, hvo, hF⟩ := Own.vec0 u 0
    exact zap rfl hO rfl 1 at1 rfl rfl rfl ⟨_, _, by rw [HG.out]; rfl, by rw [HF.out]; exact hvo, (hO.call hF).pick [0] (by decide)⟩
  | true =>
    have hk := HN.out rfl
    by_cases kk : ¬ (0 ≤ kind ∧ kind ≤ 4)
    · have i1 := inI_false kk
      have HG : Hid (Y = false) := Lib.hid (by rw [HB.out]; rw [Bool.and_assoc true, show (decide (0 ≤ kind) && decide (kind ≤ 4)) = false from i1]; simp)
      have HF : Hid (X = vecI 0 []) := Lib.hid (by rw [HT.out, HG.out]; rfl)
      clear HT HB HC HZ HI HS HP HN CP CL S3 h1
      have CN := fun u => spec_in kind 0 4 u
      rw [i1] at CN
      clear i1 kk
      go_enter Try.func39, Try.ntmps39
      have hO := Own.nil w
      go_wp2_with (first | ((with_reducible refine (CA _ hO.below).mono ?_); rintro e u ⟨rfl, hb⟩; (replace hO := hO.step hb; clear hb)) | ((with_reducible refine (CN _).mono ?_); rintro e u ⟨rfl, hb⟩; subst hb) | ((with_reducible refine zac ?_); refine zal rfl hO rfl ?_; (refine nm 1 rfl ?_; clear hO; intro b1 u hO); simp only [zL, zK] at hO) | ((with_reducible refine zaf ?_); refine zbx rfl hO rfl rfl ?_; (refine nm 0 rfl ?_; clear hO; intro b0 u hO); simp only [zL, zK] at hO) | ((with_reducible refine zaa ?_); refine zlb rfl hO rfl _ (by exact at0) ?_) | ((with_reducible refine zab ?_); refine zsb rfl hO rfl _ (by exact at1) rfl ?_; clear hO; intro u hO; simp only [zC, zB] at hO) | fail)
      obtain ⟨F, hvo, hF⟩ := Own.vec0 u 0
      exact zap rfl hO rfl 1 at1 rfl rfl rfl ⟨_, _, by rw [HG.out]; rfl, by rw [HF.out]; exact hvo, (hO.call hF).pick [0] (by decide)⟩
    replace kk := Decidable.not_not.1 kk
    have i1 := inI_true kk
    have CN := fun u => spec_in kind 0 4 u
    rw [i1] at CN
    obtain ⟨k00, k04⟩ := kk
    clear i1
    by_cases g1 : kind < k ∧ k ≠ 5
    · have q5 : (k == 5) = false := by simp [g1.2]
      have g2 := g1.1
      have g3 : ¬ k ≤ kind := by omega
      have n5 : (k != 5) = true := by simp [g1.2]
      have HG : Hid (Y = false) := Lib.hid (by rw [HB.out]; rw [if_neg g1.2]; simp [g3])
      have HF : Hid (X = vecI 0 []) := Lib.hid (by rw [HT.out, HG.out]; rfl)
      clear HT HB HC HZ HI HS HP HN CP CL S3 h1
      clear g1 g3
      go_enter Try.func39, Try.ntmps39
      have hO := Own.nil w
      go_wp2_with (first | ((with_reducible refine (CA _ hO.below).mono ?_); rintro e u ⟨rfl, hb⟩; (replace hO := hO.step hb; clear hb)) | ((with_reducible refine (CN _).mono ?_); rintro e u ⟨rfl, hb⟩; subst hb) | ((with_reducible refine zac ?_); refine zal rfl hO rfl ?_; (refine nm 1 rfl ?_; clear hO; intro b1 u hO); simp only [zL, zK] at hO) | ((with_reducible refine zaf ?_); refine zbx rfl hO rfl rfl ?_; (refine nm 0 rfl ?_; clear hO; intro b0 u hO); simp only [zL, zK] at hO) | ((with_reducible refine zaa ?_); refine zlb rfl hO rfl _ (by exact at0) ?_) | ((with_reducible refine zaa ?_); refine zlf rfl hO rfl _ (by exact at0) ?_) | ((with_reducible refine zab ?_); refine zsb rfl hO rfl _ (by exact at1) rfl ?_; clear hO; intro u hO; simp only [zC, zB] at hO) | fail)
      obtain ⟨F, hvo, hF⟩ := Own.vec0 u 0
      exact zap rfl hO rfl 1 at1 rfl rfl rfl ⟨_, _, by rw [HG.out]; rfl, by rw [HF.out]; exact hvo, (hO.call hF).pick [0] (by decide)⟩
    by_cases g5 : k = 5
    · have hi := Lib.hid ((HS.out rfl).2.1 g5)
      subst g5
      by_cases g4 : kind = 4
      · subst g4
        have HY : Hid (Y = isV Z) := Lib.hid (by rw [HB.out]; simp)
        have HZF : Hid (Z = .mk 4 [] [.mk 5 is ps ns cs ls c e] ns [] [] 0 0) := Lib.hid (by rw [HC.out, if_pos rfl])
        have hsz := HZ.out rfl
        replace CP := fun u (hb : Below w.heap.size w u) => CP rfl u hb
        have CI := fun vs1 u (h : RdV u Z vs1) => spec_isVec Z vs1 u h hsz
        clear HC HZ HI HS HP HN CL h1 hk
        go_enter Try.func39, Try.ntmps39
        have hO := Own.nil w
        go_wp2_with (first | ((with_reducible refine (CA _ hO.below).mono ?_); rintro e u ⟨rfl, hb⟩; (replace hO := hO.step hb; clear hb)) | ((with_reducible refine (CN _).mono ?_); rintro e u ⟨rfl, hb⟩; subst hb) | ((with_reducible refine zac ?_); refine zal rfl hO rfl ?_; (first | (refine nm 1 rfl ?_; clear hO; intro b1 u hO) | (refine nm 3 rfl ?_; clear hO; intro b3 u hO) | fail); simp only [zL, zK] at hO) | ((with_reducible refine zaf ?_); refine zbx rfl hO rfl rfl ?_; (refine nm 0 rfl ?_; clear hO; intro b0 u hO); simp only [zL, zK] at hO) | ((with_reducible refine zaa ?_); refine zlb rfl hO rfl _ (by exact at0) ?_) | ((with_reducible refine zaa ?_); refine zlf rfl hO rfl _ (by exact at0) ?_) | ((with_reducible refine zab ?_); refine zsb rfl hO rfl _ (by exact at3) rfl ?_; clear hO; intro u hO; simp only [zC, zB] at hO) | ((with_reducible refine zag ?_); refine zav hO rfl (by rfl) rfl (fun b => by simp only [Act.put, zA, zB, zC]; rfl) ?_; clear hO; intro bb u hO; simp only [zL, zK] at hO) | ((with_reducible refine zaq ?_); refine zar hO rfl (by rfl) rfl rfl _ (by exact at2) (S3 _ hO.below) (stc_one _) (by omega) (by omega) rfl (fun A' c' => by simp only [Act.put, zA, zB, zC]; rfl) ?_; clear hO; intro A' c' u hO; simp only [zC, zB, Nat.zero_add, zL] at hO; (try simp only [Nat.zero_add])) | fail)
        refine (CP _ hO.below).mono ?_
        rintro e u ⟨Ci, Cp, Cn, Cc, Cl, ri, rp, rn, rc, rl, F, rfl, hvo, hb⟩
        replace hO := hO.call hb
        clear hb
        simp only [zK, zL] at hO
        go_wp2_with (first | ((with_reducible refine zab ?_); refine zsf rfl hO rfl _ (by exact at4) (zM rfl) ?_; clear hO; intro u hO; simp only [zC, zB] at hO) | ((with_reducible refine zag ?_); refine zak (cs := [.int .i64 5, .slice Ci is.length ri, .slice Cp ps.length rp, .slice Cn ns.length rn, .slice Cc cs.length rc, .slice Cl ls.length rl, .int .i64 c, .int .i64 e]) hO rfl (by rfl) (by simp only [Act.eval, zJ, zF, zD, zE, zP]; rfl) rfl rfl (zM rfl) rfl (fun b => by simp only [Act.put, zA, zB, zC]; rfl) ?_; clear hO; intro bb u hO; simp only [zL, zK] at hO) | fail)
        replace hO := hO.pick [5, 0, 3, 1, 2, 4] (by decide)
        simp only [zN, zO, zE, zD] at hO
        replace hO := hO.box_row 8 1 rfl (by decide)
        rw [← show [F].flatten = F by simp] at hO
        have hvl := VL.one hvo
        clear hvo
        go_loopw [7] (fun i u => i = .int .i64 0 ∧ Own w [row 29 8 (.slice (some ⟨bb, 0, none⟩) 1 1) 1 [.int .i64 5, .slice Ci is.length ri, .slice Cp ps.length rp, .slice Cn ns.length rn, .slice Cc cs.length rc, .slice Cl ls.length rl, .int .i64 c, .int .i64 e], pack [F].flatten, row 9 1 (.slice A' ns.length c') ns.length (stc ns), box b0 29 [.int .i64 5, .slice Ai is.length ci, .slice Ap ps.length cp, .slice An ns.length cn, .slice Ac cs.length cc, .slice Al ls.length cl, .int .i64 c, .int .i64 e], box b1 29 [.int .i64 0, .slice none 0 0, .slice none 0 0, .slice none 0 0, .slice none 0 0, .slice none 0 0, .int .i64 0, .int .i64 0], box b3 29 [.int .i64 4, .slice none 0 0, .slice (some ⟨bb, 0, none⟩) 1 1, .slice A' ns.length c', .slice none 0 0, .slice none 0 0, .int .i64 0, .int .i64 0]] u) (fun i _ => 0)
        case atStart => exact ⟨rfl, hO⟩
        case round =>
          clear hO
          obtain ⟨rfl, hO⟩ := hrel
          have hn : ¬ (0 : Int) < (is.length : Int) := by rw [hi.out]; decide
          go_wp2_with (first | ((with_reducible refine zaa ?_); refine zlb rfl hO rfl _ (by exact at5) ?_) | ((with_reducible refine zaa ?_); refine zlf rfl hO rfl _ (by exact at3) ?_) | fail)
          replace hO := hO.pick [0, 2, 1, 3, 4, 5] (by decide)
          simp only [zN, zO, zE, zD] at hO
          obtain ⟨F3, hvo, hO⟩ := Own.vecL (n := 1) (ps := [.mk 5 is ps ns cs ls c e]) (ns := ns) hvl rfl hO 4
          rw [← HZF.out] at hvo
          obtain ⟨s, hs⟩ : ∃ s, isV Z = s := ⟨_, rfl⟩
          rw [hs] at CI HY
          clear hs
          cases s with
          | false =>
            have HG : Hid (Y = false) := HY
            have HF : Hid (X = vecI 0 []) := Lib.hid (by rw [HT.out, HG.out]; rfl)
            clear HT HY HB HZF
            go_wp2_with (first | ((with_reducible refine (CI _ _ (hO.rdp 0 rfl hvo)).mono ?_); rintro e u ⟨rfl, hb⟩; (replace hO := hO.step hb; clear hb)) | ((with_reducible refine zab ?_); refine zsb rfl hO rfl _ (by exact at2) rfl ?_; clear hO; intro u hO; simp only [zC, zB] at hO) | fail)
            obtain ⟨F2, hvo2, hF⟩ := Own.vec0 u 0
            exact zap rfl hO rfl 2 at2 rfl rfl rfl ⟨_, _, by rw [HG.out]; rfl, by rw [HF.out]; exact hvo2, (hO.call hF).pick [0] (by decide)⟩
          | true =>
            have HG : Hid (Y = true) := HY
            have HF : Hid (X = Z) := Lib.hid (by rw [HT.out, HG.out]; rfl)
            clear HT HY HB HZF
            go_wp2_with (first | ((with_reducible refine (CI _ _ (hO.rdp 0 rfl hvo)).mono ?_); rintro e u ⟨rfl, hb⟩; (replace hO := hO.step hb; clear hb)) | ((with_reducible refine zaa ?_); refine zlb rfl hO rfl _ (by exact at3) ?_) | ((with_reducible refine zab ?_); refine zsb rfl hO rfl _ (by exact at2) rfl ?_; clear hO; intro u hO; simp only [zC, zB] at hO) | fail)
            exact zap rfl hO rfl 2 at2 rfl rfl rfl ⟨_, _, by rw [HG.out]; rfl, by rw [HF.out]; exact hvo, hO.pick [0] (by decide)⟩
      · have q4 : (kind == 4) = false := by simp [g4]
        have n4 : (kind != 4) = true := by simp [g4]
        have HG : Hid (Y = false) := Lib.hid (by rw [HB.out]; simp [g4])
        have HF : Hid (X = vecI 0 []) := Lib.hid (by rw [HT.out, HG.out]; rfl)
        clear HT HB HC HZ HI HS HP HN CP CL S3 h1
        have hlt : kind < 5 := by omega
        go_enter Try.func39, Try.ntmps39
        have hO := Own.nil w
        go_wp2_with (first | ((with_reducible refine (CA _ hO.below).mono ?_); rintro e u ⟨rfl, hb⟩; (replace hO := hO.step hb; clear hb)) | ((with_reducible refine (CN _).mono ?_); rintro e u ⟨rfl, hb⟩; subst hb) | ((with_reducible refine zac ?_); refine zal rfl hO rfl ?_; (refine nm 1 rfl ?_; clear hO; intro b1 u hO); simp only [zL, zK] at hO) | ((with_reducible refine zaf ?_); refine zbx rfl hO rfl rfl ?_; (refine nm 0 rfl ?_; clear hO; intro b0 u hO); simp only [zL, zK] at hO) | ((with_reducible refine zaa ?_); refine zlb rfl hO rfl _ (by exact at0) ?_) | ((with_reducible refine zaa ?_); refine zlf rfl hO rfl _ (by exact at0) ?_) | ((with_reducible refine zab ?_); refine zsb rfl hO rfl _ (by exact at1) rfl ?_; clear hO; intro u hO; simp only [zC, zB] at hO) | fail)
        obtain ⟨F, hvo, hF⟩ := Own.vec0 u 0
        exact zap rfl hO rfl 1 at1 rfl rfl rfl ⟨_, _, by rw [HG.out]; rfl, by rw [HF.out]; exact hvo, (hO.call hF).pick [0] (by decide)⟩
    have q5 : (k == 5) = false := by simp [g5]
    have n5 : (k != 5) = true := by simp [g5]
    have g2 : ¬ kind < k := fun h => g1 ⟨h, g5⟩
    have HY : Hid (Y = isV Z) := Lib.hid (by rw [HB.out, if_neg g5]; simp [k00, k04]; omega)
    have hsz := HZ.out rfl
    have CI := fun vs1 u (h : RdV u Z vs1) => spec_isVec Z vs1 u h hsz
    by_cases g4 : k = 4
    · have hi := Lib.hid ((HS.out rfl).1 g4)
      have hkk : kind = 4 := by omega
      subst g4
      subst hkk
      have hP : copL ps = ps := copL_eq (fun p hp => isV_lB ((HP.out rfl).2 p hp)) (by have := (HP.out rfl).1; omega)
      rw [hP] at CL
      have HZF : Hid (Z = .mk 4 [] ps ns [] [] 0 0) := Lib.hid (by rw [HC.out, if_neg g5, if_neg g2, if_pos rfl, hi.out]; simp)
      clear HC HZ HI HS HP HN CP h1 hk hP
      go_enter Try.func39, Try.ntmps39
      have hO := Own.nil w
      go_wp2_with (first | ((with_reducible refine (CA _ hO.below).mono ?_); rintro e u ⟨rfl, hb⟩; (replace hO := hO.step hb; clear hb)) | ((with_reducible refine (CN _).mono ?_); rintro e u ⟨rfl, hb⟩; subst hb) | ((with_reducible refine zac ?_); refine zal rfl hO rfl ?_; (first | (refine nm 1 rfl ?_; clear hO; intro b1 u hO) | (refine nm 3 rfl ?_; clear hO; intro b3 u hO) | fail); simp only [zL, zK] at hO) | ((with_reducible refine zaf ?_); refine zbx rfl hO rfl rfl ?_; (refine nm 0 rfl ?_; clear hO; intro b0 u hO); simp only [zL, zK] at hO) | ((with_reducible refine zaa ?_); refine zlb rfl hO rfl _ (by exact at0) ?_) | ((with_reducible refine zaa ?_); refine zlf rfl hO rfl _ (by exact at0) ?_) | ((with_reducible refine zab ?_); refine zsb rfl hO rfl _ (by exact at3) rfl ?_; clear hO; intro u hO; simp only [zC, zB] at hO) | ((with_reducible refine zag ?_); refine zav hO rfl (by rfl) rfl (fun b => by simp only [Act.put, zA, zB, zC]; rfl) ?_; clear hO; intro bb u hO; simp only [zL, zK] at hO) | ((with_reducible refine zaq ?_); refine zar hO rfl (by rfl) rfl rfl _ (by exact at2) (S3 _ hO.below) (stc_one _) (by omega) (by omega) rfl (fun A' c' => by simp only [Act.put, zA, zB, zC]; rfl) ?_; clear hO; intro A' c' u hO; simp only [zC, zB, Nat.zero_add, zL] at hO; (try simp only [Nat.zero_add])) | fail)
      refine (CL _ hO.below).mono ?_
      rintro e' u ⟨A1, c1, pvs', Ls, rfl, hvl, hb⟩
      replace hO := hO.call hb
      clear hb CL
      simp only [List.cons_append, List.nil_append] at hO
      go_wp2_with (first | ((with_reducible refine zab ?_); refine zsf rfl hO rfl _ (by exact at5) (zM rfl) ?_; clear hO; intro u hO; simp only [zC, zB] at hO) | fail)
      replace hO := hO.pick [0, 1, 4, 2, 3, 5] (by decide)
      simp only [zN, zO, zE, zD] at hO
      go_loopw [7] (fun i u => i = .int .i64 0 ∧ Own w [row 29 8 (.slice A1 ps.length c1) ps.length pvs'.flatten, pack Ls.flatten, row 9 1 (.slice A' ns.length c') ns.length (stc ns), box b0 29 [.int .i64 4, .slice Ai is.length ci, .slice Ap ps.length cp, .slice An ns.length cn, .slice Ac cs.length cc, .slice Al ls.length cl, .int .i64 c, .int .i64 e], box b1 29 [.int .i64 0, .slice none 0 0, .slice none 0 0, .slice none 0 0, .slice none 0 0, .slice none 0 0, .int .i64 0, .int .i64 0], box b3 29 [.int .i64 4, .slice none 0 0, .slice A1 ps.length c1, .slice A' ns.length c', .slice none 0 0, .slice none 0 0, .int .i64 0, .int .i64 0]] u) (fun i _ => 0)
      case atStart => exact ⟨rfl, hO⟩
      case round =>
        clear hO
        obtain ⟨rfl, hO⟩ := hrel
        have hn : ¬ (0 : Int) < (is.length : Int) := by rw [hi.out]; decide
        go_wp2_with (first | ((with_reducible refine zaa ?_); refine zlb rfl hO rfl _ (by exact at5) ?_) | ((with_reducible refine zaa ?_); refine zlf rfl hO rfl _ (by exact at3) ?_) | fail)
        replace hO := hO.pick [0, 2, 1, 3, 4, 5] (by decide)
        simp only [zN, zO, zE, zD] at hO
        obtain ⟨F3, hvo, hO⟩ := Own.vecL (ps := ps) (ns := ns) hvl rfl hO 4
        rw [← HZF.out] at hvo
        obtain ⟨s, hs⟩ : ∃ s, isV Z = s := ⟨_, rfl⟩
        rw [hs] at CI HY
        clear hs
        cases s with
        | false =>
          have HG : Hid (Y = false) := HY
          have HF : Hid (X = vecI 0 []) := Lib.hid (by rw [HT.out, HG.out]; rfl)
          clear HT HY HB HZF
          go_wp2_with (first | ((with_reducible refine (CI _ _ (hO.rdp 0 rfl hvo)).mono ?_); rintro e u ⟨rfl, hb⟩; (replace hO := hO.step hb; clear hb)) | ((with_reducible refine zab ?_); refine zsb rfl hO rfl _ (by exact at2) rfl ?_; clear hO; intro u hO; simp only [zC, zB] at hO) | fail)
          obtain ⟨F2, hvo2, hF⟩ := Own.vec0 u 0
          exact zap rfl hO rfl 2 at2 rfl rfl rfl ⟨_, _, by rw [HG.out]; rfl, by rw [HF.out]; exact hvo2, (hO.call hF).pick [0] (by decide)⟩
        | true =>
          have HG : Hid (Y = true) := HY
          have HF : Hid (X = Z) := Lib.hid (by rw [HT.out, HG.out]; rfl)
          clear HT HY HB HZF
          go_wp2_with (first | ((with_reducible refine (CI _ _ (hO.rdp 0 rfl hvo)).mono ?_); rintro e u ⟨rfl, hb⟩; (replace hO := hO.step hb; clear hb)) | ((with_reducible refine zaa ?_); refine zlb rfl hO rfl _ (by exact at3) ?_) | ((with_reducible refine zab ?_); refine zsb rfl hO rfl _ (by exact at2) rfl ?_; clear hO; intro u hO; simp only [zC, zB] at hO) | fail)
          exact zap rfl hO rfl 2 at2 rfl rfl rfl ⟨_, _, by rw [HG.out]; rfl, by rw [HF.out]; exact hvo, hO.pick [0] (by decide)⟩
    · have hp := Lib.hid ((HS.out rfl).2.2 g4)
      have q44 : (k == 4) = false := by simp [g4]
      by_cases k4 : kind = 4
      · subst k4
        have HZF : Hid (Z = .mk 4 [] (is.map (oneV k)) ns [] [] 0 0) := Lib.hid (by rw [HC.out, if_neg g5, if_neg g2, if_pos rfl, hp.out]; rfl)
        clear HC HZ HI HS HP HN CP CL hk hp
        go_enter Try.func39, Try.ntmps39
        have hO := Own.nil w
        go_wp2_with (first | ((with_reducible refine (CA _ hO.below).mono ?_); rintro e u ⟨rfl, hb⟩; (replace hO := hO.step hb; clear hb)) | ((with_reducible refine (CN _).mono ?_); rintro e u ⟨rfl, hb⟩; subst hb) | ((with_reducible refine zac ?_); refine zal rfl hO rfl ?_; (first | (refine nm 1 rfl ?_; clear hO; intro b1 u hO) | (refine nm 3 rfl ?_; clear hO; intro b3 u hO) | fail); simp only [zL, zK] at hO) | ((with_reducible refine zaf ?_); refine zbx rfl hO rfl rfl ?_; (refine nm 0 rfl ?_; clear hO; intro b0 u hO); simp only [zL, zK] at hO) | ((with_reducible refine zaa ?_); refine zlb rfl hO rfl _ (by exact at0) ?_) | ((with_reducible refine zaa ?_); refine zlf rfl hO rfl _ (by exact at0) ?_) | ((with_reducible refine zab ?_); refine zsb rfl hO rfl _ (by exact at3) rfl ?_; clear hO; intro u hO; simp only [zC, zB] at hO) | ((with_reducible refine zag ?_); refine zav hO rfl (by rfl) rfl (fun b => by simp only [Act.put, zA, zB, zC]; rfl) ?_; clear hO; intro bb u hO; simp only [zL, zK] at hO) | ((with_reducible refine zaq ?_); refine zar hO rfl (by rfl) rfl rfl _ (by exact at2) (S3 _ hO.below) (stc_one _) (by omega) (by omega) rfl (fun A' c' => by simp only [Act.put, zA, zB, zC]; rfl) ?_; clear hO; intro A' c' u hO; simp only [zC, zB, Nat.zero_add, zL] at hO; (try simp only [Nat.zero_add])) | fail)
        replace hO := hO.addNil 29 8
        simp only [List.cons_append, List.nil_append] at hO
        replace hO := Own.pack (F := []) hO
        replace hO := hO.pick [5, 0, 3, 1, 2, 4] (by decide)
        simp only [zN, zO, zE, zD] at hO
        go_loopw [7] (fun i u => ∃ (m : Nat) (A1 : Option Addr) (c1 : Nat) (pvs' : List (List Value)) (Ls : List (List Res)), m ≤ is.length ∧ i = .int .i64 m ∧ VL ((is.take m).map (oneV k)) pvs' Ls ∧ Own w [row 29 8 (.slice A1 m c1) m pvs'.flatten, pack Ls.flatten, row 9 1 (.slice A' ns.length c') ns.length (stc ns), box b0 29 [.int .i64 k, .slice Ai is.length ci, .slice Ap ps.length cp, .slice An ns.length cn, .slice Ac cs.length cc, .slice Al ls.length cl, .int .i64 c, .int .i64 e], box b1 29 [.int .i64 0, .slice none 0 0, .slice none 0 0, .slice none 0 0, .slice none 0 0, .slice none 0 0, .int .i64 0, .int .i64 0], box b3 29 [.int .i64 4, .slice none 0 0, .slice A1 m c1, .slice A' ns.length c', .slice none 0 0, .slice none 0 0, .int .i64 0, .int .i64 0]] u) (fun i _ => is.length - (intOf i).toNat)
        case atStart => exact ⟨0, none, 0, [], [], Nat.zero_le _, rfl, VL.nil, hO⟩
        case round =>
          clear hO
          obtain ⟨m, A1, c1, pvs', Ls, hm, rfl, hvl, hO⟩ := hrel
          by_cases hlt : m < is.length
          · obtain ⟨x, hx⟩ : ∃ x, is[m] = x := ⟨_, rfl⟩
            have HT' := Lib.hid (mapSnoc (oneV k) hlt)
            obtain ⟨b, off, rfl, hb, d0, d1, d2⟩ := h1.it hO.below hlt hx
            rw [hx] at HT'
            clear hx
            obtain ⟨xn, xd, xt⟩ := x
            simp only at d0 d1 d2
            go_wp2_with (first | ((with_reducible refine zac ?_); refine zal rfl hO rfl ?_; (refine nm 6 rfl ?_; clear hO; intro b6 u hO); simp only [zL, zK] at hO) | ((with_reducible refine zaa ?_); refine zlb rfl hO rfl _ (by (first | exact at3 | exact at6 | fail)) ?_) | ((with_reducible refine zaa ?_); refine zlf rfl hO rfl _ (by (first | exact at3 | exact at5 | fail)) ?_) | ((with_reducible refine zab ?_); refine zsb rfl hO rfl _ (by exact at6) rfl ?_; clear hO; intro u hO; simp only [zC, zB] at hO) | ((with_reducible refine zab ?_); refine zsf rfl hO rfl _ (by exact at5) (zM rfl) ?_; clear hO; intro u hO; simp only [zC, zB] at hO) | ((with_reducible refine zag ?_); refine zak (cs := [.int .i64 xn, .int .i64 xd, .string xt]) hO rfl (by rfl) (by simp only [Act.eval, zJ, zF, zD, zE, zP]; rfl) rfl rfl (zM rfl) rfl (fun b => by simp only [Act.put, zA, zB, zC]; rfl) ?_; clear hO; intro be u hO; simp only [zL, zK] at hO) | ((with_reducible refine zag ?_); refine zak (cs := [.int .i64 k, .slice (some ⟨be, 0, none⟩) 1 1, .slice none 0 0, .slice none 0 0, .slice none 0 0, .slice none 0 0, .int .i64 0, .int .i64 0]) hO rfl (by rfl) (by simp only [Act.eval, zJ, zF, zD, zE, zP]; rfl) rfl rfl (zM rfl) rfl (fun b => by simp only [Act.put, zA, zB, zC]; rfl) ?_; clear hO; intro bf u hO; simp only [zL, zK] at hO) | ((with_reducible refine zaq ?_); refine zam hO rfl (by rfl) rfl rfl _ (by exact at0) _ (by exact at8) (by rfl) (by simp [Value.oneCell']) (by omega) (by omega) rfl (fun A' c' => by simp only [Act.put, zA, zB, zC]; rfl) ?_; clear hO; intro A' c' u hO; simp only [zC, zB] at hO) | fail)
            clear d0 d1 d2
            replace hO := hO.pick [7, 0, 1, 2, 3, 4, 5] (by decide)
            simp only [zN, zO, zE, zD] at hO
            replace hO := hO.box_row 3 1 rfl (by decide)
            obtain ⟨F, hvo, hO⟩ := Own.vecIn (is := [⟨xn, xd, xt⟩]) hO k
            replace hO := hO.pick [2, 0, 1, 3, 4, 5, 6] (by decide)
            simp only [zN, zO, zE, zD] at hO
            replace hO := hO.merge
            rw [← za4, ← za4] at hO
            replace hO := hO.pick [1, 0, 2, 3, 4, 5] (by decide)
            simp only [zN, zO, zE, zD] at hO
            go_roundw
            case rel => exact ⟨m + 1, _, _, _, _, by omega, by go_num, by rw [HT'.out]; exact hvl.snoc hvo, hO⟩
            case measure => simp [intOf]; omega
          · have hmn : m = is.length := by omega
            subst hmn
            have e1 : is.take is.length = is := List.take_length ..
            rw [e1] at hvl
            clear e1 h1
            have HN : Hid (is.length = (is.map (oneV k)).length) := Lib.hid (by simp)
            go_wp2_with (first | ((with_reducible refine zaa ?_); refine zlb rfl hO rfl _ (by exact at5) ?_) | ((with_reducible refine zaa ?_); refine zlf rfl hO rfl _ (by exact at3) ?_) | fail)
            replace hO := hO.pick [0, 2, 1, 3, 4, 5] (by decide)
            simp only [zN, zO, zE, zD] at hO
            obtain ⟨F3, hvo, hO⟩ := Own.vecL (ps := is.map (oneV k)) (ns := ns) hvl HN.out.symm hO 4
            rw [← HZF.out] at hvo
            obtain ⟨s, hs⟩ : ∃ s, isV Z = s := ⟨_, rfl⟩
            rw [hs] at CI HY
            clear hs
            cases s with
            | false =>
              have HG : Hid (Y = false) := HY
              have HF : Hid (X = vecI 0 []) := Lib.hid (by rw [HT.out, HG.out]; rfl)
              clear HT HY HB HZF
              go_wp2_with (first | ((with_reducible refine (CI _ _ (hO.rdp 0 rfl hvo)).mono ?_); rintro e u ⟨rfl, hb⟩; (replace hO := hO.step hb; clear hb)) | ((with_reducible refine zab ?_); refine zsb rfl hO rfl _ (by exact at2) rfl ?_; clear hO; intro u hO; simp only [zC, zB] at hO) | fail)
              obtain ⟨F2, hvo2, hF⟩ := Own.vec0 u 0
              exact zap rfl hO rfl 2 at2 rfl rfl rfl ⟨_, _, by rw [HG.out]; rfl, by rw [HF.out]; exact hvo2, (hO.call hF).pick [0] (by decide)⟩
            | true =>
              have HG : Hid (Y = true) := HY
              have HF : Hid (X = Z) := Lib.hid (by rw [HT.out, HG.out]; rfl)
              clear HT HY HB HZF
              go_wp2_with (first | ((with_reducible refine (CI _ _ (hO.rdp 0 rfl hvo)).mono ?_); rintro e u ⟨rfl, hb⟩; (replace hO := hO.step hb; clear hb)) | ((with_reducible refine zaa ?_); refine zlb rfl hO rfl _ (by exact at3) ?_) | ((with_reducible refine zab ?_); refine zsb rfl hO rfl _ (by exact at2) rfl ?_; clear hO; intro u hO; simp only [zC, zB] at hO) | fail)
              exact zap rfl hO rfl 2 at2 rfl rfl rfl ⟨_, _, by rw [HG.out]; rfl, by rw [HF.out]; exact hvo, hO.pick [0] (by decide)⟩
      · have q4 : (kind == 4) = false := by simp [k4]
        have HZF : Hid (Z = vecN kind (is.map (cvI k kind)) ns) := Lib.hid (by rw [HC.out, if_neg g5, if_neg g2, if_neg k4])
        have HJ : ∀ x ∈ is, itemB k x = true := HI.out rfl
        clear HI
        have hkk : k ≤ kind := by omega
        have hk3 : kind ≤ 3 := by omega
        clear HC HZ HS HP HN CP CL hp
        go_enter Try.func39, Try.ntmps39
        have hO := Own.nil w
        go_wp2_with (first | ((with_reducible refine (CA _ hO.below).mono ?_); rintro e u ⟨rfl, hb⟩; (replace hO := hO.step hb; clear hb)) | ((with_reducible refine (CN _).mono ?_); rintro e u ⟨rfl, hb⟩; subst hb) | ((with_reducible refine zac ?_); refine zal rfl hO rfl ?_; (first | (refine nm 1 rfl ?_; clear hO; intro b1 u hO) | (refine nm 3 rfl ?_; clear hO; intro b3 u hO) | fail); simp only [zL, zK] at hO) | ((with_reducible refine zaf ?_); refine zbx rfl hO rfl rfl ?_; (refine nm 0 rfl ?_; clear hO; intro b0 u hO); simp only [zL, zK] at hO) | ((with_reducible refine zaa ?_); refine zlb rfl hO rfl _ (by exact at0) ?_) | ((with_reducible refine zaa ?_); refine zlf rfl hO rfl _ (by exact at0) ?_) | ((with_reducible refine zab ?_); refine zsb rfl hO rfl _ (by exact at3) rfl ?_; clear hO; intro u hO; simp only [zC, zB] at hO) | ((with_reducible refine zag ?_); refine zav hO rfl (by rfl) rfl (fun b => by simp only [Act.put, zA, zB, zC]; rfl) ?_; clear hO; intro bb u hO; simp only [zL, zK] at hO) | ((with_reducible refine zaq ?_); refine zar hO rfl (by rfl) rfl rfl _ (by exact at2) (S3 _ hO.below) (stc_one _) (by omega) (by omega) rfl (fun A' c' => by simp only [Act.put, zA, zB, zC]; rfl) ?_; clear hO; intro A' c' u hO; simp only [zC, zB, Nat.zero_add, zL] at hO; (try simp only [Nat.zero_add])) | fail)
        replace hO := hO.addNil 83 3
        simp only [List.cons_append, List.nil_append] at hO
        replace hO := hO.pick [4, 2, 0, 1, 3] (by decide)
        simp only [zN, zO, zE, zD] at hO
        go_loopw [7] (fun i u => ∃ (m : Nat) (A1 : Option Addr) (c1 : Nat), m ≤ is.length ∧ i = .int .i64 m ∧ Own w [row 83 3 (.slice A1 m c1) m (itc ((is.take m).map (cvI k kind))), row 9 1 (.slice A' ns.length c') ns.length (stc ns), box b0 29 [.int .i64 k, .slice Ai is.length ci, .slice Ap ps.length cp, .slice An ns.length cn, .slice Ac cs.length cc, .slice Al ls.length cl, .int .i64 c, .int .i64 e], box b1 29 [.int .i64 0, .slice none 0 0, .slice none 0 0, .slice none 0 0, .slice none 0 0, .slice none 0 0, .int .i64 0, .int .i64 0], box b3 29 [.int .i64 kind, .slice A1 m c1, .slice none 0 0, .slice A' ns.length c', .slice none 0 0, .slice none 0 0, .int .i64 0, .int .i64 0]] u) (fun i _ => is.length - (intOf i).toNat)
        case atStart => exact ⟨0, none, 0, Nat.zero_le _, rfl, hO⟩
        case round =>
          clear hO
          obtain ⟨m, A1, c1, hm, rfl, hO⟩ := hrel
          by_cases hlt : m < is.length
          · have HSS := Lib.hid (itc_map_succ (cvI k kind) hlt)
            have hit := HJ _ (List.getElem_mem hlt)
            obtain ⟨x, hx⟩ : ∃ x, is[m] = x := ⟨_, rfl⟩
            obtain ⟨b, off, rfl, hb, d0, d1, d2⟩ := h1.it hO.below hlt hx
            rw [hx] at HSS hit
            clear hx
            obtain ⟨xn, xd, xt⟩ := x
            have CI2 := fun u => spec_as k kind xn xd xt u hit hkk hk3
            obtain ⟨y, hy⟩ : ∃ y, cvI k kind ⟨xn, xd, xt⟩ = y := ⟨_, rfl⟩
            rw [hy] at CI2 HSS
            obtain ⟨yn, yd, yt⟩ := y
            simp only [itc1] at HSS
            simp only at d0 d1 d2
            clear hy hit
            go_wp2_with (first | ((with_reducible refine zac ?_); refine zal rfl hO rfl ?_; (refine nm 5 rfl ?_; clear hO; intro b5 u hO); simp only [zL, zK] at hO) | ((with_reducible refine zaa ?_); refine zlf rfl hO rfl _ (by exact at2) ?_) | ((with_reducible refine zab ?_); refine zsb rfl hO rfl _ (by exact at5) rfl ?_; clear hO; intro u hO; simp only [zC, zB] at hO) | fail)
            clear d0 d1 d2
            refine J.wp_region_c (n := 97) [0, 1, 2, 3, 4, 5, 6] [7] (deps := fun i => [[], [0], [], [2], [], [], [2, 3, 4, 5], [2, 3, 4, 5, 6], [], [], []].getD i []) (fun _ _ => (J.freshS 83 [.int .i64 yn, .int .i64 yd, .string yt])) (r := 3) (lst := #[true, true, true, true, true, true, true, true, false, false, false]) (by kernel_rfl) (by kernel_rfl) (by kernel_rfl) rfl (by decide) (by kernel_rfl) hO ?_
            refine zcp (h := ?_)
            refine zcc (f := fun M u hO K hK => by (exact zad hO rfl rfl _ (by exact at4) (by rfl) (by rfl) (hK _ hO))) (h := ?_)
            refine zcp (h := ?_)
            refine zcc (f := fun M u hO K hK => by (exact zad hO rfl rfl _ (by exact at2) (by rfl) (by rfl) (hK _ hO))) (h := ?_)
            refine zcp (h := ?_)
            refine zcc (f := fun M u hO K hK => by (exact zah hO rfl rfl _ (by exact at5) (by rfl) (by rfl) (hK _ hO))) (h := ?_)
            refine zcc (f := fun M u hO K hK => by (simp only [wp_at_zero, wp_at_succ]; go_step; refine (CI2 _).mono ?_; rintro e u ⟨rfl, hb⟩; exact hK _ (hO.step hb))) (h := ?_)
            refine J.Chain.nil ⟨?_, ?_⟩
            · refine J.Each.cons (by rfl) ?_ ?_; exact ⟨rfl, fun vs M u hO _ K hK => by (refine zax (cs := [.int .i64 yn, .int .i64 yd, .string yt]) hO rfl (by simp only [Act.eval, zJ, zP, J.putL, zI, zG, zH, J.dstOf, zF, zD, zE, zS, zQ, zR, Act.put, zA, zB, zC]; rfl) rfl rfl (zM rfl) rfl fun b u hO => ?_; exact hK _ _ _ (show (J.freshS 83 [.int .i64 yn, .int .i64 yd, .string yt]) _ from ⟨b, rfl⟩) hO)⟩; exact J.Each.nil
            intro vs u hO hF
            obtain ⟨b4, h7⟩ : J.freshS _ _ (vs 7) := hF 7 (by decide)
            clear hF
            simp only [List.flatMap_cons, List.flatMap_nil, h7, List.append_nil, zL, zK] at hO
            simp only [h7, J.putL, zI, zG, zH, J.dstOf, zF, zD, zE, zS, zQ, zR, Act.put, zA, zB, zC]
            clear h7 vs
            refine J.wpAny_one (i := 8) (by kernel_rfl) (by rfl) rfl fun K hK => ?_
            refine zaw hO rfl rfl rfl _ (by exact at0) _ (by exact at6) (by rfl) (by simp [Value.oneCell']) (by omega) (by omega) rfl ?_
            clear hO
            intro A' c' u hO
            simp only [zC, zB] at hO
            simp only [Act.put, zA, zB, zC]
            refine hK _ _ ?_
            clear hK K
            refine J.wpAny_one (i := 9) (by kernel_rfl) (by rfl) rfl fun K hK => ?_
            simp only [wp_at_zero, wp_at_succ]
            go_step
            refine hK _ _ ?_
            clear hK K
            refine J.wpAny_one (i := 10) (by kernel_rfl) (by rfl) rfl fun K hK => ?_
            (refine zau hO rfl rfl _ (by exact at4) (zM rfl) (by simp only [Act.eval, zJ, zF, zD, zE, zP]; rfl) (by rfl) (by rfl) (by rfl) ?_; clear hO; intro u hO; simp only [zC, zB] at hO; refine hK _ _ ?_; clear hK K)
            refine wpAny_done (by kernel_rfl) ?_ _
            go_wp2_with fail
            replace hO := hO.pick [0, 1, 2, 3, 4] (by decide)
            simp only [zN, zO, zE, zD] at hO
            rw [← HSS.out] at hO
            go_roundw
            case rel => exact ⟨m + 1, _, _, by omega, by go_num, hO⟩
            case measure => simp [intOf]; omega
          · have hmn : m = is.length := by omega
            subst hmn
            have HN : Hid (is.length = (is.map (cvI k kind)).length) := Lib.hid (by rw [List.length_map])
            rw [List.take_length] at hO
            clear h1 HJ
            go_wp2_with (first | ((with_reducible refine zaa ?_); refine zlb rfl hO rfl _ (by exact at4) ?_) | ((with_reducible refine zaa ?_); refine zlf rfl hO rfl _ (by exact at2) ?_) | fail)
            obtain ⟨F3, hvo, hO⟩ := Own.vecNm (is := is.map (cvI k kind)) (ns := ns) HN.out.symm hO kind
            rw [← HZF.out] at hvo
            obtain ⟨s, hs⟩ : ∃ s, isV Z = s := ⟨_, rfl⟩
            rw [hs] at CI HY
            clear hs
            cases s with
            | false =>
              have HG : Hid (Y = false) := HY
              have HF : Hid (X = vecI 0 []) := Lib.hid (by rw [HT.out, HG.out]; rfl)
              clear HT HY HB HZF
              go_wp2_with (first | ((with_reducible refine (CI _ _ (hO.rdp 0 rfl hvo)).mono ?_); rintro e u ⟨rfl, hb⟩; (replace hO := hO.step hb; clear hb)) | ((with_reducible refine zab ?_); refine zsb rfl hO rfl _ (by exact at2) rfl ?_; clear hO; intro u hO; simp only [zC, zB] at hO) | fail)
              obtain ⟨F2, hvo2, hF⟩ := Own.vec0 u 0
              exact zap rfl hO rfl 2 at2 rfl rfl rfl ⟨_, _, by rw [HG.out]; rfl, by rw [HF.out]; exact hvo2, (hO.call hF).pick [0] (by decide)⟩
            | true =>
              have HG : Hid (Y = true) := HY
              have HF : Hid (X = Z) := Lib.hid (by rw [HT.out, HG.out]; rfl)
              clear HT HY HB HZF
              go_wp2_with (first | ((with_reducible refine (CI _ _ (hO.rdp 0 rfl hvo)).mono ?_); rintro e u ⟨rfl, hb⟩; (replace hO := hO.step hb; clear hb)) | ((with_reducible refine zaa ?_); refine zlb rfl hO rfl _ (by exact at3) ?_) | ((with_reducible refine zab ?_); refine zsb rfl hO rfl _ (by exact at2) rfl ?_; clear hO; intro u hO; simp only [zC, zB] at hO) | fail)
              exact zap rfl hO rfl 2 at2 rfl rfl rfl ⟨_, _, by rw [HG.out]; rfl, by rw [HF.out]; exact hvo, hO.pick [0] (by decide)⟩

end Go.Proofs.Ytmofcbpabdbjlaa
