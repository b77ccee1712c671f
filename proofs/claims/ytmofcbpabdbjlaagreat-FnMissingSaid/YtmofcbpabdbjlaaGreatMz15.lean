/-
  What is proved: copies of items, and of whole vectors (the program's copyVector). copies of vectors of the reference (l4Copy, l4Copies).
  Condition: vectors of size at most 1048576. Condition: vectors of size at most 1048576; l4Copy: a vector that is valid but for its cells.
-/
import Derived.Deep.Cut
import Derived.Test.YtmofcbpabdbjlaaGreatMz4
import Derived.Test.YtmofcbpabdbjlaaGreatMz14
namespace Go.Proofs.YtmofcbpabdbjlaaGreat

set_option maxRecDepth 8000

section

open Go.RowKit Go.ChangeShapes Go.WideShapes Go.Deep

set_option linter.unusedVariables false

set_option linter.unusedSimpArgs false

theorem impl_copyItems (A : Option Addr) (c : Nat) (l : List It) (w : World) (h : Sl w 3 A l.length (itc l)) (hn : l.length ≤ 1048576) :
    Calls Tryz.prog 93 #[.slice A l.length c] w fun e w' => ∃ A' c', e = .returned (.slice A' l.length c') ∧ Own w [row 35 3 (.slice A' l.length c') l.length (itc l)] w' := by
  have S := fun u (hb : Below w.heap.size w u) => h.below hb
  go_enter Tryz.func93, Tryz.ntmps93
  have hO := Own.nil w
  go_wp2_with (first | ((with_reducible refine zao ?_); refine za0 hO rfl (by rfl) rfl (fun b => by simp only [Act.put, zA, zB, zC]; rfl) ?_; clear hO; intro bb u hO; simp only [zL, zK] at hO) | ((with_reducible refine za2 ?_); refine zbf hO rfl (by rfl) rfl rfl _ (by exact at0) (S _ hO.below) (itc_one _) (by omega) (by omega) rfl (fun A' c' => by simp only [Act.put, zA, zB, zC]; rfl) ?_; clear hO; intro A' c' u hO; simp only [zC, zB, Nat.zero_add, zL] at hO; (try simp only [Nat.zero_add])) | fail)
  go_ret
  exact ⟨_, _, rfl, hO⟩

/-- the names after tidying are the first thing -/
theorem Own.tidy {w u u' : World} {R : List Res} {An A : Option Addr} {cn c' : Nat} {ns : List ByteArray} (hO : Own w (row 9 1 (.slice An ns.length cn) ns.length (stc ns) :: R) u)
    (h : (allE ns = true ∧ Own u [row 9 1 (.slice A 0 c') 0 []] u') ∨ (allE ns = false ∧ A = An ∧ c' = cn ∧ Below u.heap.size u u')) : Own w (row 9 1 (.slice A (tdN ns).length c') (tdN ns).length (stc (tdN ns)) :: R) u' := by
  rcases h with ⟨h1, h2⟩ | ⟨h1, rfl, rfl, h2⟩
  · have e : tdN ns = [] := if_pos h1
    rw [e]
    have h3 := hO.call h2
    exact h3.sub (.cons_cons _ (.cons _ (List.Sublist.refl _)))
  · have e : tdN ns = ns := if_neg (by rw [h1]; decide)
    rw [e]
    exact hO.step h2

/-- an owned vector is opened -/
theorem Own.openV {w0 w : World} {R F : List Res} {k : Int} {is : List It} {ps : List VT} {ns cs ls : List ByteArray} {c e : Int} {Ci Cp Cn Cc Cl : Option Addr} {ri rp rn rc rl : Nat} (h : Own w0 (Go.Proofs.YtmofcbpabdbjlaaGreat.pack F :: R) w)
    (hvo : VO (.mk k is ps ns cs ls c e) [.int .i64 k, .slice Ci is.length ri, .slice Cp ps.length rp, .slice Cn ns.length rn, .slice Cc cs.length rc, .slice Cl ls.length rl, .int .i64 c, .int .i64 e] F) :
    ∃ pvs Ls, VL ps pvs Ls ∧ Own w0 (row 35 3 (.slice Ci is.length ri) is.length (itc is) :: row 28 8 (.slice Cp ps.length rp) ps.length pvs.flatten :: row 9 1 (.slice Cn ns.length rn) ns.length (stc ns) :: row 9 1 (.slice Cc cs.length rc) cs.length (stc cs) :: row 9 1 (.slice Cl ls.length rl) ls.length (stc ls) :: Go.Proofs.YtmofcbpabdbjlaaGreat.pack Ls.flatten :: R) w := by
  obtain ⟨Ai, Ap, An, Ac, Al, ci, cp, cn, cc, cl, pvs, Ls, e, rfl, hVL⟩ := hvo.open
  simp only [List.cons.injEq, Value.slice.injEq, and_true, true_and] at e
  obtain ⟨⟨rfl, rfl⟩, ⟨rfl, rfl⟩, ⟨rfl, rfl⟩, ⟨rfl, rfl⟩, ⟨rfl, rfl⟩⟩ := e
  refine ⟨pvs, Ls, hVL, ?_⟩
  have h1 := h.unpack
  have h2 := Own.pack (F := Ls.flatten) (h1.perm (L' := Ls.flatten ++ (row 35 3 (.slice Ci is.length ri) is.length (itc is) :: row 28 8 (.slice Cp ps.length rp) ps.length pvs.flatten :: row 9 1 (.slice Cn ns.length rn) ns.length (stc ns) :: row 9 1 (.slice Cc cs.length rc) cs.length (stc cs) :: row 9 1 (.slice Cl ls.length rl) ls.length (stc ls) :: R)) (by
    rw [show ∀ (a b c d e : Res) (X Y : List Res), (a :: b :: c :: d :: e :: X) ++ Y = [a, b, c, d, e] ++ (X ++ Y) from fun _ _ _ _ _ _ _ => rfl]
    refine List.perm_append_comm_assoc _ _ _ |>.trans ?_
    exact List.Perm.refl _))
  refine h2.perm ?_
  exact (List.perm_middle (l₁ := [_, _, _, _, _])).symm

/-- a call hands back a fresh copy of this vector -/
def J.freshC (xk : Int) (xi : List It) (xp : List VT) (xn xc xl : List ByteArray) (xo xe : Int) : Value × List Res → Prop := fun x => ∃ (Ci Cp Cn Cc Cl : Option Addr) (ri rp rn rc rl : Nat) (F : List Res), x = (.agg #[.int .i64 xk, .slice Ci xi.length ri, .slice Cp xp.length rp, .slice Cn xn.length rn, .slice Cc xc.length rc, .slice Cl xl.length rl, .int .i64 xo, .int .i64 xe], [pack F]) ∧ VO (.mk xk xi xp xn xc xl xo xe) [.int .i64 xk, .slice Ci xi.length ri, .slice Cp xp.length rp, .slice Cn xn.length rn, .slice Cc xc.length rc, .slice Cl xl.length rl, .int .i64 xo, .int .i64 xe] F

def PCopy (t : VT) : Prop := ∀ (vs : List Value) (w : World), RdV w t vs → szV t ≤ 1048576 → Calls Tryz.prog 66 #[.agg vs.toArray] w fun e w' => ∃ vs' F, e = .returned (.agg vs'.toArray) ∧ VO t vs' F ∧ Own w [pack F] w'

set_option maxHeartbeats 2000000 in
theorem impl_copyV (t : VT) : PCopy t := by
  induction t using VT.ind with
  | _ k is ps ns cs ls c e ih =>
    intro vs w hv hz
    obtain ⟨Ai, Ap, An, Ac, Al, ci, cp, cn, cc, cl, pvs, rfl, h1, h2, h3, h4, h5⟩ := hv.open
    have HT : szV (.mk k is ps ns cs ls c e) = szI is + szL ps + szS ns + szS cs + szS ls := rfl
    unfold szI szS at HT
    have z1 : is.length ≤ 1048576 := by omega
    have z2 : szL ps ≤ 1048576 := by omega
    have z3 : ns.length ≤ 1048576 := by omega
    have z4 : cs.length ≤ 1048576 := by omega
    have z5 : ls.length ≤ 1048576 := by omega
    have z6 : ps.length ≤ 1048576 := by have := szL_eq ps; omega
    clear HT hv hz
    have S1 := fun u (hb : Below w.heap.size w u) => impl_copyItems Ai ci is u (h1.below hb) z1
    have S3 := fun u (hb : Below w.heap.size w u) => zbe An cn ns u (h3.below hb) z3
    have S4 := fun u (hb : Below w.heap.size w u) => zbe Ac cc cs u (h4.below hb) z4
    have S5 := fun u (hb : Below w.heap.size w u) => zbe Al cl ls u (h5.below hb) z5
    go_enter Tryz.func66, Tryz.ntmps66
    have hO := Own.nil w
    go_wp2_with (first | ((with_reducible refine zac ?_); refine zal rfl hO rfl ?_; (refine nm 1 rfl ?_; clear hO; intro b1 u hO); simp only [zL, zK] at hO) | ((with_reducible refine zad ?_); refine zbx rfl hO rfl rfl ?_; (refine nm 0 rfl ?_; clear hO; intro b0 u hO); simp only [zL, zK] at hO) | fail)
    refine J.wp_region_c (n := 41) [0, 1, 2, 3, 5, 6, 8, 9, 11, 12, 14, 15, 16, 17] [4, 7, 10, 13, 18, 19] (deps := fun i => [[], [0], [], [2], [2, 3], [], [5], [5, 6], [], [8], [8, 9], [], [11], [11, 12], [], [14], [], [16], [0, 1, 2, 3, 4, 5, 6, 7, 8, 9, 10, 11, 12, 13, 14, 15, 16, 17], [], []].getD i []) (fun i d => [fun _ => True, fun _ => True, fun _ => True, fun _ => True, (J.freshRow 35 3 is.length (itc is)), fun _ => True, fun _ => True, (J.freshRow 9 1 ns.length (stc ns)), fun _ => True, fun _ => True, (J.freshRow 9 1 cs.length (stc cs)), fun _ => True, fun _ => True, (J.freshRow 9 1 ls.length (stc ls)), fun _ => True, fun _ => True, fun _ => True, fun _ => True, (fun x => x = (Value.agg #[.int .i64 k, (d 4).1, .slice none 0 0, (d 7).1, (d 10).1, (d 13).1, .int .i64 c, .int .i64 e], [])), J.fresh 28 [.int .i64 0, .slice none 0 0, .slice none 0 0, .slice none 0 0, .slice none 0 0, .slice none 0 0, .int .i64 0, .int .i64 0], fun _ => True].getD i (fun _ => True)) (r := 1) (lst := #[true, true, true, true, true, true, true, true, true, true, true, true, true, true, true, true, true, true, true, true, false]) (by kernel_rfl) (by kernel_rfl) (by kernel_rfl) rfl (by decide) (by kernel_rfl) hO ?_
    refine zcp (h := ?_)
    refine zcc (f := fun M u hO K hK => by (exact zae hO rfl rfl _ (by exact at0) (by rfl) (by rfl) (hK _ hO))) (h := ?_)
    refine zcp (h := ?_)
    refine zcc (f := fun M u hO K hK => by (exact zae hO rfl rfl _ (by exact at0) (by rfl) (by rfl) (hK _ hO))) (h := ?_)
    refine zcp (h := ?_)
    refine zcc (f := fun M u hO K hK => by (exact zae hO rfl rfl _ (by exact at0) (by rfl) (by rfl) (hK _ hO))) (h := ?_)
    refine zcp (h := ?_)
    refine zcc (f := fun M u hO K hK => by (exact zae hO rfl rfl _ (by exact at0) (by rfl) (by rfl) (hK _ hO))) (h := ?_)
    refine zcp (h := ?_)
    refine zcc (f := fun M u hO K hK => by (exact zae hO rfl rfl _ (by exact at0) (by rfl) (by rfl) (hK _ hO))) (h := ?_)
    refine zcp (h := ?_)
    refine zcc (f := fun M u hO K hK => by (exact zae hO rfl rfl _ (by exact at0) (by rfl) (by rfl) (hK _ hO))) (h := ?_)
    refine zcp (h := ?_)
    refine zcc (f := fun M u hO K hK => by (exact zae hO rfl rfl _ (by exact at0) (by rfl) (by rfl) (hK _ hO))) (h := ?_)
    refine J.Chain.nil ⟨?_, ?_⟩
    · refine J.Each.cons (by rfl) ?_ ?_; exact ⟨rfl, fun vs M u hO _ K hK => by ((try simp only [J.putL, zI, zG, zH, J.dstOf, zF, zD, zE, zS, zQ, zR, Act.put, zA, zB, zC]); (try simp only [wp_at_zero, wp_at_succ]); go_step; refine (S1 _ hO.below).mono ?_; rintro e u ⟨A1, c1, rfl, hb⟩; have hK' := hK _ _ _ (show (J.freshRow 35 3 is.length (itc is)) _ from ⟨A1, c1, rfl⟩) ((hO.call hb).perm List.perm_append_comm); clear hK; simp only [J.putL, zI, zG, zH, J.dstOf, zF, zD, zE, zS, zQ, zR, Act.put, zA, zB, zC] at hK'; exact hK')⟩; refine J.Each.cons (by rfl) ?_ ?_; exact ⟨rfl, fun vs M u hO _ K hK => by ((try simp only [J.putL, zI, zG, zH, J.dstOf, zF, zD, zE, zS, zQ, zR, Act.put, zA, zB, zC]); (try simp only [wp_at_zero, wp_at_succ]); go_step; refine (S3 _ hO.below).mono ?_; rintro e u ⟨A3, c3, rfl, hb⟩; have hK' := hK _ _ _ (show (J.freshRow 9 1 ns.length (stc ns)) _ from ⟨A3, c3, rfl⟩) ((hO.call hb).perm List.perm_append_comm); clear hK; simp only [J.putL, zI, zG, zH, J.dstOf, zF, zD, zE, zS, zQ, zR, Act.put, zA, zB, zC] at hK'; exact hK')⟩; refine J.Each.cons (by rfl) ?_ ?_; exact ⟨rfl, fun vs M u hO _ K hK => by ((try simp only [J.putL, zI, zG, zH, J.dstOf, zF, zD, zE, zS, zQ, zR, Act.put, zA, zB, zC]); (try simp only [wp_at_zero, wp_at_succ]); go_step; refine (S4 _ hO.below).mono ?_; rintro e u ⟨A4, c4, rfl, hb⟩; have hK' := hK _ _ _ (show (J.freshRow 9 1 cs.length (stc cs)) _ from ⟨A4, c4, rfl⟩) ((hO.call hb).perm List.perm_append_comm); clear hK; simp only [J.putL, zI, zG, zH, J.dstOf, zF, zD, zE, zS, zQ, zR, Act.put, zA, zB, zC] at hK'; exact hK')⟩; refine J.Each.cons (by rfl) ?_ ?_; exact ⟨rfl, fun vs M u hO _ K hK => by ((try simp only [J.putL, zI, zG, zH, J.dstOf, zF, zD, zE, zS, zQ, zR, Act.put, zA, zB, zC]); (try simp only [wp_at_zero, wp_at_succ]); go_step; refine (S5 _ hO.below).mono ?_; rintro e u ⟨A5, c5, rfl, hb⟩; have hK' := hK _ _ _ (show (J.freshRow 9 1 ls.length (stc ls)) _ from ⟨A5, c5, rfl⟩) ((hO.call hb).perm List.perm_append_comm); clear hK; simp only [J.putL, zI, zG, zH, J.dstOf, zF, zD, zE, zS, zQ, zR, Act.put, zA, zB, zC] at hK'; exact hK')⟩; refine J.Each.cons (by rfl) ?_ ?_; exact ⟨rfl, fun vs M u hO hF K hK => by ((try simp only [J.putL, zI, zG, zH, J.dstOf, zF, zD, zE, zS, zQ, zR, Act.put, zA, zB, zC]); obtain ⟨A1, c1, e4⟩ := (hF 4 (by decide) (by decide)).1; obtain ⟨A3, c3, e7⟩ := (hF 7 (by decide) (by decide)).1; obtain ⟨A4, c4, e10⟩ := (hF 10 (by decide) (by decide)).1; obtain ⟨A5, c5, e13⟩ := (hF 13 (by decide) (by decide)).1; have hK' := hK (Value.agg #[.int .i64 k, .slice A1 is.length c1, .slice none 0 0, .slice A3 ns.length c3, .slice A4 cs.length c4, .slice A5 ls.length c5, .int .i64 c, .int .i64 e]) [] u (show (Value.agg #[.int .i64 k, .slice A1 is.length c1, .slice none 0 0, .slice A3 ns.length c3, .slice A4 cs.length c4, .slice A5 ls.length c5, .int .i64 c, .int .i64 e], ([] : List Res)) = (Value.agg #[.int .i64 k, (vs 4).1, .slice none 0 0, (vs 7).1, (vs 10).1, (vs 13).1, .int .i64 c, .int .i64 e], []) from by simp only [e4, e7, e10, e13]) (by rw [List.append_nil]; exact hO); clear hK hF; simp only [J.putL, zI, zG, zH, J.dstOf, zF, zD, zE, zS, zQ, zR, Act.put, zA, zB, zC, e4, e7, e10, e13] at hK' ⊢; (try simp only [wp_at_zero, wp_at_succ]); go_step; exact hK')⟩; refine J.Each.cons (by rfl) ?_ ?_; exact ⟨rfl, fun vs M u hO _ K hK => by (refine zbc hO rfl rfl fun b u hO => ?_; exact hK _ _ _ (show J.fresh 28 [.int .i64 0, .slice none 0 0, .slice none 0 0, .slice none 0 0, .slice none 0 0, .slice none 0 0, .int .i64 0, .int .i64 0] _ from ⟨b, rfl⟩) hO)⟩; exact J.Each.nil
    intro vs u hO hF
    obtain ⟨A1, c1, h4⟩ : (J.freshRow 35 3 is.length (itc is)) (vs 4) := hF 4 (by decide)
    obtain ⟨A3, c3, h7⟩ : (J.freshRow 9 1 ns.length (stc ns)) (vs 7) := hF 7 (by decide)
    obtain ⟨A4, c4, h10⟩ : (J.freshRow 9 1 cs.length (stc cs)) (vs 10) := hF 10 (by decide)
    obtain ⟨A5, c5, h13⟩ : (J.freshRow 9 1 ls.length (stc ls)) (vs 13) := hF 13 (by decide)
    have h18 : vs 18 = (Value.agg #[.int .i64 k, (vs 4).1, .slice none 0 0, (vs 7).1, (vs 10).1, (vs 13).1, .int .i64 c, .int .i64 e], []) := hF 18 (by decide)
    simp only [h4, h7, h10, h13] at h18
    obtain ⟨b2, h19⟩ : J.fresh _ _ (vs 19) := hF 19 (by decide)
    clear hF
    simp only [List.flatMap_cons, List.flatMap_nil, h4, h7, h10, h13, h18, h19, List.append_nil, zL, zK] at hO
    simp only [h4, h7, h10, h13, h18, h19, J.putL, zI, zG, zH, J.dstOf, zF, zD, zE, zS, zQ, zR, Act.put, zA, zB, zC]
    clear h4 h7 h10 h13 h18 h19 vs
    refine J.wpAny_one (i := 20) (by kernel_rfl) (by rfl) rfl fun K hK => ?_
    (refine zaf hO rfl rfl _ (by exact at6) rfl (by rfl) (by rfl) (by rfl) (by rfl) (by rfl) ?_; clear hO; intro u hO; simp only [zC, zB] at hO; refine hK _ _ ?_; clear hK K)
    refine wpAny_done (by kernel_rfl) ?_ _
    go_wp2_with (first | ((with_reducible refine zaa ?_); refine zlf rfl hO rfl _ (by exact at0) ?_) | fail)
    clear S1 S3 S4 S5 h1 h3 h4 h5
    replace hO := hO.addNil 28 8
    simp only [List.cons_append, List.nil_append] at hO
    replace hO := Own.pack (F := []) hO
    have HZ := Lib.hid z2
    go_loopw [28] (fun i u => ∃ (m : Nat) (A' : Option Addr) (c' : Nat) (pvs' : List (List Value)) (Ls : List (List Res)), m ≤ ps.length ∧ i = .int .i64 m ∧ VL (ps.take m) pvs' Ls ∧ Own w [pack Ls.flatten, row 28 8 (.slice A' m c') m pvs'.flatten, box b0 28 [.int .i64 k, .slice Ai is.length ci, .slice Ap ps.length cp, .slice An ns.length cn, .slice Ac cs.length cc, .slice Al ls.length cl, .int .i64 c, .int .i64 e], box b1 28 [.int .i64 0, .slice none 0 0, .slice none 0 0, .slice none 0 0, .slice none 0 0, .slice none 0 0, .int .i64 0, .int .i64 0], box b2 28 [.int .i64 k, .slice A1 is.length c1, .slice A' m c', .slice A3 ns.length c3, .slice A4 cs.length c4, .slice A5 ls.length c5, .int .i64 c, .int .i64 e], row 35 3 (.slice A1 is.length c1) is.length (itc is), row 9 1 (.slice A3 ns.length c3) ns.length (stc ns), row 9 1 (.slice A4 cs.length c4) cs.length (stc cs), row 9 1 (.slice A5 ls.length c5) ls.length (stc ls)] u) (fun i _ => ps.length - (intOf i).toNat)
    case atStart => exact ⟨0, none, 0, [], [], Nat.zero_le _, rfl, VL.nil, hO.pick [0, 8, 1, 2, 7, 3, 4, 5, 6] (by decide)⟩
    case round =>
      clear hO
      obtain ⟨m, A', c', pvs', Ls, hm, rfl, hvl, hO⟩ := hrel
      by_cases hlt : m < ps.length
      · have hp := ih _ (List.getElem_mem hlt)
        have hsz := szL_mem HZ.out hlt
        have HT := Lib.hid (za6 hlt)
        obtain ⟨x, hx⟩ : ∃ x, ps[m]'hlt = x := ⟨_, rfl⟩
        obtain ⟨xk, xi, xp, xn, xc, xl, xo, xe⟩ := x
        obtain ⟨b, off, rfl, hb, Bi, Bp, Bn, Bc, Bl, di, dp, dn, dc, dl, hrd, d0, d1, d2, d3, d4, d5, d6, d7⟩ := h2.ptc hO.below hlt hx
        rw [hx] at hp hsz HT
        clear hx
        have CP : ∀ u, Below w.heap.size w u → Calls Tryz.prog 66 #[.agg #[.int .i64 xk, .slice Bi xi.length di, .slice Bp xp.length dp, .slice Bn xn.length dn, .slice Bc xc.length dc, .slice Bl xl.length dl, .int .i64 xo, .int .i64 xe]] u fun e w' => ∃ (Ci Cp Cn Cc Cl : Option Addr) (ri rp rn rc rl : Nat) (F : List Res), e = .returned (.agg #[.int .i64 xk, .slice Ci xi.length ri, .slice Cp xp.length rp, .slice Cn xn.length rn, .slice Cc xc.length rc, .slice Cl xl.length rl, .int .i64 xo, .int .i64 xe]) ∧ VO (.mk xk xi xp xn xc xl xo xe) [.int .i64 xk, .slice Ci xi.length ri, .slice Cp xp.length rp, .slice Cn xn.length rn, .slice Cc xc.length rc, .slice Cl xl.length rl, .int .i64 xo, .int .i64 xe] F ∧ Own u [pack F] w' := fun u hu =>
          (hp _ u (hrd.grow hu) hsz).mono fun e' w' ⟨vs', F, he, hvo, hO⟩ => by
            obtain ⟨Ci, Cp, Cn, Cc, Cl, ri, rp, rn, rc, rl, rfl⟩ := hvo.ex
            exact ⟨Ci, Cp, Cn, Cc, Cl, ri, rp, rn, rc, rl, F, he, hvo, hO⟩
        clear hp hsz
        go_wp2_with (first | ((with_reducible refine zac ?_); refine zal rfl hO rfl ?_; (refine nm 9 rfl ?_; clear hO; intro b9 u hO); simp only [zL, zK] at hO) | ((with_reducible refine zab ?_); refine zsb rfl hO rfl _ (by exact at9) rfl ?_; clear hO; intro u hO; simp only [zC, zB] at hO) | fail)
        clear d0 d1 d2 d3 d4 d5 d6 d7
        refine J.wp_region_c (n := 41) [0, 1, 2] [3, 4] (deps := fun i => [[], [0], [], [2], [2, 3], [], [], []].getD i []) (fun i d => [fun _ => True, fun _ => True, fun _ => True, (J.freshC xk xi xp xn xc xl xo xe), (J.freshS 28 ((d 3).1.cells.toList)), fun _ => True, fun _ => True, fun _ => True].getD i (fun _ => True)) (r := 3) (lst := #[true, true, true, true, true, false, false, false]) (by kernel_rfl) (by kernel_rfl) (by kernel_rfl) rfl (by decide) (by kernel_rfl) hO ?_
        refine zcp (h := ?_)
        refine zcc (f := fun M u hO K hK => by (exact zae hO rfl rfl _ (by exact at4) (by rfl) (by rfl) (hK _ hO))) (h := ?_)
        refine zcc (f := fun M u hO K hK => by (exact zah hO rfl rfl _ (by exact at9) (by rfl) (by rfl) (hK _ hO))) (h := ?_)
        refine J.Chain.nil ⟨?_, ?_⟩
        · refine J.Each.cons (by rfl) ?_ ?_; exact ⟨rfl, fun vs M u hO _ K hK => by ((try simp only [J.putL, zI, zG, zH, J.dstOf, zF, zD, zE, zS, zQ, zR, Act.put, zA, zB, zC]); (try simp only [wp_at_zero, wp_at_succ]); go_step; refine (CP _ hO.below).mono ?_; rintro e u ⟨Ci, Cp, Cn, Cc, Cl, ri, rp, rn, rc, rl, F, rfl, hvo, hb⟩; have hK' := hK _ _ _ (show (J.freshC xk xi xp xn xc xl xo xe) _ from ⟨Ci, Cp, Cn, Cc, Cl, ri, rp, rn, rc, rl, F, rfl, hvo⟩) ((hO.call hb).perm List.perm_append_comm); clear hK; simp only [J.putL, zI, zG, zH, J.dstOf, zF, zD, zE, zS, zQ, zR, Act.put, zA, zB, zC] at hK'; exact hK')⟩; refine J.Each.cons (by rfl) ?_ ?_; exact ⟨rfl, fun vs M u hO hF K hK => by (obtain ⟨Ci, Cp, Cn, Cc, Cl, ri, rp, rn, rc, rl, F, e3, hvo⟩ := (hF 3 (by decide) (by decide)).1; refine za4 (cs := [.int .i64 xk, .slice Ci xi.length ri, .slice Cp xp.length rp, .slice Cn xn.length rn, .slice Cc xc.length rc, .slice Cl xl.length rl, .int .i64 xo, .int .i64 xe]) hO rfl (by simp only [Act.eval, zJ, zP, J.putL, zI, zG, zH, J.dstOf, zF, zD, zE, zS, zQ, zR, Act.put, zA, zB, zC, e3]; rfl) rfl rfl (zM rfl) rfl fun b u hO => ?_; exact hK _ _ _ (show J.freshS 28 ((vs 3).1.cells.toList) _ from ⟨b, by rw [e3]; rfl⟩) hO)⟩; exact J.Each.nil
        intro vs u hO hF
        obtain ⟨Ci, Cp, Cn, Cc, Cl, ri, rp, rn, rc, rl, F, h3, hvo⟩ : (J.freshC xk xi xp xn xc xl xo xe) (vs 3) := hF 3 (by decide)
        have q4 : J.freshS 28 ((vs 3).1.cells.toList) (vs 4) := hF 4 (by decide)
        rw [h3] at q4
        obtain ⟨y4, h4⟩ : J.freshS 28 [.int .i64 xk, .slice Ci xi.length ri, .slice Cp xp.length rp, .slice Cn xn.length rn, .slice Cc xc.length rc, .slice Cl xl.length rl, .int .i64 xo, .int .i64 xe] (vs 4) := q4
        clear hF
        simp only [List.flatMap_cons, List.flatMap_nil, h3, h4, List.append_nil, zL, zK] at hO
        simp only [h3, h4, J.putL, zI, zG, zH, J.dstOf, zF, zD, zE, zS, zQ, zR, Act.put, zA, zB, zC]
        clear h3 h4 vs
        refine J.wpAny_one (i := 5) (by kernel_rfl) (by rfl) rfl fun K hK => ?_
        refine za3 hO rfl rfl rfl _ (by exact at1) _ (by exact at11) (by rfl) (by simp [Value.oneCell']) (by omega) (by omega) rfl ?_
        clear hO
        intro A' c' u hO
        simp only [zC, zB] at hO
        simp only [Act.put, zA, zB, zC]
        refine hK _ _ ?_
        clear hK K
        refine J.wpAny_one (i := 6) (by kernel_rfl) (by rfl) rfl fun K hK => ?_
        simp only [wp_at_zero, wp_at_succ]
        go_step
        refine hK _ _ ?_
        clear hK K
        refine J.wpAny_one (i := 7) (by kernel_rfl) (by rfl) rfl fun K hK => ?_
        (refine za1 hO rfl rfl _ (by exact at4) (zM rfl) (by simp only [Act.eval, zJ, zF, zD, zE, zP]; rfl) (by rfl) (by rfl) (by rfl) ?_; clear hO; intro u hO; simp only [zC, zB] at hO; refine hK _ _ ?_; clear hK K)
        refine wpAny_done (by kernel_rfl) ?_ _
        go_wp2_with fail
        replace hO := hO.pick [0, 10, 1, 2, 3, 4, 5, 6, 7, 8] (by decide)
        simp only [zN, zO, zE, zD] at hO
        replace hO := hO.merge
        rw [← zbi, ← zbi] at hO
        go_roundw
        case rel => exact ⟨m + 1, _, _, _, _, by omega, by go_num, by rw [HT.out]; exact hvl.snoc hvo, hO⟩
        case measure => simp [intOf]; omega
      · have hmn : m = ps.length := by omega
        subst hmn
        have e1 : ps.take ps.length = ps := List.take_length ..
        rw [e1] at hvl
        clear e1
        go_wp2_with (first | ((with_reducible refine zaa ?_); refine zlb rfl hO rfl _ (by exact at4) ?_) | ((with_reducible refine zab ?_); refine zsb rfl hO rfl _ (by exact at3) rfl ?_; clear hO; intro u hO; simp only [zC, zB] at hO) | fail)
        exact zan rfl hO rfl 3 at3 rfl rfl ⟨_, _, rfl, VO.close hvl, Own.packs [_, _, _, _, _] (hO.pick [5, 1, 6, 7, 8, 0] (by decide))⟩

end

end Go.Proofs.YtmofcbpabdbjlaaGreat
