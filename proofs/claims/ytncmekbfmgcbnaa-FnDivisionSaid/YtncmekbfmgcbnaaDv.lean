/-
  What is proved: the statement on quotients, remainders, floors and rounded numbers (FnDivision).
  Condition: none.
-/
import Derived.Test.YtncmekbfmgcbnaaDvP
import Derived.Test.YtncmekbfmgcbnaaDn
import Derived.Test.YtncmekbfmgcbnaaFl
import Derived.Test.YtncmekbfmgcbnaaDvM
namespace Go.Proofs.Ytncmekbfmgcbnaa
open Go.RowKit Go.ChangeShapes Go.WideShapes Go.Deep
set_option linter.unusedVariables false
set_option linter.unusedSimpArgs false



set_option maxRecDepth 20000 in
set_option maxHeartbeats 8000000 in
theorem fnDivision_walk (v0 : Value) (w : World) (h0 : ArgBytes w v0) : Calls Try.prog 12 #[v0] w fun e w' => e = .returned (.bool true) ∧ Below w.heap.size w w' := by
  obtain ⟨A, n, c, rfl, CB | ⟨CB, l, hC⟩⟩ := big_cases h0
  · go_enter Try.func12, Try.ntmps12
    go_wp2_with fail
    refine (CB _).mono ?_
    rintro e u ⟨rfl, rfl⟩
    go_wp2_with fail
    go_ret
    exact ⟨rfl, Below.refl _ _⟩
  · go_enter Try.func12, Try.ntmps12
    have hO := Own.nil w
    go_wp2_with fail
    refine (CB _).mono ?_
    rintro e u ⟨rfl, rfl⟩
    go_wp2_with fail
    refine (draw_quo A n c l _ hC).mono ?_
    rintro e u ⟨x1, x2, xt, y1, y2, yt, ⟨rfl, hx, hy⟩, hb⟩
    replace hO := hO.step hb
    clear hb CB hx hy
    have Q1 := fun u => impl_quot x1 x2 y1 y2 xt yt u
    have Q2 := fun u => spec_quot x1 x2 y1 y2 xt yt u
    have R1 := fun u => impl_rem x1 x2 y1 y2 xt yt u
    have R2 := fun u => spec_rem x1 x2 y1 y2 xt yt u
    have F1 := fun u => impl_floorN x1 x2 xt u
    have F2 := fun u => spec_floorN x1 x2 xt u
    have G1 := fun u => impl_round x1 x2 xt u
    have G2 := fun u => spec_round x1 x2 xt u
    have CK := fun u => spec_mul y1 y2 y1 y2 yt yt u
    obtain ⟨q, hq⟩ : ∃ s, quotI x1 x2 xt y1 y2 yt = s := ⟨_, rfl⟩
    obtain ⟨r, hr⟩ : ∃ s, remI x1 x2 xt y1 y2 yt = s := ⟨_, rfl⟩
    obtain ⟨f, hf⟩ : ∃ s, floorI x1 x2 xt = s := ⟨_, rfl⟩
    obtain ⟨g, hg⟩ : ∃ s, roundI x1 x2 xt = s := ⟨_, rfl⟩
    obtain ⟨k, hk⟩ : ∃ s, mulI y1 y2 yt y1 y2 yt = s := ⟨_, rfl⟩
    rw [hq] at Q1 Q2
    rw [hr] at R1 R2
    rw [hf] at F1 F2
    rw [hg] at G1 G2
    rw [hk] at CK
    have M1 := fun u => spec_mul q.1 q.2 y1 y2 ⟨#[]⟩ yt u
    have CM := fun u => spec_mul r.1 r.2 r.1 r.2 ⟨#[]⟩ ⟨#[]⟩ u
    have S1 := fun u => spec_sub x1 x2 f.1 f.2 xt ⟨#[]⟩ u
    have S2 := fun u => spec_sub x1 x2 g.1 g.2 xt ⟨#[]⟩ u
    obtain ⟨p, hp⟩ : ∃ s, mulI q.1 q.2 ⟨#[]⟩ y1 y2 yt = s := ⟨_, rfl⟩
    obtain ⟨m, hm⟩ : ∃ s, mulI r.1 r.2 ⟨#[]⟩ r.1 r.2 ⟨#[]⟩ = s := ⟨_, rfl⟩
    obtain ⟨h, hh⟩ : ∃ s, subI x1 x2 xt f.1 f.2 ⟨#[]⟩ = s := ⟨_, rfl⟩
    obtain ⟨j, hj⟩ : ∃ s, subI x1 x2 xt g.1 g.2 ⟨#[]⟩ = s := ⟨_, rfl⟩
    rw [hp] at M1
    rw [hm] at CM
    rw [hh] at S1
    rw [hj] at S2
    have A1 := fun u => spec_add p.1 p.2 r.1 r.2 ⟨#[]⟩ ⟨#[]⟩ u
    have CC := fun u => spec_cmp m.1 m.2 k.1 k.2 ⟨#[]⟩ ⟨#[]⟩ u
    obtain ⟨z, hz⟩ : ∃ s, addI p.1 p.2 ⟨#[]⟩ r.1 r.2 ⟨#[]⟩ = s := ⟨_, rfl⟩
    obtain ⟨cc, hcc⟩ : ∃ s, cmpI m.1 m.2 ⟨#[]⟩ k.1 k.2 ⟨#[]⟩ = s := ⟨_, rfl⟩
    rw [hz] at A1
    rw [hcc] at CC
    have L1 := div_law1 x1 x2 xt y1 y2 yt hq hr hp hz
    have L2 := div_law2 x1 x2 xt y1 y2 yt hr
    have L3 := div_law3 x1 x2 xt y1 y2 yt hr hm hk hcc
    have L4 := div_law4 x1 x2 xt hf hh
    have L5 := div_law5 x1 x2 xt hg hj
    clear hq hr hf hg hk hp hm hh hj hz hcc
    obtain ⟨q1, q2⟩ := q
    obtain ⟨r1, r2⟩ := r
    obtain ⟨f1, f2⟩ := f
    obtain ⟨g1, g2⟩ := g
    obtain ⟨k1, k2⟩ := k
    obtain ⟨p1, p2⟩ := p
    obtain ⟨m1, m2⟩ := m
    obtain ⟨h1, h2⟩ := h
    obtain ⟨j1, j2⟩ := j
    obtain ⟨z1, z2⟩ := z
    simp only [Prod.mk.injEq] at L1
    replace L1 := Lib.hid L1
    replace L2 := Lib.hid L2
    replace L3 := Lib.hid L3
    replace L4 := Lib.hid L4
    replace L5 := Lib.hid L5
    go_wp2_with (first
      | ((with_reducible refine (Q1 _).mono ?_); rintro e u ⟨rfl, hb⟩; first | (replace hO := hO.step hb; clear hb) | subst hb)
      | ((with_reducible refine (R1 _).mono ?_); rintro e u ⟨rfl, hb⟩; first | (replace hO := hO.step hb; clear hb) | subst hb)
      | ((with_reducible refine wpl_alloc ?_); refine wpList_alloc_own rfl (by rfl) hO rfl (fun b => by simp only [Act.put, List.setIfInBounds_toArray, List.set_cons_succ, List.set_cons_zero]; rfl) ?_; (first | (refine nm 0 rfl ?_; clear hO; intro b0 u hO) | (refine nm 1 rfl ?_; clear hO; intro b1 u hO) | (refine nm 2 rfl ?_; clear hO; intro b2 u hO) | (refine nm 3 rfl ?_; clear hO; intro b3 u hO) | (refine nm 4 rfl ?_; clear hO; intro b4 u hO) | (refine nm 5 rfl ?_; clear hO; intro b5 u hO) | (refine nm 6 rfl ?_; clear hO; intro b6 u hO) | (refine nm 7 rfl ?_; clear hO; intro b7 u hO) | (refine nm 8 rfl ?_; clear hO; intro b8 u hO)); simp only [List.nil_append, List.cons_append] at hO)
      | ((with_reducible refine wpl_box ?_); refine wpList_box_own rfl (by rfl) hO rfl rfl (fun b => by simp only [Act.put, List.setIfInBounds_toArray, List.set_cons_succ, List.set_cons_zero]; rfl) ?_; (first | (refine nm 0 rfl ?_; clear hO; intro b0 u hO) | (refine nm 1 rfl ?_; clear hO; intro b1 u hO) | (refine nm 2 rfl ?_; clear hO; intro b2 u hO) | (refine nm 3 rfl ?_; clear hO; intro b3 u hO) | (refine nm 4 rfl ?_; clear hO; intro b4 u hO) | (refine nm 5 rfl ?_; clear hO; intro b5 u hO) | (refine nm 6 rfl ?_; clear hO; intro b6 u hO) | (refine nm 7 rfl ?_; clear hO; intro b7 u hO) | (refine nm 8 rfl ?_; clear hO; intro b8 u hO)); simp only [List.nil_append, List.cons_append] at hO)
      | ((with_reducible refine wpl_load ?_); first | (refine wpList_load_box rfl (by first | rfl | (simp only [Region.wanted, yielded, *]; go_simp; done) | (simp [Region.wanted, yielded, *]; done) | fail) hO rfl _ (by first | exact at0 | exact at1 | exact at2 | exact at3 | exact at4 | exact at5 | exact at6 | exact at7 | exact at8) (by rfl) (by simp only [Act.put, List.setIfInBounds_toArray, List.set_cons_succ, List.set_cons_zero]; rfl) ?_) | (refine wpList_load_field rfl (by first | rfl | (simp only [Region.wanted, yielded, *]; go_simp; done) | (simp [Region.wanted, yielded, *]; done) | fail) hO rfl _ (by first | exact at0 | exact at1 | exact at2 | exact at3 | exact at4 | exact at5 | exact at6 | exact at7 | exact at8) (by rfl) (by simp only [Act.put, List.setIfInBounds_toArray, List.set_cons_succ, List.set_cons_zero]; rfl) ?_))
      | ((with_reducible refine wpl_store ?_); first | (refine wpList_store_box rfl (by rfl) hO rfl _ (by first | exact at0 | exact at1 | exact at2 | exact at3 | exact at4 | exact at5 | exact at6 | exact at7 | exact at8) rfl (by rfl) (by rfl) (by rfl) (by rfl) (by rfl) ?_; clear hO; intro u hO; simp only [List.set_cons_zero, List.set_cons_succ] at hO) | (refine wpList_store_field rfl (by rfl) hO rfl _ (by first | exact at0 | exact at1 | exact at2 | exact at3 | exact at4 | exact at5 | exact at6 | exact at7 | exact at8) (Nat.le_of_ble_eq_true rfl) (by simp only [Act.eval, Array.getD_eq_getD_getElem?, List.getElem?_toArray, List.getElem?_cons_succ, List.getElem?_cons_zero, Option.getD_some]; rfl) (by rfl) (by rfl) (by rfl) ?_; clear hO; intro u hO; simp only [List.set_cons_zero, List.set_cons_succ] at hO))
      | fail)
    clear Q1 R1
    refine J.wp_region_c (n := 143) [0, 1, 2, 3, 4, 5, 6, 7, 8, 9, 10, 11] [] (deps := fun i => [[], [], [], [1, 2], [0, 1, 2, 3], [0, 1, 2, 3, 4], [0, 1, 2, 3, 4, 5], [0, 1, 2, 3, 4, 5], [0, 1, 2, 3, 4, 5], [0, 1, 2, 3, 4, 5, 7, 8], [0, 1, 2, 3, 4, 5, 6, 7, 8, 9], [0, 1, 2, 3, 4, 5, 6, 7, 8, 9, 10]].getD i []) (fun _ _ _ => True) (r := 0) (lst := #[true, true, true, true, true, true, true, true, true, true, true, true]) (by kernel_rfl) (by kernel_rfl) (by kernel_rfl) rfl (by decide) (by kernel_rfl) hO ?_
    refine J.Chain.cons (by rfl) (by rfl) (fun M u hO K hK => by (first | exact wp_load_box hO rfl rfl _ (by first | exact at0 | exact at1 | exact at2 | exact at3 | exact at4 | exact at5 | exact at6 | exact at7 | exact at8) (by rfl) (by rfl) (hK _ hO) | exact wp_load_field hO rfl rfl _ (by first | exact at0 | exact at1 | exact at2 | exact at3 | exact at4 | exact at5 | exact at6 | exact at7 | exact at8) (by rfl) (by rfl) (hK _ hO))) (by simp only [J.putL, List.getElem_toArray, List.getElem_cons_succ, List.getElem_cons_zero, J.dstOf, List.getElem?_toArray, List.getElem?_cons_succ, List.getElem?_cons_zero, Option.bind_some, List.getD_cons_succ, List.getD_cons_zero, Act.put, List.setIfInBounds_toArray, List.set_cons_succ, List.set_cons_zero]; rfl) ?_
    refine J.Chain.cons (by rfl) (by rfl) (fun M u hO K hK => by (first | exact wp_load_box hO rfl rfl _ (by first | exact at0 | exact at1 | exact at2 | exact at3 | exact at4 | exact at5 | exact at6 | exact at7 | exact at8) (by rfl) (by rfl) (hK _ hO) | exact wp_load_field hO rfl rfl _ (by first | exact at0 | exact at1 | exact at2 | exact at3 | exact at4 | exact at5 | exact at6 | exact at7 | exact at8) (by rfl) (by rfl) (hK _ hO))) (by simp only [J.putL, List.getElem_toArray, List.getElem_cons_succ, List.getElem_cons_zero, J.dstOf, List.getElem?_toArray, List.getElem?_cons_succ, List.getElem?_cons_zero, Option.bind_some, List.getD_cons_succ, List.getD_cons_zero, Act.put, List.setIfInBounds_toArray, List.set_cons_succ, List.set_cons_zero]; rfl) ?_
    refine J.Chain.cons (by rfl) (by rfl) (fun M u hO K hK => by (first | exact wp_load_box hO rfl rfl _ (by first | exact at0 | exact at1 | exact at2 | exact at3 | exact at4 | exact at5 | exact at6 | exact at7 | exact at8) (by rfl) (by rfl) (hK _ hO) | exact wp_load_field hO rfl rfl _ (by first | exact at0 | exact at1 | exact at2 | exact at3 | exact at4 | exact at5 | exact at6 | exact at7 | exact at8) (by rfl) (by rfl) (hK _ hO))) (by simp only [J.putL, List.getElem_toArray, List.getElem_cons_succ, List.getElem_cons_zero, J.dstOf, List.getElem?_toArray, List.getElem?_cons_succ, List.getElem?_cons_zero, Option.bind_some, List.getD_cons_succ, List.getD_cons_zero, Act.put, List.setIfInBounds_toArray, List.set_cons_succ, List.set_cons_zero]; rfl) ?_
    refine J.Chain.cons (by rfl) (by rfl) (fun M u hO K hK => by (simp only [wp_at_zero, wp_at_succ]; go_step; refine (Q2 _).mono ?_; rintro e u ⟨rfl, hb⟩; first | exact hK _ (hO.step hb) | (subst hb; exact hK _ hO))) (by simp only [J.putL, List.getElem_toArray, List.getElem_cons_succ, List.getElem_cons_zero, J.dstOf, List.getElem?_toArray, List.getElem?_cons_succ, List.getElem?_cons_zero, Option.bind_some, List.getD_cons_succ, List.getD_cons_zero, Act.put, List.setIfInBounds_toArray, List.set_cons_succ, List.set_cons_zero]; rfl) ?_
    refine J.Chain.cons (by rfl) (by rfl) (fun M u hO K hK => by (simp only [wp_at_zero, wp_at_succ]; go_step; exact hK _ hO)) (by simp only [J.putL, List.getElem_toArray, List.getElem_cons_succ, List.getElem_cons_zero, J.dstOf, List.getElem?_toArray, List.getElem?_cons_succ, List.getElem?_cons_zero, Option.bind_some, List.getD_cons_succ, List.getD_cons_zero, Act.put, List.setIfInBounds_toArray, List.set_cons_succ, List.set_cons_zero]; rfl) ?_
    refine J.Chain.cons (by rfl) (by rfl) (fun M u hO K hK => by (simp only [wp_at_zero, wp_at_succ]; go_step; exact hK _ hO)) (by simp only [J.putL, List.getElem_toArray, List.getElem_cons_succ, List.getElem_cons_zero, J.dstOf, List.getElem?_toArray, List.getElem?_cons_succ, List.getElem?_cons_zero, Option.bind_some, List.getD_cons_succ, List.getD_cons_zero, Act.put, List.setIfInBounds_toArray, List.set_cons_succ, List.set_cons_zero]; rfl) ?_
    refine J.Chain.cons (by rfl) (by rfl) (fun M u hO K hK => by (first | exact wp_load_box hO rfl rfl _ (by first | exact at0 | exact at1 | exact at2 | exact at3 | exact at4 | exact at5 | exact at6 | exact at7 | exact at8) (by rfl) (by rfl) (hK _ hO) | exact wp_load_field hO rfl rfl _ (by first | exact at0 | exact at1 | exact at2 | exact at3 | exact at4 | exact at5 | exact at6 | exact at7 | exact at8) (by rfl) (by rfl) (hK _ hO))) (by simp only [J.putL, List.getElem_toArray, List.getElem_cons_succ, List.getElem_cons_zero, J.dstOf, List.getElem?_toArray, List.getElem?_cons_succ, List.getElem?_cons_zero, Option.bind_some, List.getD_cons_succ, List.getD_cons_zero, Act.put, List.setIfInBounds_toArray, List.set_cons_succ, List.set_cons_zero]; rfl) ?_
    refine J.Chain.cons (by rfl) (by rfl) (fun M u hO K hK => by (first | exact wp_load_box hO rfl rfl _ (by first | exact at0 | exact at1 | exact at2 | exact at3 | exact at4 | exact at5 | exact at6 | exact at7 | exact at8) (by rfl) (by rfl) (hK _ hO) | exact wp_load_field hO rfl rfl _ (by first | exact at0 | exact at1 | exact at2 | exact at3 | exact at4 | exact at5 | exact at6 | exact at7 | exact at8) (by rfl) (by rfl) (hK _ hO))) (by simp only [J.putL, List.getElem_toArray, List.getElem_cons_succ, List.getElem_cons_zero, J.dstOf, List.getElem?_toArray, List.getElem?_cons_succ, List.getElem?_cons_zero, Option.bind_some, List.getD_cons_succ, List.getD_cons_zero, Act.put, List.setIfInBounds_toArray, List.set_cons_succ, List.set_cons_zero]; rfl) ?_
    refine J.Chain.cons (by rfl) (by rfl) (fun M u hO K hK => by (first | exact wp_load_box hO rfl rfl _ (by first | exact at0 | exact at1 | exact at2 | exact at3 | exact at4 | exact at5 | exact at6 | exact at7 | exact at8) (by rfl) (by rfl) (hK _ hO) | exact wp_load_field hO rfl rfl _ (by first | exact at0 | exact at1 | exact at2 | exact at3 | exact at4 | exact at5 | exact at6 | exact at7 | exact at8) (by rfl) (by rfl) (hK _ hO))) (by simp only [J.putL, List.getElem_toArray, List.getElem_cons_succ, List.getElem_cons_zero, J.dstOf, List.getElem?_toArray, List.getElem?_cons_succ, List.getElem?_cons_zero, Option.bind_some, List.getD_cons_succ, List.getD_cons_zero, Act.put, List.setIfInBounds_toArray, List.set_cons_succ, List.set_cons_zero]; rfl) ?_
    refine J.Chain.cons (by rfl) (by rfl) (fun M u hO K hK => by (simp only [wp_at_zero, wp_at_succ]; go_step; refine (R2 _).mono ?_; rintro e u ⟨rfl, hb⟩; first | exact hK _ (hO.step hb) | (subst hb; exact hK _ hO))) (by simp only [J.putL, List.getElem_toArray, List.getElem_cons_succ, List.getElem_cons_zero, J.dstOf, List.getElem?_toArray, List.getElem?_cons_succ, List.getElem?_cons_zero, Option.bind_some, List.getD_cons_succ, List.getD_cons_zero, Act.put, List.setIfInBounds_toArray, List.set_cons_succ, List.set_cons_zero]; rfl) ?_
    refine J.Chain.cons (by rfl) (by rfl) (fun M u hO K hK => by (simp only [wp_at_zero, wp_at_succ]; go_step; exact hK _ hO)) (by simp only [J.putL, List.getElem_toArray, List.getElem_cons_succ, List.getElem_cons_zero, J.dstOf, List.getElem?_toArray, List.getElem?_cons_succ, List.getElem?_cons_zero, Option.bind_some, List.getD_cons_succ, List.getD_cons_zero, Act.put, List.setIfInBounds_toArray, List.set_cons_succ, List.set_cons_zero]; rfl) ?_
    refine J.Chain.cons (by rfl) (by rfl) (fun M u hO K hK => by (simp only [wp_at_zero, wp_at_succ]; go_step; exact hK _ hO)) (by simp only [J.putL, List.getElem_toArray, List.getElem_cons_succ, List.getElem_cons_zero, J.dstOf, List.getElem?_toArray, List.getElem?_cons_succ, List.getElem?_cons_zero, Option.bind_some, List.getD_cons_succ, List.getD_cons_zero, Act.put, List.setIfInBounds_toArray, List.set_cons_succ, List.set_cons_zero]; rfl) ?_
    refine J.Chain.nil ⟨?_, ?_⟩
    · exact J.Each.nil
    intro vs u hO hF
    clear hF
    simp only [List.flatMap_cons, List.flatMap_nil, List.append_nil, List.nil_append, List.cons_append] at hO
    simp only [J.putL]
    clear vs
    refine wpAny_done (by kernel_rfl) ?_ _
    go_wp2_with (first
      | ((with_reducible refine wpl_alloc ?_); refine wpList_alloc_own rfl (by rfl) hO rfl (fun b => by simp only [Act.put, List.setIfInBounds_toArray, List.set_cons_succ, List.set_cons_zero]; rfl) ?_; (first | (refine nm 0 rfl ?_; clear hO; intro b0 u hO) | (refine nm 1 rfl ?_; clear hO; intro b1 u hO) | (refine nm 2 rfl ?_; clear hO; intro b2 u hO) | (refine nm 3 rfl ?_; clear hO; intro b3 u hO) | (refine nm 4 rfl ?_; clear hO; intro b4 u hO) | (refine nm 5 rfl ?_; clear hO; intro b5 u hO) | (refine nm 6 rfl ?_; clear hO; intro b6 u hO) | (refine nm 7 rfl ?_; clear hO; intro b7 u hO) | (refine nm 8 rfl ?_; clear hO; intro b8 u hO)); simp only [List.nil_append, List.cons_append] at hO)
      | ((with_reducible refine wpl_box ?_); refine wpList_box_own rfl (by rfl) hO rfl rfl (fun b => by simp only [Act.put, List.setIfInBounds_toArray, List.set_cons_succ, List.set_cons_zero]; rfl) ?_; (first | (refine nm 0 rfl ?_; clear hO; intro b0 u hO) | (refine nm 1 rfl ?_; clear hO; intro b1 u hO) | (refine nm 2 rfl ?_; clear hO; intro b2 u hO) | (refine nm 3 rfl ?_; clear hO; intro b3 u hO) | (refine nm 4 rfl ?_; clear hO; intro b4 u hO) | (refine nm 5 rfl ?_; clear hO; intro b5 u hO) | (refine nm 6 rfl ?_; clear hO; intro b6 u hO) | (refine nm 7 rfl ?_; clear hO; intro b7 u hO) | (refine nm 8 rfl ?_; clear hO; intro b8 u hO)); simp only [List.nil_append, List.cons_append] at hO)
      | ((with_reducible refine wpl_load ?_); first | (refine wpList_load_box rfl (by first | rfl | (simp only [Region.wanted, yielded, *]; go_simp; done) | (simp [Region.wanted, yielded, *]; done) | fail) hO rfl _ (by first | exact at0 | exact at1 | exact at2 | exact at3 | exact at4 | exact at5 | exact at6 | exact at7 | exact at8) (by rfl) (by simp only [Act.put, List.setIfInBounds_toArray, List.set_cons_succ, List.set_cons_zero]; rfl) ?_) | (refine wpList_load_field rfl (by first | rfl | (simp only [Region.wanted, yielded, *]; go_simp; done) | (simp [Region.wanted, yielded, *]; done) | fail) hO rfl _ (by first | exact at0 | exact at1 | exact at2 | exact at3 | exact at4 | exact at5 | exact at6 | exact at7 | exact at8) (by rfl) (by simp only [Act.put, List.setIfInBounds_toArray, List.set_cons_succ, List.set_cons_zero]; rfl) ?_))
      | ((with_reducible refine wpl_store ?_); first | (refine wpList_store_box rfl (by rfl) hO rfl _ (by first | exact at0 | exact at1 | exact at2 | exact at3 | exact at4 | exact at5 | exact at6 | exact at7 | exact at8) rfl (by rfl) (by rfl) (by rfl) (by rfl) (by rfl) ?_; clear hO; intro u hO; simp only [List.set_cons_zero, List.set_cons_succ] at hO) | (refine wpList_store_field rfl (by rfl) hO rfl _ (by first | exact at0 | exact at1 | exact at2 | exact at3 | exact at4 | exact at5 | exact at6 | exact at7 | exact at8) (Nat.le_of_ble_eq_true rfl) (by simp only [Act.eval, Array.getD_eq_getD_getElem?, List.getElem?_toArray, List.getElem?_cons_succ, List.getElem?_cons_zero, Option.getD_some]; rfl) (by rfl) (by rfl) (by rfl) ?_; clear hO; intro u hO; simp only [List.set_cons_zero, List.set_cons_succ] at hO))
      | fail)
    clear Q2 R2
    refine J.wp_region_c (n := 143) [0, 1, 2, 3, 4] [5] (deps := fun i => [[], [], [0, 1], [], [0, 1, 2, 3], [], []].getD i []) (fun _ _ => J.fresh 25 [.int .i64 0, .int .i64 0, .string ⟨#[]⟩]) (r := 1) (lst := #[true, true, true, true, true, true, false]) (by kernel_rfl) (by kernel_rfl) (by kernel_rfl) rfl (by decide) (by kernel_rfl) hO ?_
    refine J.Chain.cons (by rfl) (by rfl) (fun M u hO K hK => by (first | exact wp_load_box hO rfl rfl _ (by first | exact at0 | exact at1 | exact at2 | exact at3 | exact at4 | exact at5 | exact at6 | exact at7 | exact at8) (by rfl) (by rfl) (hK _ hO) | exact wp_load_field hO rfl rfl _ (by first | exact at0 | exact at1 | exact at2 | exact at3 | exact at4 | exact at5 | exact at6 | exact at7 | exact at8) (by rfl) (by rfl) (hK _ hO))) (by simp only [J.putL, List.getElem_toArray, List.getElem_cons_succ, List.getElem_cons_zero, J.dstOf, List.getElem?_toArray, List.getElem?_cons_succ, List.getElem?_cons_zero, Option.bind_some, List.getD_cons_succ, List.getD_cons_zero, Act.put, List.setIfInBounds_toArray, List.set_cons_succ, List.set_cons_zero]; rfl) ?_
    refine J.Chain.cons (by rfl) (by rfl) (fun M u hO K hK => by (first | exact wp_load_box hO rfl rfl _ (by first | exact at0 | exact at1 | exact at2 | exact at3 | exact at4 | exact at5 | exact at6 | exact at7 | exact at8) (by rfl) (by rfl) (hK _ hO) | exact wp_load_field hO rfl rfl _ (by first | exact at0 | exact at1 | exact at2 | exact at3 | exact at4 | exact at5 | exact at6 | exact at7 | exact at8) (by rfl) (by rfl) (hK _ hO))) (by simp only [J.putL, List.getElem_toArray, List.getElem_cons_succ, List.getElem_cons_zero, J.dstOf, List.getElem?_toArray, List.getElem?_cons_succ, List.getElem?_cons_zero, Option.bind_some, List.getD_cons_succ, List.getD_cons_zero, Act.put, List.setIfInBounds_toArray, List.set_cons_succ, List.set_cons_zero]; rfl) ?_
    refine J.Chain.cons (by rfl) (by rfl) (fun M u hO K hK => by (simp only [wp_at_zero, wp_at_succ]; go_step; refine (M1 _).mono ?_; rintro e u ⟨rfl, hb⟩; first | exact hK _ (hO.step hb) | (subst hb; exact hK _ hO))) (by simp only [J.putL, List.getElem_toArray, List.getElem_cons_succ, List.getElem_cons_zero, J.dstOf, List.getElem?_toArray, List.getElem?_cons_succ, List.getElem?_cons_zero, Option.bind_some, List.getD_cons_succ, List.getD_cons_zero, Act.put, List.setIfInBounds_toArray, List.set_cons_succ, List.set_cons_zero]; rfl) ?_
    refine J.Chain.cons (by rfl) (by rfl) (fun M u hO K hK => by (first | exact wp_load_box hO rfl rfl _ (by first | exact at0 | exact at1 | exact at2 | exact at3 | exact at4 | exact at5 | exact at6 | exact at7 | exact at8) (by rfl) (by rfl) (hK _ hO) | exact wp_load_field hO rfl rfl _ (by first | exact at0 | exact at1 | exact at2 | exact at3 | exact at4 | exact at5 | exact at6 | exact at7 | exact at8) (by rfl) (by rfl) (hK _ hO))) (by simp only [J.putL, List.getElem_toArray, List.getElem_cons_succ, List.getElem_cons_zero, J.dstOf, List.getElem?_toArray, List.getElem?_cons_succ, List.getElem?_cons_zero, Option.bind_some, List.getD_cons_succ, List.getD_cons_zero, Act.put, List.setIfInBounds_toArray, List.set_cons_succ, List.set_cons_zero]; rfl) ?_
    refine J.Chain.cons (by rfl) (by rfl) (fun M u hO K hK => by (simp only [wp_at_zero, wp_at_succ]; go_step; refine (A1 _).mono ?_; rintro e u ⟨rfl, hb⟩; first | exact hK _ (hO.step hb) | (subst hb; exact hK _ hO))) (by simp only [J.putL, List.getElem_toArray, List.getElem_cons_succ, List.getElem_cons_zero, J.dstOf, List.getElem?_toArray, List.getElem?_cons_succ, List.getElem?_cons_zero, Option.bind_some, List.getD_cons_succ, List.getD_cons_zero, Act.put, List.setIfInBounds_toArray, List.set_cons_succ, List.set_cons_zero]; rfl) ?_
    refine J.Chain.nil ⟨?_, ?_⟩
    · refine J.Each.cons (by rfl) ⟨rfl, fun vs M u hO _ K hK => wp_alloc_own hO rfl rfl fun b u hO => hK _ _ _ ⟨b, rfl⟩ hO⟩ ?_; exact J.Each.nil
    intro vs u hO hF
    obtain ⟨b4, h5⟩ : J.fresh _ _ (vs 5) := hF 5 (by decide)
    clear hF
    simp only [List.flatMap_cons, List.flatMap_nil, h5, List.append_nil, List.nil_append, List.cons_append] at hO
    simp only [h5, J.putL, List.getElem_toArray, List.getElem_cons_succ, List.getElem_cons_zero, J.dstOf, List.getElem?_toArray, List.getElem?_cons_succ, List.getElem?_cons_zero, Option.bind_some, List.getD_cons_succ, List.getD_cons_zero, Act.put, List.setIfInBounds_toArray, List.set_cons_succ, List.set_cons_zero]
    clear h5 vs
    refine J.wpAny_one (i := 6) (by kernel_rfl) (by rfl) rfl fun K hK => ?_
    first
      | (refine wp_store_box hO rfl rfl _ (by first | exact at0 | exact at1 | exact at2 | exact at3 | exact at4 | exact at5 | exact at6 | exact at7 | exact at8) rfl (by rfl) (by rfl) (by rfl) (by rfl) (by rfl) ?_; clear hO; intro u hO; simp only [List.set_cons_zero, List.set_cons_succ] at hO; refine hK _ _ ?_; clear hK K)
      | (refine wp_store_field hO rfl rfl _ (by first | exact at0 | exact at1 | exact at2 | exact at3 | exact at4 | exact at5 | exact at6 | exact at7 | exact at8) (Nat.le_of_ble_eq_true rfl) (by simp only [Act.eval, Array.getD_eq_getD_getElem?, List.getElem?_toArray, List.getElem?_cons_succ, List.getElem?_cons_zero, Option.getD_some]; rfl) (by rfl) (by rfl) (by rfl) ?_; clear hO; intro u hO; simp only [List.set_cons_zero, List.set_cons_succ] at hO; refine hK _ _ ?_; clear hK K)
    refine wpAny_done (by kernel_rfl) ?_ _
    go_wp2_with (first
      | ((with_reducible refine wpl_alloc ?_); refine wpList_alloc_own rfl (by rfl) hO rfl (fun b => by simp only [Act.put, List.setIfInBounds_toArray, List.set_cons_succ, List.set_cons_zero]; rfl) ?_; (first | (refine nm 0 rfl ?_; clear hO; intro b0 u hO) | (refine nm 1 rfl ?_; clear hO; intro b1 u hO) | (refine nm 2 rfl ?_; clear hO; intro b2 u hO) | (refine nm 3 rfl ?_; clear hO; intro b3 u hO) | (refine nm 4 rfl ?_; clear hO; intro b4 u hO) | (refine nm 5 rfl ?_; clear hO; intro b5 u hO) | (refine nm 6 rfl ?_; clear hO; intro b6 u hO) | (refine nm 7 rfl ?_; clear hO; intro b7 u hO) | (refine nm 8 rfl ?_; clear hO; intro b8 u hO)); simp only [List.nil_append, List.cons_append] at hO)
      | ((with_reducible refine wpl_box ?_); refine wpList_box_own rfl (by rfl) hO rfl rfl (fun b => by simp only [Act.put, List.setIfInBounds_toArray, List.set_cons_succ, List.set_cons_zero]; rfl) ?_; (first | (refine nm 0 rfl ?_; clear hO; intro b0 u hO) | (refine nm 1 rfl ?_; clear hO; intro b1 u hO) | (refine nm 2 rfl ?_; clear hO; intro b2 u hO) | (refine nm 3 rfl ?_; clear hO; intro b3 u hO) | (refine nm 4 rfl ?_; clear hO; intro b4 u hO) | (refine nm 5 rfl ?_; clear hO; intro b5 u hO) | (refine nm 6 rfl ?_; clear hO; intro b6 u hO) | (refine nm 7 rfl ?_; clear hO; intro b7 u hO) | (refine nm 8 rfl ?_; clear hO; intro b8 u hO)); simp only [List.nil_append, List.cons_append] at hO)
      | ((with_reducible refine wpl_load ?_); first | (refine wpList_load_box rfl (by first | rfl | (simp only [Region.wanted, yielded, *]; go_simp; done) | (simp [Region.wanted, yielded, *]; done) | fail) hO rfl _ (by first | exact at0 | exact at1 | exact at2 | exact at3 | exact at4 | exact at5 | exact at6 | exact at7 | exact at8) (by rfl) (by simp only [Act.put, List.setIfInBounds_toArray, List.set_cons_succ, List.set_cons_zero]; rfl) ?_) | (refine wpList_load_field rfl (by first | rfl | (simp only [Region.wanted, yielded, *]; go_simp; done) | (simp [Region.wanted, yielded, *]; done) | fail) hO rfl _ (by first | exact at0 | exact at1 | exact at2 | exact at3 | exact at4 | exact at5 | exact at6 | exact at7 | exact at8) (by rfl) (by simp only [Act.put, List.setIfInBounds_toArray, List.set_cons_succ, List.set_cons_zero]; rfl) ?_))
      | ((with_reducible refine wpl_store ?_); first | (refine wpList_store_box rfl (by rfl) hO rfl _ (by first | exact at0 | exact at1 | exact at2 | exact at3 | exact at4 | exact at5 | exact at6 | exact at7 | exact at8) rfl (by rfl) (by rfl) (by rfl) (by rfl) (by rfl) ?_; clear hO; intro u hO; simp only [List.set_cons_zero, List.set_cons_succ] at hO) | (refine wpList_store_field rfl (by rfl) hO rfl _ (by first | exact at0 | exact at1 | exact at2 | exact at3 | exact at4 | exact at5 | exact at6 | exact at7 | exact at8) (Nat.le_of_ble_eq_true rfl) (by simp only [Act.eval, Array.getD_eq_getD_getElem?, List.getElem?_toArray, List.getElem?_cons_succ, List.getElem?_cons_zero, Option.getD_some]; rfl) (by rfl) (by rfl) (by rfl) ?_; clear hO; intro u hO; simp only [List.set_cons_zero, List.set_cons_succ] at hO))
      | fail)
    clear M1 A1
    replace hO := hO.pickB [0, 1, 3, 4] (by decide)
    simp only [List.filterMap_cons, List.filterMap_nil, List.getElem?_cons_zero, List.getElem?_cons_succ] at hO
    refine dv_mid CM CK CC L3.out L1.out (by have := L2.out; omega) hO ?_
    clear hO
    intro c' x42 x43 x44 x45 x46 x47 x48 x49 x50 x51 x52 x53 x54 x55 x56 x57 x58 x59 x60 x61 x62 x63 x64 x65 x66 x67 x68 x69 x70 x71 x72 x73 x74 x75 x76 x77 x78 x79 x80 x81 x82 u hc' hO
    subst hc'
    clear CM CK CC L1 L2 L3
    go_wp2_with (first
      | ((with_reducible refine (F1 _).mono ?_); rintro e u ⟨rfl, hb⟩; first | (replace hO := hO.step hb; clear hb) | subst hb)
      | ((with_reducible refine (G1 _).mono ?_); rintro e u ⟨rfl, hb⟩; first | (replace hO := hO.step hb; clear hb) | subst hb)
      | ((with_reducible refine (S1 _).mono ?_); rintro e u ⟨rfl, hb⟩; first | (replace hO := hO.step hb; clear hb) | subst hb)
      | ((with_reducible refine (S2 _).mono ?_); rintro e u ⟨rfl, hb⟩; first | (replace hO := hO.step hb; clear hb) | subst hb)
      | ((with_reducible refine wpl_alloc ?_); refine wpList_alloc_own rfl (by rfl) hO rfl (fun b => by simp only [Act.put, List.setIfInBounds_toArray, List.set_cons_succ, List.set_cons_zero]; rfl) ?_; (first | (refine nm 0 rfl ?_; clear hO; intro b0 u hO) | (refine nm 1 rfl ?_; clear hO; intro b1 u hO) | (refine nm 2 rfl ?_; clear hO; intro b2 u hO) | (refine nm 3 rfl ?_; clear hO; intro b3 u hO) | (refine nm 4 rfl ?_; clear hO; intro b4 u hO) | (refine nm 5 rfl ?_; clear hO; intro b5 u hO) | (refine nm 6 rfl ?_; clear hO; intro b6 u hO) | (refine nm 7 rfl ?_; clear hO; intro b7 u hO) | (refine nm 8 rfl ?_; clear hO; intro b8 u hO)); simp only [List.nil_append, List.cons_append] at hO)
      | ((with_reducible refine wpl_box ?_); refine wpList_box_own rfl (by rfl) hO rfl rfl (fun b => by simp only [Act.put, List.setIfInBounds_toArray, List.set_cons_succ, List.set_cons_zero]; rfl) ?_; (first | (refine nm 0 rfl ?_; clear hO; intro b0 u hO) | (refine nm 1 rfl ?_; clear hO; intro b1 u hO) | (refine nm 2 rfl ?_; clear hO; intro b2 u hO) | (refine nm 3 rfl ?_; clear hO; intro b3 u hO) | (refine nm 4 rfl ?_; clear hO; intro b4 u hO) | (refine nm 5 rfl ?_; clear hO; intro b5 u hO) | (refine nm 6 rfl ?_; clear hO; intro b6 u hO) | (refine nm 7 rfl ?_; clear hO; intro b7 u hO) | (refine nm 8 rfl ?_; clear hO; intro b8 u hO)); simp only [List.nil_append, List.cons_append] at hO)
      | ((with_reducible refine wpl_load ?_); first | (refine wpList_load_box rfl (by first | rfl | (simp only [Region.wanted, yielded, *]; go_simp; done) | (simp [Region.wanted, yielded, *]; done) | fail) hO rfl _ (by first | exact at0 | exact at1 | exact at2 | exact at3 | exact at4 | exact at5 | exact at6 | exact at7 | exact at8) (by rfl) (by simp only [Act.put, List.setIfInBounds_toArray, List.set_cons_succ, List.set_cons_zero]; rfl) ?_) | (refine wpList_load_field rfl (by first | rfl | (simp only [Region.wanted, yielded, *]; go_simp; done) | (simp [Region.wanted, yielded, *]; done) | fail) hO rfl _ (by first | exact at0 | exact at1 | exact at2 | exact at3 | exact at4 | exact at5 | exact at6 | exact at7 | exact at8) (by rfl) (by simp only [Act.put, List.setIfInBounds_toArray, List.set_cons_succ, List.set_cons_zero]; rfl) ?_))
      | ((with_reducible refine wpl_store ?_); first | (refine wpList_store_box rfl (by rfl) hO rfl _ (by first | exact at0 | exact at1 | exact at2 | exact at3 | exact at4 | exact at5 | exact at6 | exact at7 | exact at8) rfl (by rfl) (by rfl) (by rfl) (by rfl) (by rfl) ?_; clear hO; intro u hO; simp only [List.set_cons_zero, List.set_cons_succ] at hO) | (refine wpList_store_field rfl (by rfl) hO rfl _ (by first | exact at0 | exact at1 | exact at2 | exact at3 | exact at4 | exact at5 | exact at6 | exact at7 | exact at8) (Nat.le_of_ble_eq_true rfl) (by simp only [Act.eval, Array.getD_eq_getD_getElem?, List.getElem?_toArray, List.getElem?_cons_succ, List.getElem?_cons_zero, Option.getD_some]; rfl) (by rfl) (by rfl) (by rfl) ?_; clear hO; intro u hO; simp only [List.set_cons_zero, List.set_cons_succ] at hO))
      | fail)
    clear F1 G1 S1 S2
    replace hO := hO.pickB [0, 4, 5, 6, 7] (by decide)
    simp only [List.filterMap_cons, List.filterMap_nil, List.getElem?_cons_zero, List.getElem?_cons_succ] at hO
    refine dv_last F2 G2 L4.out L5.out hO ?_
    clear hO
    intro c' x94 x95 x96 x97 x98 x99 x100 x101 x102 x103 x104 x105 x106 x107 x108 x109 x110 x111 x112 x113 x114 x115 x116 x117 x118 x119 x120 x121 x122 x123 x124 x125 x126 x127 x128 x129 x130 x131 x132 x133 x134 x135 x136 x137 x138 x139 x140 x141 x142 u hc' hO
    go_wp2_with fail
    go_ret
    exact ⟨by first | exact ret_bool hc' | rfl, hO.below⟩

end Go.Proofs.Ytncmekbfmgcbnaa
