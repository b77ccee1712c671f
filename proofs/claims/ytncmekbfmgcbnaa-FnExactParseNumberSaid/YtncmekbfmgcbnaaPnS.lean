/-
  What is proved: what the reference's ParseNumber returns, and the statement on ParseNumber.
  Condition: strings of at most 1048576 bytes.
-/
import Derived.Test.YtncmekbfmgcbnaaPnI
import Derived.Test.YtncmekbfmgcbnaaParse2
import Derived.Test.YtncmekbfmgcbnaaMakeL
namespace Go.Proofs.Ytncmekbfmgcbnaa
open Go.RowKit Go.ChangeShapes Go.WideShapes Go.Deep
set_option linter.unusedVariables false
set_option linter.unusedSimpArgs false



set_option maxRecDepth 20000 in
set_option maxHeartbeats 4000000 in
theorem spec_pn (s : ByteArray) (w : World) (hs : s.size ≤ 1048576) : Calls Try.prog 55 #[.string s] w (RetPn s w) := by
  by_cases hna : s.toList = [78, 65]
  · have HE := Lib.hid (pn_na hna)
    have q0 : (s.toList == [78, 65]) = true := by simp [hna]
    clear hna
    go_enter Try.func55, Try.ntmps55
    have hO := Own.nil w
    go_wp2_with (first
      | ((with_reducible refine wpl_alloc ?_); refine wpList_alloc_own rfl (by rfl) hO rfl (fun b => by simp only [Act.put, List.setIfInBounds_toArray, List.set_cons_succ, List.set_cons_zero]; rfl) ?_; (first | (refine nm 0 rfl ?_; clear hO; intro b0 u hO) | (refine nm 1 rfl ?_; clear hO; intro b1 u hO)); simp only [List.nil_append, List.cons_append] at hO)
      | ((with_reducible refine wpl_box ?_); refine wpList_box_own rfl (by rfl) hO rfl rfl (fun b => by simp only [Act.put, List.setIfInBounds_toArray, List.set_cons_succ, List.set_cons_zero]; rfl) ?_; (first | (refine nm 0 rfl ?_; clear hO; intro b0 u hO) | (refine nm 1 rfl ?_; clear hO; intro b1 u hO)); simp only [List.nil_append, List.cons_append] at hO)
      | ((with_reducible refine wpl_load ?_); first | (refine wpList_load_box rfl (by first | rfl | (simp only [Region.wanted, yielded, *]; go_simp; done) | (simp [Region.wanted, yielded, *]; done) | fail) hO rfl _ (by first | exact at0 | exact at1) (by rfl) (by simp only [Act.put, List.setIfInBounds_toArray, List.set_cons_succ, List.set_cons_zero]; rfl) ?_) | (refine wpList_load_field rfl (by first | rfl | (simp only [Region.wanted, yielded, *]; go_simp; done) | (simp [Region.wanted, yielded, *]; done) | fail) hO rfl _ (by first | exact at0 | exact at1) (by rfl) (by simp only [Act.put, List.setIfInBounds_toArray, List.set_cons_succ, List.set_cons_zero]; rfl) ?_))
      | ((with_reducible refine wpl_store ?_); first | (refine wpList_store_box rfl (by rfl) hO rfl _ (by first | exact at0 | exact at1) rfl (by rfl) (by rfl) (by rfl) (by rfl) (by rfl) ?_; clear hO; intro u hO; simp only [List.set_cons_zero, List.set_cons_succ] at hO) | (refine wpList_store_field rfl (by rfl) hO rfl _ (by first | exact at0 | exact at1) (Nat.le_of_ble_eq_true rfl) (by simp only [Act.eval, Array.getD_eq_getD_getElem?, List.getElem?_toArray, List.getElem?_cons_succ, List.getElem?_cons_zero, Option.getD_some]; rfl) (by rfl) (by rfl) (by rfl) ?_; clear hO; intro u hO; simp only [List.set_cons_zero, List.set_cons_succ] at hO))
      | fail)
    exact ret_box2B rfl hO rfl 0 at0 rfl rfl rfl ⟨ret_pn (p := (0, 0)) HE.out, hO.below⟩
  · have q0 : (s.toList == [78, 65]) = false := by simp [hna]
    have HNO := Lib.hid (fun h => pn_no (s := s) hna h)
    have HYES := Lib.hid (fun h => pn_yes (s := s) hna h)
    have HSP := Lib.hid (fun h1 h2 h3 => pn_spec (s := s) hna h1 h2 h3)
    have HSQ := Lib.hid (fun h => pn_spec' (s := s) h)
    have HDN := Lib.hid (fun h => pn_den s h)
    have CA : ∀ u, Calls Try.prog 93 #[.string (numS s)] u fun e w' => e = .returned (.tuple #[.int .i64 (parseN (numL s)), .bool (parseB (numL s))]) ∧ u = w' := fun u => spec_parse _ u (by unfold numS; simp; unfold maxLen; omega)
    have CB : ∀ u, Calls Try.prog 93 #[.string (denS s)] u fun e w' => e = .returned (.tuple #[.int .i64 (parseN (denL s)), .bool (parseB (denL s))]) ∧ u = w' := fun u => spec_parse _ u (by
      unfold denS
      split
      · simp; unfold maxLen; omega
      · decide)
    have HBA := Lib.hid (parseN_bd (l := numL s))
    have HBB := Lib.hid (parseN_bd (l := denL s))
    have HZA := Lib.hid (parse_no (l := numL s))
    have HZB := Lib.hid (parse_no (l := denL s))
    obtain ⟨n, hn⟩ : ∃ n, parseN (numL s) = n := ⟨_, rfl⟩
    obtain ⟨d, hd⟩ : ∃ n, parseN (denL s) = n := ⟨_, rfl⟩
    obtain ⟨p1, hp1⟩ : ∃ n, parseB (numL s) = n := ⟨_, rfl⟩
    obtain ⟨p2, hp2⟩ : ∃ n, parseB (denL s) = n := ⟨_, rfl⟩
    rw [hn] at HYES CA HBA HSP HSQ HZA
    rw [hd] at HYES CB HBB HSP HSQ HDN HZB
    rw [hp1] at CA HBA HSP HSQ HZA
    rw [hp2] at CB HBB HSP HSQ HDN HZB
    clear hn hd hp1 hp2 hna
    go_enter Try.func55, Try.ntmps55
    have hO := Own.nil w
    go_wp2_with (first
      | ((with_reducible refine wpl_alloc ?_); refine wpList_alloc_own rfl (by rfl) hO rfl (fun b => by simp only [Act.put, List.setIfInBounds_toArray, List.set_cons_succ, List.set_cons_zero]; rfl) ?_; (first | (refine nm 0 rfl ?_; clear hO; intro b0 u hO) | (refine nm 1 rfl ?_; clear hO; intro b1 u hO)); simp only [List.nil_append, List.cons_append] at hO)
      | ((with_reducible refine wpl_box ?_); refine wpList_box_own rfl (by rfl) hO rfl rfl (fun b => by simp only [Act.put, List.setIfInBounds_toArray, List.set_cons_succ, List.set_cons_zero]; rfl) ?_; (first | (refine nm 0 rfl ?_; clear hO; intro b0 u hO) | (refine nm 1 rfl ?_; clear hO; intro b1 u hO)); simp only [List.nil_append, List.cons_append] at hO)
      | ((with_reducible refine wpl_load ?_); first | (refine wpList_load_box rfl (by first | rfl | (simp only [Region.wanted, yielded, *]; go_simp; done) | (simp [Region.wanted, yielded, *]; done) | fail) hO rfl _ (by first | exact at0 | exact at1) (by rfl) (by simp only [Act.put, List.setIfInBounds_toArray, List.set_cons_succ, List.set_cons_zero]; rfl) ?_) | (refine wpList_load_field rfl (by first | rfl | (simp only [Region.wanted, yielded, *]; go_simp; done) | (simp [Region.wanted, yielded, *]; done) | fail) hO rfl _ (by first | exact at0 | exact at1) (by rfl) (by simp only [Act.put, List.setIfInBounds_toArray, List.set_cons_succ, List.set_cons_zero]; rfl) ?_))
      | ((with_reducible refine wpl_store ?_); first | (refine wpList_store_box rfl (by rfl) hO rfl _ (by first | exact at0 | exact at1) rfl (by rfl) (by rfl) (by rfl) (by rfl) (by rfl) ?_; clear hO; intro u hO; simp only [List.set_cons_zero, List.set_cons_succ] at hO) | (refine wpList_store_field rfl (by rfl) hO rfl _ (by first | exact at0 | exact at1) (Nat.le_of_ble_eq_true rfl) (by simp only [Act.eval, Array.getD_eq_getD_getElem?, List.getElem?_toArray, List.getElem?_cons_succ, List.getElem?_cons_zero, Option.getD_some]; rfl) (by rfl) (by rfl) (by rfl) ?_; clear hO; intro u hO; simp only [List.set_cons_zero, List.set_cons_succ] at hO))
      | fail)
    go_loopw [4] (fun x u => ∃ i : Nat, x = .int .i64 i ∧ i ≤ s.size ∧ Hid (i ≤ sl s) ∧ Own w [box b0 25 [.int .i64 0, .int .i64 0, .string ⟨#[]⟩]] u) (fun x _ => s.size - (intOf x).toNat)
    case atStart => exact ⟨0, rfl, by omega, Lib.hid (Nat.zero_le _), hO⟩
    case round =>
      clear hO
      obtain ⟨i, rfl, hi, HI, hO⟩ := hrel
      by_cases h1 : i < s.size
      · obtain ⟨cc, hcc⟩ : ∃ c, s[i] = c := ⟨_, rfl⟩
        by_cases hc : cc = 47
        · have HS := Lib.hid (sl_hit h1 (by rw [hcc]; exact hc) HI.out)
          have q3 : ((cc.toNat : Int) != 47) = false := by rw [hc]; rfl
          have E1 : Hid (s.extract 0 i = numS s) := Lib.hid (by unfold numS; rw [HS.out])
          have E2 : Hid (s.extract (i + 1) s.size = denS s) := Lib.hid (by unfold denS; rw [HS.out, if_pos h1])
          have q1 : (i : Int) < s.size := by omega
          rw [← E1.out] at CA
          rw [← E2.out] at CB
          clear hc
          cases p1 with
          | false =>
            have HE := Lib.hid (HNO.out (by cases h : pnB s with | false => rfl | true => exact absurd (HSQ.out h).1 (by decide)))
            have hz := HZA.out rfl
            subst hz
            go_upto_region 10 with (first
              | ((with_reducible refine (CA _).mono ?_); rintro e u ⟨rfl, hb⟩; first | (replace hO := hO.step hb; clear hb) | subst hb)
              | ((with_reducible refine wpl_alloc ?_); refine wpList_alloc_own rfl (by rfl) hO rfl (fun b => by simp only [Act.put, List.setIfInBounds_toArray, List.set_cons_succ, List.set_cons_zero]; rfl) ?_; (first | (refine nm 0 rfl ?_; clear hO; intro b0 u hO) | (refine nm 1 rfl ?_; clear hO; intro b1 u hO)); simp only [List.nil_append, List.cons_append] at hO)
              | ((with_reducible refine wpl_box ?_); refine wpList_box_own rfl (by rfl) hO rfl rfl (fun b => by simp only [Act.put, List.setIfInBounds_toArray, List.set_cons_succ, List.set_cons_zero]; rfl) ?_; (first | (refine nm 0 rfl ?_; clear hO; intro b0 u hO) | (refine nm 1 rfl ?_; clear hO; intro b1 u hO)); simp only [List.nil_append, List.cons_append] at hO)
              | ((with_reducible refine wpl_load ?_); first | (refine wpList_load_box rfl (by first | rfl | (simp only [Region.wanted, yielded, *]; go_simp; done) | (simp [Region.wanted, yielded, *]; done) | fail) hO rfl _ (by first | exact at0 | exact at1) (by rfl) (by simp only [Act.put, List.setIfInBounds_toArray, List.set_cons_succ, List.set_cons_zero]; rfl) ?_) | (refine wpList_load_field rfl (by first | rfl | (simp only [Region.wanted, yielded, *]; go_simp; done) | (simp [Region.wanted, yielded, *]; done) | fail) hO rfl _ (by first | exact at0 | exact at1) (by rfl) (by simp only [Act.put, List.setIfInBounds_toArray, List.set_cons_succ, List.set_cons_zero]; rfl) ?_))
              | ((with_reducible refine wpl_store ?_); first | (refine wpList_store_box rfl (by rfl) hO rfl _ (by first | exact at0 | exact at1) rfl (by rfl) (by rfl) (by rfl) (by rfl) (by rfl) ?_; clear hO; intro u hO; simp only [List.set_cons_zero, List.set_cons_succ] at hO) | (refine wpList_store_field rfl (by rfl) hO rfl _ (by first | exact at0 | exact at1) (Nat.le_of_ble_eq_true rfl) (by simp only [Act.eval, Array.getD_eq_getD_getElem?, List.getElem?_toArray, List.getElem?_cons_succ, List.getElem?_cons_zero, Option.getD_some]; rfl) (by rfl) (by rfl) (by rfl) ?_; clear hO; intro u hO; simp only [List.set_cons_zero, List.set_cons_succ] at hO))
              | fail)
            have CM := fun u => spec_make 0 1 u (by omega) (by omega)
            go_wp2_with (first
              | ((with_reducible refine (CM _).mono ?_); rintro e u ⟨rfl, hb⟩; first | (replace hO := hO.step hb; clear hb) | subst hb)
              | ((with_reducible refine wpl_alloc ?_); refine wpList_alloc_own rfl (by rfl) hO rfl (fun b => by simp only [Act.put, List.setIfInBounds_toArray, List.set_cons_succ, List.set_cons_zero]; rfl) ?_; (first | (refine nm 0 rfl ?_; clear hO; intro b0 u hO) | (refine nm 1 rfl ?_; clear hO; intro b1 u hO)); simp only [List.nil_append, List.cons_append] at hO)
              | ((with_reducible refine wpl_box ?_); refine wpList_box_own rfl (by rfl) hO rfl rfl (fun b => by simp only [Act.put, List.setIfInBounds_toArray, List.set_cons_succ, List.set_cons_zero]; rfl) ?_; (first | (refine nm 0 rfl ?_; clear hO; intro b0 u hO) | (refine nm 1 rfl ?_; clear hO; intro b1 u hO)); simp only [List.nil_append, List.cons_append] at hO)
              | ((with_reducible refine wpl_load ?_); first | (refine wpList_load_box rfl (by first | rfl | (simp only [Region.wanted, yielded, *]; go_simp; done) | (simp [Region.wanted, yielded, *]; done) | fail) hO rfl _ (by first | exact at0 | exact at1) (by rfl) (by simp only [Act.put, List.setIfInBounds_toArray, List.set_cons_succ, List.set_cons_zero]; rfl) ?_) | (refine wpList_load_field rfl (by first | rfl | (simp only [Region.wanted, yielded, *]; go_simp; done) | (simp [Region.wanted, yielded, *]; done) | fail) hO rfl _ (by first | exact at0 | exact at1) (by rfl) (by simp only [Act.put, List.setIfInBounds_toArray, List.set_cons_succ, List.set_cons_zero]; rfl) ?_))
              | ((with_reducible refine wpl_store ?_); first | (refine wpList_store_box rfl (by rfl) hO rfl _ (by first | exact at0 | exact at1) rfl (by rfl) (by rfl) (by rfl) (by rfl) (by rfl) ?_; clear hO; intro u hO; simp only [List.set_cons_zero, List.set_cons_succ] at hO) | (refine wpList_store_field rfl (by rfl) hO rfl _ (by first | exact at0 | exact at1) (Nat.le_of_ble_eq_true rfl) (by simp only [Act.eval, Array.getD_eq_getD_getElem?, List.getElem?_toArray, List.getElem?_cons_succ, List.getElem?_cons_zero, Option.getD_some]; rfl) (by rfl) (by rfl) (by rfl) ?_; clear hO; intro u hO; simp only [List.set_cons_zero, List.set_cons_succ] at hO))
              | fail)
            exact ret_box2B rfl hO rfl 0 at0 rfl rfl rfl ⟨ret_pn (p := (0, 0)) HE.out, hO.below⟩
          | true =>
          have b1 := HBA.out rfl
          cases p2 with
          | false =>
            have HE := Lib.hid (HNO.out (by cases h : pnB s with | false => rfl | true => exact absurd (HSQ.out h).2.1 (by decide)))
            have hz := HZB.out rfl
            subst hz
            have CM := fun u => spec_make n 0 u (by omega) (by omega)
            go_wp2_with (first
              | ((with_reducible refine (CA _).mono ?_); rintro e u ⟨rfl, hb⟩; first | (replace hO := hO.step hb; clear hb) | subst hb)
              | ((with_reducible refine (CB _).mono ?_); rintro e u ⟨rfl, hb⟩; first | (replace hO := hO.step hb; clear hb) | subst hb)
              | ((with_reducible refine (CM _).mono ?_); rintro e u ⟨rfl, hb⟩; first | (replace hO := hO.step hb; clear hb) | subst hb)
              | ((with_reducible refine wpl_alloc ?_); refine wpList_alloc_own rfl (by rfl) hO rfl (fun b => by simp only [Act.put, List.setIfInBounds_toArray, List.set_cons_succ, List.set_cons_zero]; rfl) ?_; (first | (refine nm 0 rfl ?_; clear hO; intro b0 u hO) | (refine nm 1 rfl ?_; clear hO; intro b1 u hO)); simp only [List.nil_append, List.cons_append] at hO)
              | ((with_reducible refine wpl_box ?_); refine wpList_box_own rfl (by rfl) hO rfl rfl (fun b => by simp only [Act.put, List.setIfInBounds_toArray, List.set_cons_succ, List.set_cons_zero]; rfl) ?_; (first | (refine nm 0 rfl ?_; clear hO; intro b0 u hO) | (refine nm 1 rfl ?_; clear hO; intro b1 u hO)); simp only [List.nil_append, List.cons_append] at hO)
              | ((with_reducible refine wpl_load ?_); first | (refine wpList_load_box rfl (by first | rfl | (simp only [Region.wanted, yielded, *]; go_simp; done) | (simp [Region.wanted, yielded, *]; done) | fail) hO rfl _ (by first | exact at0 | exact at1) (by rfl) (by simp only [Act.put, List.setIfInBounds_toArray, List.set_cons_succ, List.set_cons_zero]; rfl) ?_) | (refine wpList_load_field rfl (by first | rfl | (simp only [Region.wanted, yielded, *]; go_simp; done) | (simp [Region.wanted, yielded, *]; done) | fail) hO rfl _ (by first | exact at0 | exact at1) (by rfl) (by simp only [Act.put, List.setIfInBounds_toArray, List.set_cons_succ, List.set_cons_zero]; rfl) ?_))
              | ((with_reducible refine wpl_store ?_); first | (refine wpList_store_box rfl (by rfl) hO rfl _ (by first | exact at0 | exact at1) rfl (by rfl) (by rfl) (by rfl) (by rfl) (by rfl) ?_; clear hO; intro u hO; simp only [List.set_cons_zero, List.set_cons_succ] at hO) | (refine wpList_store_field rfl (by rfl) hO rfl _ (by first | exact at0 | exact at1) (Nat.le_of_ble_eq_true rfl) (by simp only [Act.eval, Array.getD_eq_getD_getElem?, List.getElem?_toArray, List.getElem?_cons_succ, List.getElem?_cons_zero, Option.getD_some]; rfl) (by rfl) (by rfl) (by rfl) ?_; clear hO; intro u hO; simp only [List.set_cons_zero, List.set_cons_succ] at hO))
              | fail)
            exact ret_box2B rfl hO rfl 0 at0 rfl rfl rfl ⟨ret_pn (p := (0, 0)) HE.out, hO.below⟩
          | true =>
          have b2 := HBB.out rfl
          have CM := fun u => spec_make n d u (by omega) (by omega)
          have b3 := mk_bdB n d
          obtain ⟨m, hm⟩ : ∃ m, Nm.mk n d = m := ⟨_, rfl⟩
          have HSP' := Lib.hid (HSP.out rfl rfl)
          have HSQ' := Lib.hid (fun h => (HSQ.out h).2.2)
          rw [hm] at CM b3 HSP' HSQ'
          clear hm HSP HSQ
          obtain ⟨m1, m2⟩ := m
          have CF := fun u => spec_fmtN m1 m2 ⟨#[]⟩ u (by omega) (by omega) (by omega) (by omega)
          obtain ⟨f, hf⟩ : ∃ f, fmtN m1 m2 ⟨#[]⟩ = f := ⟨_, rfl⟩
          rw [hf] at CF HSP'
          clear b3
          by_cases hfs : f.toList = s.toList
          · obtain ⟨e1, e2⟩ := HSP'.out hfs
            have HE := Lib.hid (HYES.out e1)
            rw [← e2] at HE
            have q5 : (!f.toList == s.toList) = false := by simp [hfs]
            clear hfs e1 e2 hf
            go_wp2_with (first
              | ((with_reducible refine (CA _).mono ?_); rintro e u ⟨rfl, hb⟩; first | (replace hO := hO.step hb; clear hb) | subst hb)
              | ((with_reducible refine (CB _).mono ?_); rintro e u ⟨rfl, hb⟩; first | (replace hO := hO.step hb; clear hb) | subst hb)
              | ((with_reducible refine (CM _).mono ?_); rintro e u ⟨rfl, hb⟩; first | (replace hO := hO.step hb; clear hb) | subst hb)
              | ((with_reducible refine (CF _).mono ?_); rintro e u ⟨rfl, hb⟩; first | (replace hO := hO.step hb; clear hb) | subst hb)
              | ((with_reducible refine wpl_alloc ?_); refine wpList_alloc_own rfl (by rfl) hO rfl (fun b => by simp only [Act.put, List.setIfInBounds_toArray, List.set_cons_succ, List.set_cons_zero]; rfl) ?_; (first | (refine nm 0 rfl ?_; clear hO; intro b0 u hO) | (refine nm 1 rfl ?_; clear hO; intro b1 u hO)); simp only [List.nil_append, List.cons_append] at hO)
              | ((with_reducible refine wpl_box ?_); refine wpList_box_own rfl (by rfl) hO rfl rfl (fun b => by simp only [Act.put, List.setIfInBounds_toArray, List.set_cons_succ, List.set_cons_zero]; rfl) ?_; (first | (refine nm 0 rfl ?_; clear hO; intro b0 u hO) | (refine nm 1 rfl ?_; clear hO; intro b1 u hO)); simp only [List.nil_append, List.cons_append] at hO)
              | ((with_reducible refine wpl_load ?_); first | (refine wpList_load_box rfl (by first | rfl | (simp only [Region.wanted, yielded, *]; go_simp; done) | (simp [Region.wanted, yielded, *]; done) | fail) hO rfl _ (by first | exact at0 | exact at1) (by rfl) (by simp only [Act.put, List.setIfInBounds_toArray, List.set_cons_succ, List.set_cons_zero]; rfl) ?_) | (refine wpList_load_field rfl (by first | rfl | (simp only [Region.wanted, yielded, *]; go_simp; done) | (simp [Region.wanted, yielded, *]; done) | fail) hO rfl _ (by first | exact at0 | exact at1) (by rfl) (by simp only [Act.put, List.setIfInBounds_toArray, List.set_cons_succ, List.set_cons_zero]; rfl) ?_))
              | ((with_reducible refine wpl_store ?_); first | (refine wpList_store_box rfl (by rfl) hO rfl _ (by first | exact at0 | exact at1) rfl (by rfl) (by rfl) (by rfl) (by rfl) (by rfl) ?_; clear hO; intro u hO; simp only [List.set_cons_zero, List.set_cons_succ] at hO) | (refine wpList_store_field rfl (by rfl) hO rfl _ (by first | exact at0 | exact at1) (Nat.le_of_ble_eq_true rfl) (by simp only [Act.eval, Array.getD_eq_getD_getElem?, List.getElem?_toArray, List.getElem?_cons_succ, List.getElem?_cons_zero, Option.getD_some]; rfl) (by rfl) (by rfl) (by rfl) ?_; clear hO; intro u hO; simp only [List.set_cons_zero, List.set_cons_succ] at hO))
              | fail)
            exact ret_box2B rfl hO rfl 0 at0 rfl rfl rfl ⟨ret_pn (p := (m1, m2)) HE.out, hO.below⟩
          · have HE := Lib.hid (HNO.out (by
              cases h : pnB s with
              | false => rfl
              | true =>
                exfalso
                obtain ⟨e1, e2⟩ := HSQ'.out h
                apply hfs
                rw [← hf]
                simp only [Prod.mk.injEq] at e1
                rw [e1.1, e1.2]
                exact e2))
            have q5 : (!f.toList == s.toList) = true := by simp [hfs]
            clear hfs hf
            go_wp2_with (first
              | ((with_reducible refine (CA _).mono ?_); rintro e u ⟨rfl, hb⟩; first | (replace hO := hO.step hb; clear hb) | subst hb)
              | ((with_reducible refine (CB _).mono ?_); rintro e u ⟨rfl, hb⟩; first | (replace hO := hO.step hb; clear hb) | subst hb)
              | ((with_reducible refine (CM _).mono ?_); rintro e u ⟨rfl, hb⟩; first | (replace hO := hO.step hb; clear hb) | subst hb)
              | ((with_reducible refine (CF _).mono ?_); rintro e u ⟨rfl, hb⟩; first | (replace hO := hO.step hb; clear hb) | subst hb)
              | ((with_reducible refine wpl_alloc ?_); refine wpList_alloc_own rfl (by rfl) hO rfl (fun b => by simp only [Act.put, List.setIfInBounds_toArray, List.set_cons_succ, List.set_cons_zero]; rfl) ?_; (first | (refine nm 0 rfl ?_; clear hO; intro b0 u hO) | (refine nm 1 rfl ?_; clear hO; intro b1 u hO)); simp only [List.nil_append, List.cons_append] at hO)
              | ((with_reducible refine wpl_box ?_); refine wpList_box_own rfl (by rfl) hO rfl rfl (fun b => by simp only [Act.put, List.setIfInBounds_toArray, List.set_cons_succ, List.set_cons_zero]; rfl) ?_; (first | (refine nm 0 rfl ?_; clear hO; intro b0 u hO) | (refine nm 1 rfl ?_; clear hO; intro b1 u hO)); simp only [List.nil_append, List.cons_append] at hO)
              | ((with_reducible refine wpl_load ?_); first | (refine wpList_load_box rfl (by first | rfl | (simp only [Region.wanted, yielded, *]; go_simp; done) | (simp [Region.wanted, yielded, *]; done) | fail) hO rfl _ (by first | exact at0 | exact at1) (by rfl) (by simp only [Act.put, List.setIfInBounds_toArray, List.set_cons_succ, List.set_cons_zero]; rfl) ?_) | (refine wpList_load_field rfl (by first | rfl | (simp only [Region.wanted, yielded, *]; go_simp; done) | (simp [Region.wanted, yielded, *]; done) | fail) hO rfl _ (by first | exact at0 | exact at1) (by rfl) (by simp only [Act.put, List.setIfInBounds_toArray, List.set_cons_succ, List.set_cons_zero]; rfl) ?_))
              | ((with_reducible refine wpl_store ?_); first | (refine wpList_store_box rfl (by rfl) hO rfl _ (by first | exact at0 | exact at1) rfl (by rfl) (by rfl) (by rfl) (by rfl) (by rfl) ?_; clear hO; intro u hO; simp only [List.set_cons_zero, List.set_cons_succ] at hO) | (refine wpList_store_field rfl (by rfl) hO rfl _ (by first | exact at0 | exact at1) (Nat.le_of_ble_eq_true rfl) (by simp only [Act.eval, Array.getD_eq_getD_getElem?, List.getElem?_toArray, List.getElem?_cons_succ, List.getElem?_cons_zero, Option.getD_some]; rfl) (by rfl) (by rfl) (by rfl) ?_; clear hO; intro u hO; simp only [List.set_cons_zero, List.set_cons_succ] at hO))
              | fail)
            exact ret_box2B rfl hO rfl 0 at0 rfl rfl rfl ⟨ret_pn (p := (0, 0)) HE.out, hO.below⟩
        · have HI2 := Lib.hid (sl_on h1 (by rw [hcc]; exact hc) HI.out)
          have q3 : ((cc.toNat : Int) != 47) = true := by
            have : cc.toNat ≠ 47 := fun e => hc (UInt8.toNat_inj.1 e)
            simp; omega
          clear hc HI
          go_wp2_with (first
            | ((with_reducible refine wpl_alloc ?_); refine wpList_alloc_own rfl (by rfl) hO rfl (fun b => by simp only [Act.put, List.setIfInBounds_toArray, List.set_cons_succ, List.set_cons_zero]; rfl) ?_; (first | (refine nm 0 rfl ?_; clear hO; intro b0 u hO) | (refine nm 1 rfl ?_; clear hO; intro b1 u hO)); simp only [List.nil_append, List.cons_append] at hO)
            | ((with_reducible refine wpl_box ?_); refine wpList_box_own rfl (by rfl) hO rfl rfl (fun b => by simp only [Act.put, List.setIfInBounds_toArray, List.set_cons_succ, List.set_cons_zero]; rfl) ?_; (first | (refine nm 0 rfl ?_; clear hO; intro b0 u hO) | (refine nm 1 rfl ?_; clear hO; intro b1 u hO)); simp only [List.nil_append, List.cons_append] at hO)
            | ((with_reducible refine wpl_load ?_); first | (refine wpList_load_box rfl (by first | rfl | (simp only [Region.wanted, yielded, *]; go_simp; done) | (simp [Region.wanted, yielded, *]; done) | fail) hO rfl _ (by first | exact at0 | exact at1) (by rfl) (by simp only [Act.put, List.setIfInBounds_toArray, List.set_cons_succ, List.set_cons_zero]; rfl) ?_) | (refine wpList_load_field rfl (by first | rfl | (simp only [Region.wanted, yielded, *]; go_simp; done) | (simp [Region.wanted, yielded, *]; done) | fail) hO rfl _ (by first | exact at0 | exact at1) (by rfl) (by simp only [Act.put, List.setIfInBounds_toArray, List.set_cons_succ, List.set_cons_zero]; rfl) ?_))
            | ((with_reducible refine wpl_store ?_); first | (refine wpList_store_box rfl (by rfl) hO rfl _ (by first | exact at0 | exact at1) rfl (by rfl) (by rfl) (by rfl) (by rfl) (by rfl) ?_; clear hO; intro u hO; simp only [List.set_cons_zero, List.set_cons_succ] at hO) | (refine wpList_store_field rfl (by rfl) hO rfl _ (by first | exact at0 | exact at1) (Nat.le_of_ble_eq_true rfl) (by simp only [Act.eval, Array.getD_eq_getD_getElem?, List.getElem?_toArray, List.getElem?_cons_succ, List.getElem?_cons_zero, Option.getD_some]; rfl) (by rfl) (by rfl) (by rfl) ?_; clear hO; intro u hO; simp only [List.set_cons_zero, List.set_cons_succ] at hO))
            | fail)
          go_roundw
          case rel => exact ⟨i + 1, by go_num, by omega, HI2, hO⟩
          case measure => simp [intOf]; omega
      · have HS := Lib.hid (sl_out h1 HI.out)
        have E1 : Hid (numS s = s.extract 0 i) := Lib.hid (by unfold numS; have := HS.out; have := sl_le s; congr 1; omega)
        have q1 : ¬ (i : Int) < s.size := by omega
        obtain ⟨_, hp2, hd⟩ := HDN.out (by rw [HS.out]; omega)
        subst hp2 hd
        rw [E1.out] at CA
        clear HDN CB
        cases p1 with
        | false =>
          have HE := Lib.hid (HNO.out (by cases h : pnB s with | false => rfl | true => exact absurd (HSQ.out h).1 (by decide)))
          have hz := HZA.out rfl
          subst hz
          have CM := fun u => spec_make 0 1 u (by omega) (by omega)
          go_wp2_with (first
            | ((with_reducible refine (CA _).mono ?_); rintro e u ⟨rfl, hb⟩; first | (replace hO := hO.step hb; clear hb) | subst hb)
            | ((with_reducible refine (CM _).mono ?_); rintro e u ⟨rfl, hb⟩; first | (replace hO := hO.step hb; clear hb) | subst hb)
            | ((with_reducible refine wpl_alloc ?_); refine wpList_alloc_own rfl (by rfl) hO rfl (fun b => by simp only [Act.put, List.setIfInBounds_toArray, List.set_cons_succ, List.set_cons_zero]; rfl) ?_; (first | (refine nm 0 rfl ?_; clear hO; intro b0 u hO) | (refine nm 1 rfl ?_; clear hO; intro b1 u hO)); simp only [List.nil_append, List.cons_append] at hO)
            | ((with_reducible refine wpl_box ?_); refine wpList_box_own rfl (by rfl) hO rfl rfl (fun b => by simp only [Act.put, List.setIfInBounds_toArray, List.set_cons_succ, List.set_cons_zero]; rfl) ?_; (first | (refine nm 0 rfl ?_; clear hO; intro b0 u hO) | (refine nm 1 rfl ?_; clear hO; intro b1 u hO)); simp only [List.nil_append, List.cons_append] at hO)
            | ((with_reducible refine wpl_load ?_); first | (refine wpList_load_box rfl (by first | rfl | (simp only [Region.wanted, yielded, *]; go_simp; done) | (simp [Region.wanted, yielded, *]; done) | fail) hO rfl _ (by first | exact at0 | exact at1) (by rfl) (by simp only [Act.put, List.setIfInBounds_toArray, List.set_cons_succ, List.set_cons_zero]; rfl) ?_) | (refine wpList_load_field rfl (by first | rfl | (simp only [Region.wanted, yielded, *]; go_simp; done) | (simp [Region.wanted, yielded, *]; done) | fail) hO rfl _ (by first | exact at0 | exact at1) (by rfl) (by simp only [Act.put, List.setIfInBounds_toArray, List.set_cons_succ, List.set_cons_zero]; rfl) ?_))
            | ((with_reducible refine wpl_store ?_); first | (refine wpList_store_box rfl (by rfl) hO rfl _ (by first | exact at0 | exact at1) rfl (by rfl) (by rfl) (by rfl) (by rfl) (by rfl) ?_; clear hO; intro u hO; simp only [List.set_cons_zero, List.set_cons_succ] at hO) | (refine wpList_store_field rfl (by rfl) hO rfl _ (by first | exact at0 | exact at1) (Nat.le_of_ble_eq_true rfl) (by simp only [Act.eval, Array.getD_eq_getD_getElem?, List.getElem?_toArray, List.getElem?_cons_succ, List.getElem?_cons_zero, Option.getD_some]; rfl) (by rfl) (by rfl) (by rfl) ?_; clear hO; intro u hO; simp only [List.set_cons_zero, List.set_cons_succ] at hO))
            | fail)
          exact ret_box2B rfl hO rfl 0 at0 rfl rfl rfl ⟨ret_pn (p := (0, 0)) HE.out, hO.below⟩
        | true =>
        have b1 := HBA.out rfl
        have CM := fun u => spec_make n 1 u (by omega) (by omega)
        have b3 := mk_bdB n 1
        obtain ⟨m, hm⟩ : ∃ m, Nm.mk n 1 = m := ⟨_, rfl⟩
        have HSP' := Lib.hid (HSP.out rfl rfl)
        have HSQ' := Lib.hid (fun h => (HSQ.out h).2.2)
        rw [hm] at CM b3 HSP' HSQ'
        clear hm HSP HSQ
        obtain ⟨m1, m2⟩ := m
        have CF := fun u => spec_fmtN m1 m2 ⟨#[]⟩ u (by omega) (by omega) (by omega) (by omega)
        obtain ⟨f, hf⟩ : ∃ f, fmtN m1 m2 ⟨#[]⟩ = f := ⟨_, rfl⟩
        rw [hf] at CF HSP'
        clear b3
        by_cases hfs : f.toList = s.toList
        · obtain ⟨e1, e2⟩ := HSP'.out hfs
          have HE := Lib.hid (HYES.out e1)
          rw [← e2] at HE
          have q5 : (!f.toList == s.toList) = false := by simp [hfs]
          clear hfs e1 e2 hf
          go_wp2_with (first
            | ((with_reducible refine (CA _).mono ?_); rintro e u ⟨rfl, hb⟩; first | (replace hO := hO.step hb; clear hb) | subst hb)
            | ((with_reducible refine (CM _).mono ?_); rintro e u ⟨rfl, hb⟩; first | (replace hO := hO.step hb; clear hb) | subst hb)
            | ((with_reducible refine (CF _).mono ?_); rintro e u ⟨rfl, hb⟩; first | (replace hO := hO.step hb; clear hb) | subst hb)
            | ((with_reducible refine wpl_alloc ?_); refine wpList_alloc_own rfl (by rfl) hO rfl (fun b => by simp only [Act.put, List.setIfInBounds_toArray, List.set_cons_succ, List.set_cons_zero]; rfl) ?_; (first | (refine nm 0 rfl ?_; clear hO; intro b0 u hO) | (refine nm 1 rfl ?_; clear hO; intro b1 u hO)); simp only [List.nil_append, List.cons_append] at hO)
            | ((with_reducible refine wpl_box ?_); refine wpList_box_own rfl (by rfl) hO rfl rfl (fun b => by simp only [Act.put, List.setIfInBounds_toArray, List.set_cons_succ, List.set_cons_zero]; rfl) ?_; (first | (refine nm 0 rfl ?_; clear hO; intro b0 u hO) | (refine nm 1 rfl ?_; clear hO; intro b1 u hO)); simp only [List.nil_append, List.cons_append] at hO)
            | ((with_reducible refine wpl_load ?_); first | (refine wpList_load_box rfl (by first | rfl | (simp only [Region.wanted, yielded, *]; go_simp; done) | (simp [Region.wanted, yielded, *]; done) | fail) hO rfl _ (by first | exact at0 | exact at1) (by rfl) (by simp only [Act.put, List.setIfInBounds_toArray, List.set_cons_succ, List.set_cons_zero]; rfl) ?_) | (refine wpList_load_field rfl (by first | rfl | (simp only [Region.wanted, yielded, *]; go_simp; done) | (simp [Region.wanted, yielded, *]; done) | fail) hO rfl _ (by first | exact at0 | exact at1) (by rfl) (by simp only [Act.put, List.setIfInBounds_toArray, List.set_cons_succ, List.set_cons_zero]; rfl) ?_))
            | ((with_reducible refine wpl_store ?_); first | (refine wpList_store_box rfl (by rfl) hO rfl _ (by first | exact at0 | exact at1) rfl (by rfl) (by rfl) (by rfl) (by rfl) (by rfl) ?_; clear hO; intro u hO; simp only [List.set_cons_zero, List.set_cons_succ] at hO) | (refine wpList_store_field rfl (by rfl) hO rfl _ (by first | exact at0 | exact at1) (Nat.le_of_ble_eq_true rfl) (by simp only [Act.eval, Array.getD_eq_getD_getElem?, List.getElem?_toArray, List.getElem?_cons_succ, List.getElem?_cons_zero, Option.getD_some]; rfl) (by rfl) (by rfl) (by rfl) ?_; clear hO; intro u hO; simp only [List.set_cons_zero, List.set_cons_succ] at hO))
            | fail)
          exact ret_box2B rfl hO rfl 0 at0 rfl rfl rfl ⟨ret_pn (p := (m1, m2)) HE.out, hO.below⟩
        · have HE := Lib.hid (HNO.out (by
            cases h : pnB s with
            | false => rfl
            | true =>
              exfalso
              obtain ⟨e1, e2⟩ := HSQ'.out h
              apply hfs
              rw [← hf]
              simp only [Prod.mk.injEq] at e1
              rw [e1.1, e1.2]
              exact e2))
          have q5 : (!f.toList == s.toList) = true := by simp [hfs]
          clear hfs hf
          go_wp2_with (first
            | ((with_reducible refine (CA _).mono ?_); rintro e u ⟨rfl, hb⟩; first | (replace hO := hO.step hb; clear hb) | subst hb)
            | ((with_reducible refine (CM _).mono ?_); rintro e u ⟨rfl, hb⟩; first | (replace hO := hO.step hb; clear hb) | subst hb)
            | ((with_reducible refine (CF _).mono ?_); rintro e u ⟨rfl, hb⟩; first | (replace hO := hO.step hb; clear hb) | subst hb)
            | ((with_reducible refine wpl_alloc ?_); refine wpList_alloc_own rfl (by rfl) hO rfl (fun b => by simp only [Act.put, List.setIfInBounds_toArray, List.set_cons_succ, List.set_cons_zero]; rfl) ?_; (first | (refine nm 0 rfl ?_; clear hO; intro b0 u hO) | (refine nm 1 rfl ?_; clear hO; intro b1 u hO)); simp only [List.nil_append, List.cons_append] at hO)
            | ((with_reducible refine wpl_box ?_); refine wpList_box_own rfl (by rfl) hO rfl rfl (fun b => by simp only [Act.put, List.setIfInBounds_toArray, List.set_cons_succ, List.set_cons_zero]; rfl) ?_; (first | (refine nm 0 rfl ?_; clear hO; intro b0 u hO) | (refine nm 1 rfl ?_; clear hO; intro b1 u hO)); simp only [List.nil_append, List.cons_append] at hO)
            | ((with_reducible refine wpl_load ?_); first | (refine wpList_load_box rfl (by first | rfl | (simp only [Region.wanted, yielded, *]; go_simp; done) | (simp [Region.wanted, yielded, *]; done) | fail) hO rfl _ (by first | exact at0 | exact at1) (by rfl) (by simp only [Act.put, List.setIfInBounds_toArray, List.set_cons_succ, List.set_cons_zero]; rfl) ?_) | (refine wpList_load_field rfl (by first | rfl | (simp only [Region.wanted, yielded, *]; go_simp; done) | (simp [Region.wanted, yielded, *]; done) | fail) hO rfl _ (by first | exact at0 | exact at1) (by rfl) (by simp only [Act.put, List.setIfInBounds_toArray, List.set_cons_succ, List.set_cons_zero]; rfl) ?_))
            | ((with_reducible refine wpl_store ?_); first | (refine wpList_store_box rfl (by rfl) hO rfl _ (by first | exact at0 | exact at1) rfl (by rfl) (by rfl) (by rfl) (by rfl) (by rfl) ?_; clear hO; intro u hO; simp only [List.set_cons_zero, List.set_cons_succ] at hO) | (refine wpList_store_field rfl (by rfl) hO rfl _ (by first | exact at0 | exact at1) (Nat.le_of_ble_eq_true rfl) (by simp only [Act.eval, Array.getD_eq_getD_getElem?, List.getElem?_toArray, List.getElem?_cons_succ, List.getElem?_cons_zero, Option.getD_some]; rfl) (by rfl) (by rfl) (by rfl) ?_; clear hO; intro u hO; simp only [List.set_cons_zero, List.set_cons_succ] at hO))
            | fail)
          exact ret_box2B rfl hO rfl 0 at0 rfl rfl rfl ⟨ret_pn (p := (0, 0)) HE.out, hO.below⟩

end Go.Proofs.Ytncmekbfmgcbnaa
