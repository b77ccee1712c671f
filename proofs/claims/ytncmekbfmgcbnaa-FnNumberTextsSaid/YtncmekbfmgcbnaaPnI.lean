/-
  What is proved: what the program's ParseNumber returns.
  Condition: strings of at most 1048576 bytes.
-/
import Derived.Test.YtncmekbfmgcbnaaPnP
import Derived.Test.YtncmekbfmgcbnaaDn
namespace Go.Proofs.Ytncmekbfmgcbnaa
open Go.RowKit Go.ChangeShapes Go.WideShapes Go.Deep
set_option linter.unusedVariables false
set_option linter.unusedSimpArgs false

/-- the end: a struct variable and one more value are handed back -/
theorem ret_box2B {P : Program} {w0 w : World} {L : List Res} {a : Act} {fn : Func} {R : Ending → World → Prop} {p q : Tmp} {ty : TypeId} (hres : fn.results = #[.cell p ty, .tmp q]) (hO : Own w0 L w) {b : Nat} (hp : a.tmps.getD p undef = .pointer (some ⟨b, 0, none⟩))
    (k : Nat) {t : TypeId} {cs : List Value} (hk : L[k]? = some (box b t cs)) {n : Nat} [hT : AggT P ty n] (hn : cs.length = n) (hd : a.defers = []) {v : Value} (hv : a.tmps.getD q undef = v) (hR : R (.returned (.tuple #[.agg cs.toArray, v])) w) : bodyPost P fn R .ret a w := by
  obtain ⟨d, h1, h2, h3⟩ := hT.of
  subst hn
  subst hv
  refine ⟨hd, _, ?_, hR⟩
  have hl := run_loadVar_mid (P := P) w b 0 ty cs d (hO.range k hk) h1 h2 h3
  have hp' : a.tmps[p]?.getD undef = .pointer (some ⟨b, 0, none⟩) := by rw [← Array.getD_eq_getD_getElem?]; exact hp
  simp [results, hres, hp', asAddr, hl]

def RetPn (s : ByteArray) (w : World) (e : Ending) (w' : World) : Prop := e = .returned (.tuple #[.agg #[.int .i64 (pnA s).1, .int .i64 (pnA s).2, .string ⟨#[]⟩], .bool (pnO s)]) ∧ Below w.heap.size w w'
theorem ret_pn {s : ByteArray} {p : Int × Int} {b : Bool} (h : pnO s = b ∧ pnA s = p) : Ending.returned (.tuple #[.agg #[.int .i64 p.1, .int .i64 p.2, .string ⟨#[]⟩], .bool b]) = .returned (.tuple #[.agg #[.int .i64 (pnA s).1, .int .i64 (pnA s).2, .string ⟨#[]⟩], .bool (pnO s)]) := by rw [h.1, h.2]



set_option maxRecDepth 20000 in
set_option maxHeartbeats 4000000 in
theorem impl_pn (s : ByteArray) (w : World) (hs : s.size ≤ 1048576) : Calls Try.prog 56 #[.string s] w (RetPn s w) := by
  by_cases hna : s.toList = [78, 65]
  · have HE := Lib.hid (pn_na hna)
    have q0 : (s.toList == [78, 65]) = true := by simp [hna]
    clear hna
    go_enter Try.func56, Try.ntmps56
    have hO := Own.nil w
    go_wp2_with (first
      | ((with_reducible refine wpl_alloc ?_); refine wpList_alloc_own rfl (by rfl) hO rfl (fun b => by simp only [Act.put, List.setIfInBounds_toArray, List.set_cons_succ, List.set_cons_zero]; rfl) ?_; (first | (refine nm 0 rfl ?_; clear hO; intro b0 u hO) | (refine nm 1 rfl ?_; clear hO; intro b1 u hO)); simp only [List.nil_append, List.cons_append] at hO)
      | ((with_reducible refine wpl_box ?_); refine wpList_box_own rfl (by rfl) hO rfl rfl (fun b => by simp only [Act.put, List.setIfInBounds_toArray, List.set_cons_succ, List.set_cons_zero]; rfl) ?_; (first | (refine nm 0 rfl ?_; clear hO; intro b0 u hO) | (refine nm 1 rfl ?_; clear hO; intro b1 u hO)); simp only [List.nil_append, List.cons_append] at hO)
      | ((with_reducible refine wpl_load ?_); first | (refine wpList_load_box rfl (by first | rfl | (simp only [Region.wanted, yielded, *]; go_simp; done) | (simp [Region.wanted, yielded, *]; done) | fail) hO rfl _ (by first | exact at0 | exact at1) (by rfl) (by simp only [Act.put, List.setIfInBounds_toArray, List.set_cons_succ, List.set_cons_zero]; rfl) ?_) | (refine wpList_load_field rfl (by first | rfl | (simp only [Region.wanted, yielded, *]; go_simp; done) | (simp [Region.wanted, yielded, *]; done) | fail) hO rfl _ (by first | exact at0 | exact at1) (by rfl) (by simp only [Act.put, List.setIfInBounds_toArray, List.set_cons_succ, List.set_cons_zero]; rfl) ?_))
      | ((with_reducible refine wpl_store ?_); first | (refine wpList_store_box rfl (by rfl) hO rfl _ (by first | exact at0 | exact at1) rfl (by rfl) (by rfl) (by rfl) (by rfl) (by rfl) ?_; clear hO; intro u hO; simp only [List.set_cons_zero, List.set_cons_succ] at hO) | (refine wpList_store_field rfl (by rfl) hO rfl _ (by first | exact at0 | exact at1) (Nat.le_of_ble_eq_true rfl) (by simp only [Act.eval, Array.getD_eq_getD_getElem?, List.getElem?_toArray, List.getElem?_cons_succ, List.getElem?_cons_zero, Option.getD_some]; rfl) (by rfl) (by rfl) (by rfl) ?_; clear hO; intro u hO; simp only [List.set_cons_zero, List.set_cons_succ] at hO))
      | fail)
    exact ret_box2B rfl hO rfl 0 at0 rfl rfl rfl ⟨ret_pn (p := (0, 0)) HE.out, hO.below⟩
  · have q0 : (s.toList == [78, 65]) = false := by simp [hna]
    have HNO := Lib.hid (fun h => pn_no (s := s) hna h)
    have HYES := Lib.hid (fun h => pn_yes (s := s) hna h)
    have HB : Hid (pnB s = (parseB (numL s) && parseB (denL s) && Nm.isNum (parseN (numL s)) (parseN (denL s)) && ((fmtN (parseN (numL s)) (parseN (denL s)) ⟨#[]⟩).toList == s.toList))) := Lib.hid rfl
    have CA : ∀ u, Calls Try.prog 68 #[.string (numS s)] u fun e w' => e = .returned (.tuple #[.int .i64 (parseN (numL s)), .bool (parseB (numL s))]) ∧ Below u.heap.size u w' := fun u => impl_parse _ u (by unfold numS; simp; unfold maxLen; omega)
    have CB : ∀ u, Calls Try.prog 68 #[.string (denS s)] u fun e w' => e = .returned (.tuple #[.int .i64 (parseN (denL s)), .bool (parseB (denL s))]) ∧ Below u.heap.size u w' := fun u => impl_parse _ u (by
      unfold denS
      split
      · simp; unfold maxLen; omega
      · decide)
    have HBA := Lib.hid (parseN_bd (l := numL s))
    have HBB := Lib.hid (parseN_bd (l := denL s))
    obtain ⟨n, hn⟩ : ∃ n, parseN (numL s) = n := ⟨_, rfl⟩
    obtain ⟨d, hd⟩ : ∃ n, parseN (denL s) = n := ⟨_, rfl⟩
    obtain ⟨p1, hp1⟩ : ∃ n, parseB (numL s) = n := ⟨_, rfl⟩
    obtain ⟨p2, hp2⟩ : ∃ n, parseB (denL s) = n := ⟨_, rfl⟩
    rw [hn] at HYES HB CA HBA
    rw [hd] at HYES HB CB HBB
    rw [hp1] at HB CA HBA
    rw [hp2] at HB CB HBB
    clear hn hd hp1 hp2 hna
    have CN := fun u => impl_isnum n d ⟨#[]⟩ u
    obtain ⟨nb, hnb⟩ : ∃ b, isNumT n d ⟨#[]⟩ = b := ⟨_, rfl⟩
    have HNB := Lib.hid hnb
    rw [hnb] at CN
    rw [← isNumT_nil, hnb] at HB
    clear hnb
    go_enter Try.func56, Try.ntmps56
    have hO := Own.nil w
    go_wp2_with (first
      | ((with_reducible refine wpl_alloc ?_); refine wpList_alloc_own rfl (by rfl) hO rfl (fun b => by simp only [Act.put, List.setIfInBounds_toArray, List.set_cons_succ, List.set_cons_zero]; rfl) ?_; (first | (refine nm 0 rfl ?_; clear hO; intro b0 u hO) | (refine nm 1 rfl ?_; clear hO; intro b1 u hO)); simp only [List.nil_append, List.cons_append] at hO)
      | ((with_reducible refine wpl_box ?_); refine wpList_box_own rfl (by rfl) hO rfl rfl (fun b => by simp only [Act.put, List.setIfInBounds_toArray, List.set_cons_succ, List.set_cons_zero]; rfl) ?_; (first | (refine nm 0 rfl ?_; clear hO; intro b0 u hO) | (refine nm 1 rfl ?_; clear hO; intro b1 u hO)); simp only [List.nil_append, List.cons_append] at hO)
      | ((with_reducible refine wpl_load ?_); first | (refine wpList_load_box rfl (by first | rfl | (simp only [Region.wanted, yielded, *]; go_simp; done) | (simp [Region.wanted, yielded, *]; done) | fail) hO rfl _ (by first | exact at0 | exact at1) (by rfl) (by simp only [Act.put, List.setIfInBounds_toArray, List.set_cons_succ, List.set_cons_zero]; rfl) ?_) | (refine wpList_load_field rfl (by first | rfl | (simp only [Region.wanted, yielded, *]; go_simp; done) | (simp [Region.wanted, yielded, *]; done) | fail) hO rfl _ (by first | exact at0 | exact at1) (by rfl) (by simp only [Act.put, List.setIfInBounds_toArray, List.set_cons_succ, List.set_cons_zero]; rfl) ?_))
      | ((with_reducible refine wpl_store ?_); first | (refine wpList_store_box rfl (by rfl) hO rfl _ (by first | exact at0 | exact at1) rfl (by rfl) (by rfl) (by rfl) (by rfl) (by rfl) ?_; clear hO; intro u hO; simp only [List.set_cons_zero, List.set_cons_succ] at hO) | (refine wpList_store_field rfl (by rfl) hO rfl _ (by first | exact at0 | exact at1) (Nat.le_of_ble_eq_true rfl) (by simp only [Act.eval, Array.getD_eq_getD_getElem?, List.getElem?_toArray, List.getElem?_cons_succ, List.getElem?_cons_zero, Option.getD_some]; rfl) (by rfl) (by rfl) (by rfl) ?_; clear hO; intro u hO; simp only [List.set_cons_zero, List.set_cons_succ] at hO))
      | fail)
    go_loopw [4, 5, 6] (fun a b x u => ∃ i : Nat, a = .string s ∧ b = .string ⟨#[49]⟩ ∧ x = .int .i64 i ∧ i ≤ s.size ∧ Hid (i ≤ sl s) ∧ Own w [box b0 25 [.int .i64 0, .int .i64 0, .string ⟨#[]⟩]] u) (fun _ _ x _ => s.size - (intOf x).toNat)
    case atStart => exact ⟨0, rfl, rfl, rfl, by omega, Lib.hid (Nat.zero_le _), hO⟩
    case round =>
      clear hO
      obtain ⟨i, rfl, rfl, rfl, hi, HI, hO⟩ := hrel
      by_cases h1 : i < s.size
      · obtain ⟨cc, hcc⟩ : ∃ c, s[i] = c := ⟨_, rfl⟩
        by_cases hc : cc = 47
        · have HS := Lib.hid (sl_hit h1 (by rw [hcc]; exact hc) HI.out)
          have q3 : ((cc.toNat : Int) == 47) = true := by rw [hc]; rfl
          have E1 : Hid (s.extract 0 i = numS s) := Lib.hid (by unfold numS; rw [HS.out])
          have E2 : Hid (s.extract (i + 1) s.size = denS s) := Lib.hid (by unfold denS; rw [HS.out, if_pos h1])
          clear hc
          go_wp2_with (first
            | ((with_reducible refine wpl_alloc ?_); refine wpList_alloc_own rfl (by rfl) hO rfl (fun b => by simp only [Act.put, List.setIfInBounds_toArray, List.set_cons_succ, List.set_cons_zero]; rfl) ?_; (first | (refine nm 0 rfl ?_; clear hO; intro b0 u hO) | (refine nm 1 rfl ?_; clear hO; intro b1 u hO)); simp only [List.nil_append, List.cons_append] at hO)
            | ((with_reducible refine wpl_box ?_); refine wpList_box_own rfl (by rfl) hO rfl rfl (fun b => by simp only [Act.put, List.setIfInBounds_toArray, List.set_cons_succ, List.set_cons_zero]; rfl) ?_; (first | (refine nm 0 rfl ?_; clear hO; intro b0 u hO) | (refine nm 1 rfl ?_; clear hO; intro b1 u hO)); simp only [List.nil_append, List.cons_append] at hO)
            | ((with_reducible refine wpl_load ?_); first | (refine wpList_load_box rfl (by first | rfl | (simp only [Region.wanted, yielded, *]; go_simp; done) | (simp [Region.wanted, yielded, *]; done) | fail) hO rfl _ (by first | exact at0 | exact at1) (by rfl) (by simp only [Act.put, List.setIfInBounds_toArray, List.set_cons_succ, List.set_cons_zero]; rfl) ?_) | (refine wpList_load_field rfl (by first | rfl | (simp only [Region.wanted, yielded, *]; go_simp; done) | (simp [Region.wanted, yielded, *]; done) | fail) hO rfl _ (by first | exact at0 | exact at1) (by rfl) (by simp only [Act.put, List.setIfInBounds_toArray, List.set_cons_succ, List.set_cons_zero]; rfl) ?_))
            | ((with_reducible refine wpl_store ?_); first | (refine wpList_store_box rfl (by rfl) hO rfl _ (by first | exact at0 | exact at1) rfl (by rfl) (by rfl) (by rfl) (by rfl) (by rfl) ?_; clear hO; intro u hO; simp only [List.set_cons_zero, List.set_cons_succ] at hO) | (refine wpList_store_field rfl (by rfl) hO rfl _ (by first | exact at0 | exact at1) (Nat.le_of_ble_eq_true rfl) (by simp only [Act.eval, Array.getD_eq_getD_getElem?, List.getElem?_toArray, List.getElem?_cons_succ, List.getElem?_cons_zero, Option.getD_some]; rfl) (by rfl) (by rfl) (by rfl) ?_; clear hO; intro u hO; simp only [List.set_cons_zero, List.set_cons_succ] at hO))
            | fail)
          refine J.wp_region_c (n := 65) [0, 1, 2, 3, 4, 5, 6, 7, 8] [] (deps := fun i => [[], [], [0, 1], [], [], [4], [3, 4, 5], [0, 1, 2], [3, 4, 5, 6]].getD i []) (fun _ _ _ => True) (r := 0) (lst := #[true, true, true, true, true, true, true, true, true]) (by kernel_rfl) (by kernel_rfl) (by kernel_rfl) rfl (by decide) (by kernel_rfl) hO ?_
          refine J.Chain.cons (by rfl) (by rfl) (fun M u hO K hK => by (simp only [wp_at_zero, wp_at_succ]; go_step; exact hK _ hO)) (by simp only [J.putL, List.getElem_toArray, List.getElem_cons_succ, List.getElem_cons_zero, J.dstOf, List.getElem?_toArray, List.getElem?_cons_succ, List.getElem?_cons_zero, Option.bind_some, List.getD_cons_succ, List.getD_cons_zero, Act.put, List.setIfInBounds_toArray, List.set_cons_succ, List.set_cons_zero]; rfl) ?_
          refine J.Chain.cons (by rfl) (by rfl) (fun M u hO K hK => by (simp only [wp_at_zero, wp_at_succ]; go_step; exact hK _ hO)) (by simp only [J.putL, List.getElem_toArray, List.getElem_cons_succ, List.getElem_cons_zero, J.dstOf, List.getElem?_toArray, List.getElem?_cons_succ, List.getElem?_cons_zero, Option.bind_some, List.getD_cons_succ, List.getD_cons_zero, Act.put, List.setIfInBounds_toArray, List.set_cons_succ, List.set_cons_zero]; rfl) ?_
          refine J.Chain.cons (by rfl) (by rfl) (fun M u hO K hK => by (simp only [wp_at_zero, wp_at_succ]; go_step; exact hK _ hO)) (by simp only [J.putL, List.getElem_toArray, List.getElem_cons_succ, List.getElem_cons_zero, J.dstOf, List.getElem?_toArray, List.getElem?_cons_succ, List.getElem?_cons_zero, Option.bind_some, List.getD_cons_succ, List.getD_cons_zero, Act.put, List.setIfInBounds_toArray, List.set_cons_succ, List.set_cons_zero]; rfl) ?_
          refine J.Chain.cons (by rfl) (by rfl) (fun M u hO K hK => by (simp only [wp_at_zero, wp_at_succ]; go_step; exact hK _ hO)) (by simp only [J.putL, List.getElem_toArray, List.getElem_cons_succ, List.getElem_cons_zero, J.dstOf, List.getElem?_toArray, List.getElem?_cons_succ, List.getElem?_cons_zero, Option.bind_some, List.getD_cons_succ, List.getD_cons_zero, Act.put, List.setIfInBounds_toArray, List.set_cons_succ, List.set_cons_zero]; rfl) ?_
          refine J.Chain.cons (by rfl) (by rfl) (fun M u hO K hK => by (simp only [wp_at_zero, wp_at_succ]; go_step; exact hK _ hO)) (by simp only [J.putL, List.getElem_toArray, List.getElem_cons_succ, List.getElem_cons_zero, J.dstOf, List.getElem?_toArray, List.getElem?_cons_succ, List.getElem?_cons_zero, Option.bind_some, List.getD_cons_succ, List.getD_cons_zero, Act.put, List.setIfInBounds_toArray, List.set_cons_succ, List.set_cons_zero]; rfl) ?_
          refine J.Chain.cons (by rfl) (by rfl) (fun M u hO K hK => by (simp only [wp_at_zero, wp_at_succ]; go_step; exact hK _ hO)) (by simp only [J.putL, List.getElem_toArray, List.getElem_cons_succ, List.getElem_cons_zero, J.dstOf, List.getElem?_toArray, List.getElem?_cons_succ, List.getElem?_cons_zero, Option.bind_some, List.getD_cons_succ, List.getD_cons_zero, Act.put, List.setIfInBounds_toArray, List.set_cons_succ, List.set_cons_zero]; rfl) ?_
          refine J.Chain.cons (by rfl) (by rfl) (fun M u hO K hK => by (simp only [wp_at_zero, wp_at_succ]; go_step; exact hK _ hO)) (by simp only [J.putL, List.getElem_toArray, List.getElem_cons_succ, List.getElem_cons_zero, J.dstOf, List.getElem?_toArray, List.getElem?_cons_succ, List.getElem?_cons_zero, Option.bind_some, List.getD_cons_succ, List.getD_cons_zero, Act.put, List.setIfInBounds_toArray, List.set_cons_succ, List.set_cons_zero]; rfl) ?_
          refine J.Chain.cons (by rfl) (by rfl) (fun M u hO K hK => by (simp only [wp_at_zero, wp_at_succ]; go_step; exact hK _ hO)) (by simp only [J.putL, List.getElem_toArray, List.getElem_cons_succ, List.getElem_cons_zero, J.dstOf, List.getElem?_toArray, List.getElem?_cons_succ, List.getElem?_cons_zero, Option.bind_some, List.getD_cons_succ, List.getD_cons_zero, Act.put, List.setIfInBounds_toArray, List.set_cons_succ, List.set_cons_zero]; rfl) ?_
          refine J.Chain.cons (by rfl) (by rfl) (fun M u hO K hK => by (simp only [wp_at_zero, wp_at_succ]; go_step; exact hK _ hO)) (by simp only [J.putL, List.getElem_toArray, List.getElem_cons_succ, List.getElem_cons_zero, J.dstOf, List.getElem?_toArray, List.getElem?_cons_succ, List.getElem?_cons_zero, Option.bind_some, List.getD_cons_succ, List.getD_cons_zero, Act.put, List.setIfInBounds_toArray, List.set_cons_succ, List.set_cons_zero]; rfl) ?_
          refine J.Chain.nil ⟨?_, ?_⟩
          · exact J.Each.nil
          intro vs u hO hF
          clear hF
          simp only [List.flatMap_cons, List.flatMap_nil, List.append_nil, List.nil_append, List.cons_append] at hO
          simp only [J.putL]
          clear vs
          refine wpAny_done (by kernel_rfl) ?_ _
          go_wp2_with (first
            | ((with_reducible refine wpl_alloc ?_); refine wpList_alloc_own rfl (by rfl) hO rfl (fun b => by simp only [Act.put, List.setIfInBounds_toArray, List.set_cons_succ, List.set_cons_zero]; rfl) ?_; (first | (refine nm 0 rfl ?_; clear hO; intro b0 u hO) | (refine nm 1 rfl ?_; clear hO; intro b1 u hO)); simp only [List.nil_append, List.cons_append] at hO)
            | ((with_reducible refine wpl_box ?_); refine wpList_box_own rfl (by rfl) hO rfl rfl (fun b => by simp only [Act.put, List.setIfInBounds_toArray, List.set_cons_succ, List.set_cons_zero]; rfl) ?_; (first | (refine nm 0 rfl ?_; clear hO; intro b0 u hO) | (refine nm 1 rfl ?_; clear hO; intro b1 u hO)); simp only [List.nil_append, List.cons_append] at hO)
            | ((with_reducible refine wpl_load ?_); first | (refine wpList_load_box rfl (by first | rfl | (simp only [Region.wanted, yielded, *]; go_simp; done) | (simp [Region.wanted, yielded, *]; done) | fail) hO rfl _ (by first | exact at0 | exact at1) (by rfl) (by simp only [Act.put, List.setIfInBounds_toArray, List.set_cons_succ, List.set_cons_zero]; rfl) ?_) | (refine wpList_load_field rfl (by first | rfl | (simp only [Region.wanted, yielded, *]; go_simp; done) | (simp [Region.wanted, yielded, *]; done) | fail) hO rfl _ (by first | exact at0 | exact at1) (by rfl) (by simp only [Act.put, List.setIfInBounds_toArray, List.set_cons_succ, List.set_cons_zero]; rfl) ?_))
            | ((with_reducible refine wpl_store ?_); first | (refine wpList_store_box rfl (by rfl) hO rfl _ (by first | exact at0 | exact at1) rfl (by rfl) (by rfl) (by rfl) (by rfl) (by rfl) ?_; clear hO; intro u hO; simp only [List.set_cons_zero, List.set_cons_succ] at hO) | (refine wpList_store_field rfl (by rfl) hO rfl _ (by first | exact at0 | exact at1) (Nat.le_of_ble_eq_true rfl) (by simp only [Act.eval, Array.getD_eq_getD_getElem?, List.getElem?_toArray, List.getElem?_cons_succ, List.getElem?_cons_zero, Option.getD_some]; rfl) (by rfl) (by rfl) (by rfl) ?_; clear hO; intro u hO; simp only [List.set_cons_zero, List.set_cons_succ] at hO))
            | fail)
          rw [E1.out, E2.out]
          go_upto_region 11 with (first
            | ((with_reducible refine (CA _).mono ?_); rintro e u ⟨rfl, hb⟩; first | (replace hO := hO.step hb; clear hb) | subst hb)
            | ((with_reducible refine (CB _).mono ?_); rintro e u ⟨rfl, hb⟩; first | (replace hO := hO.step hb; clear hb) | subst hb)
            | ((with_reducible refine wpl_alloc ?_); refine wpList_alloc_own rfl (by rfl) hO rfl (fun b => by simp only [Act.put, List.setIfInBounds_toArray, List.set_cons_succ, List.set_cons_zero]; rfl) ?_; (first | (refine nm 0 rfl ?_; clear hO; intro b0 u hO) | (refine nm 1 rfl ?_; clear hO; intro b1 u hO)); simp only [List.nil_append, List.cons_append] at hO)
            | ((with_reducible refine wpl_box ?_); refine wpList_box_own rfl (by rfl) hO rfl rfl (fun b => by simp only [Act.put, List.setIfInBounds_toArray, List.set_cons_succ, List.set_cons_zero]; rfl) ?_; (first | (refine nm 0 rfl ?_; clear hO; intro b0 u hO) | (refine nm 1 rfl ?_; clear hO; intro b1 u hO)); simp only [List.nil_append, List.cons_append] at hO)
            | ((with_reducible refine wpl_load ?_); first | (refine wpList_load_box rfl (by first | rfl | (simp only [Region.wanted, yielded, *]; go_simp; done) | (simp [Region.wanted, yielded, *]; done) | fail) hO rfl _ (by first | exact at0 | exact at1) (by rfl) (by simp only [Act.put, List.setIfInBounds_toArray, List.set_cons_succ, List.set_cons_zero]; rfl) ?_) | (refine wpList_load_field rfl (by first | rfl | (simp only [Region.wanted, yielded, *]; go_simp; done) | (simp [Region.wanted, yielded, *]; done) | fail) hO rfl _ (by first | exact at0 | exact at1) (by rfl) (by simp only [Act.put, List.setIfInBounds_toArray, List.set_cons_succ, List.set_cons_zero]; rfl) ?_))
            | ((with_reducible refine wpl_store ?_); first | (refine wpList_store_box rfl (by rfl) hO rfl _ (by first | exact at0 | exact at1) rfl (by rfl) (by rfl) (by rfl) (by rfl) (by rfl) ?_; clear hO; intro u hO; simp only [List.set_cons_zero, List.set_cons_succ] at hO) | (refine wpList_store_field rfl (by rfl) hO rfl _ (by first | exact at0 | exact at1) (Nat.le_of_ble_eq_true rfl) (by simp only [Act.eval, Array.getD_eq_getD_getElem?, List.getElem?_toArray, List.getElem?_cons_succ, List.getElem?_cons_zero, Option.getD_some]; rfl) (by rfl) (by rfl) (by rfl) ?_; clear hO; intro u hO; simp only [List.set_cons_zero, List.set_cons_succ] at hO))
            | fail)
          clear CA CB
          cases p1 with
          | false =>
            have HE := Lib.hid (HNO.out (by rw [HB.out]; rfl))
            go_wp2_with (first
              | ((with_reducible refine wpl_alloc ?_); refine wpList_alloc_own rfl (by rfl) hO rfl (fun b => by simp only [Act.put, List.setIfInBounds_toArray, List.set_cons_succ, List.set_cons_zero]; rfl) ?_; (first | (refine nm 0 rfl ?_; clear hO; intro b0 u hO) | (refine nm 1 rfl ?_; clear hO; intro b1 u hO)); simp only [List.nil_append, List.cons_append] at hO)
              | ((with_reducible refine wpl_box ?_); refine wpList_box_own rfl (by rfl) hO rfl rfl (fun b => by simp only [Act.put, List.setIfInBounds_toArray, List.set_cons_succ, List.set_cons_zero]; rfl) ?_; (first | (refine nm 0 rfl ?_; clear hO; intro b0 u hO) | (refine nm 1 rfl ?_; clear hO; intro b1 u hO)); simp only [List.nil_append, List.cons_append] at hO)
              | ((with_reducible refine wpl_load ?_); first | (refine wpList_load_box rfl (by first | rfl | (simp only [Region.wanted, yielded, *]; go_simp; done) | (simp [Region.wanted, yielded, *]; done) | fail) hO rfl _ (by first | exact at0 | exact at1) (by rfl) (by simp only [Act.put, List.setIfInBounds_toArray, List.set_cons_succ, List.set_cons_zero]; rfl) ?_) | (refine wpList_load_field rfl (by first | rfl | (simp only [Region.wanted, yielded, *]; go_simp; done) | (simp [Region.wanted, yielded, *]; done) | fail) hO rfl _ (by first | exact at0 | exact at1) (by rfl) (by simp only [Act.put, List.setIfInBounds_toArray, List.set_cons_succ, List.set_cons_zero]; rfl) ?_))
              | ((with_reducible refine wpl_store ?_); first | (refine wpList_store_box rfl (by rfl) hO rfl _ (by first | exact at0 | exact at1) rfl (by rfl) (by rfl) (by rfl) (by rfl) (by rfl) ?_; clear hO; intro u hO; simp only [List.set_cons_zero, List.set_cons_succ] at hO) | (refine wpList_store_field rfl (by rfl) hO rfl _ (by first | exact at0 | exact at1) (Nat.le_of_ble_eq_true rfl) (by simp only [Act.eval, Array.getD_eq_getD_getElem?, List.getElem?_toArray, List.getElem?_cons_succ, List.getElem?_cons_zero, Option.getD_some]; rfl) (by rfl) (by rfl) (by rfl) ?_; clear hO; intro u hO; simp only [List.set_cons_zero, List.set_cons_succ] at hO))
              | fail)
            exact ret_box2B rfl hO rfl 0 at0 rfl rfl rfl ⟨ret_pn (p := (0, 0)) HE.out, hO.below⟩
          | true =>
          cases p2 with
          | false =>
            have HE := Lib.hid (HNO.out (by rw [HB.out]; rfl))
            go_wp2_with (first
              | ((with_reducible refine wpl_alloc ?_); refine wpList_alloc_own rfl (by rfl) hO rfl (fun b => by simp only [Act.put, List.setIfInBounds_toArray, List.set_cons_succ, List.set_cons_zero]; rfl) ?_; (first | (refine nm 0 rfl ?_; clear hO; intro b0 u hO) | (refine nm 1 rfl ?_; clear hO; intro b1 u hO)); simp only [List.nil_append, List.cons_append] at hO)
              | ((with_reducible refine wpl_box ?_); refine wpList_box_own rfl (by rfl) hO rfl rfl (fun b => by simp only [Act.put, List.setIfInBounds_toArray, List.set_cons_succ, List.set_cons_zero]; rfl) ?_; (first | (refine nm 0 rfl ?_; clear hO; intro b0 u hO) | (refine nm 1 rfl ?_; clear hO; intro b1 u hO)); simp only [List.nil_append, List.cons_append] at hO)
              | ((with_reducible refine wpl_load ?_); first | (refine wpList_load_box rfl (by first | rfl | (simp only [Region.wanted, yielded, *]; go_simp; done) | (simp [Region.wanted, yielded, *]; done) | fail) hO rfl _ (by first | exact at0 | exact at1) (by rfl) (by simp only [Act.put, List.setIfInBounds_toArray, List.set_cons_succ, List.set_cons_zero]; rfl) ?_) | (refine wpList_load_field rfl (by first | rfl | (simp only [Region.wanted, yielded, *]; go_simp; done) | (simp [Region.wanted, yielded, *]; done) | fail) hO rfl _ (by first | exact at0 | exact at1) (by rfl) (by simp only [Act.put, List.setIfInBounds_toArray, List.set_cons_succ, List.set_cons_zero]; rfl) ?_))
              | ((with_reducible refine wpl_store ?_); first | (refine wpList_store_box rfl (by rfl) hO rfl _ (by first | exact at0 | exact at1) rfl (by rfl) (by rfl) (by rfl) (by rfl) (by rfl) ?_; clear hO; intro u hO; simp only [List.set_cons_zero, List.set_cons_succ] at hO) | (refine wpList_store_field rfl (by rfl) hO rfl _ (by first | exact at0 | exact at1) (Nat.le_of_ble_eq_true rfl) (by simp only [Act.eval, Array.getD_eq_getD_getElem?, List.getElem?_toArray, List.getElem?_cons_succ, List.getElem?_cons_zero, Option.getD_some]; rfl) (by rfl) (by rfl) (by rfl) ?_; clear hO; intro u hO; simp only [List.set_cons_zero, List.set_cons_succ] at hO))
              | fail)
            exact ret_box2B rfl hO rfl 0 at0 rfl rfl rfl ⟨ret_pn (p := (0, 0)) HE.out, hO.below⟩
          | true =>
          cases nb with
          | false =>
            have HE := Lib.hid (HNO.out (by rw [HB.out]; rfl))
            go_wp2_with (first
              | ((with_reducible refine (CN _).mono ?_); rintro e u ⟨rfl, hb⟩; first | (replace hO := hO.step hb; clear hb) | subst hb)
              | ((with_reducible refine wpl_alloc ?_); refine wpList_alloc_own rfl (by rfl) hO rfl (fun b => by simp only [Act.put, List.setIfInBounds_toArray, List.set_cons_succ, List.set_cons_zero]; rfl) ?_; (first | (refine nm 0 rfl ?_; clear hO; intro b0 u hO) | (refine nm 1 rfl ?_; clear hO; intro b1 u hO)); simp only [List.nil_append, List.cons_append] at hO)
              | ((with_reducible refine wpl_box ?_); refine wpList_box_own rfl (by rfl) hO rfl rfl (fun b => by simp only [Act.put, List.setIfInBounds_toArray, List.set_cons_succ, List.set_cons_zero]; rfl) ?_; (first | (refine nm 0 rfl ?_; clear hO; intro b0 u hO) | (refine nm 1 rfl ?_; clear hO; intro b1 u hO)); simp only [List.nil_append, List.cons_append] at hO)
              | ((with_reducible refine wpl_load ?_); first | (refine wpList_load_box rfl (by first | rfl | (simp only [Region.wanted, yielded, *]; go_simp; done) | (simp [Region.wanted, yielded, *]; done) | fail) hO rfl _ (by first | exact at0 | exact at1) (by rfl) (by simp only [Act.put, List.setIfInBounds_toArray, List.set_cons_succ, List.set_cons_zero]; rfl) ?_) | (refine wpList_load_field rfl (by first | rfl | (simp only [Region.wanted, yielded, *]; go_simp; done) | (simp [Region.wanted, yielded, *]; done) | fail) hO rfl _ (by first | exact at0 | exact at1) (by rfl) (by simp only [Act.put, List.setIfInBounds_toArray, List.set_cons_succ, List.set_cons_zero]; rfl) ?_))
              | ((with_reducible refine wpl_store ?_); first | (refine wpList_store_box rfl (by rfl) hO rfl _ (by first | exact at0 | exact at1) rfl (by rfl) (by rfl) (by rfl) (by rfl) (by rfl) ?_; clear hO; intro u hO; simp only [List.set_cons_zero, List.set_cons_succ] at hO) | (refine wpList_store_field rfl (by rfl) hO rfl _ (by first | exact at0 | exact at1) (Nat.le_of_ble_eq_true rfl) (by simp only [Act.eval, Array.getD_eq_getD_getElem?, List.getElem?_toArray, List.getElem?_cons_succ, List.getElem?_cons_zero, Option.getD_some]; rfl) (by rfl) (by rfl) (by rfl) ?_; clear hO; intro u hO; simp only [List.set_cons_zero, List.set_cons_succ] at hO))
              | fail)
            exact ret_box2B rfl hO rfl 0 at0 rfl rfl rfl ⟨ret_pn (p := (0, 0)) HE.out, hO.below⟩
          | true =>
            have b1 := HBA.out rfl
            have b2 := HBB.out rfl
            have CF := fun u => impl_fmtN n d ⟨#[]⟩ u (by omega) (by omega) (by omega) (by omega)
            obtain ⟨f, hf⟩ : ∃ f, fmtN n d ⟨#[]⟩ = f := ⟨_, rfl⟩
            rw [hf] at CF HB
            clear hf b1 b2
            by_cases hfs : f.toList = s.toList
            · have HE := Lib.hid (HYES.out (by rw [HB.out, hfs]; simp))
              have q5 : (!f.toList == s.toList) = false := by simp [hfs]
              clear hfs
              go_wp2_with (first
                | ((with_reducible refine (CN _).mono ?_); rintro e u ⟨rfl, hb⟩; first | (replace hO := hO.step hb; clear hb) | subst hb)
                | ((with_reducible refine (CF _).mono ?_); rintro e u ⟨rfl, hb⟩; first | (replace hO := hO.step hb; clear hb) | subst hb)
                | ((with_reducible refine wpl_alloc ?_); refine wpList_alloc_own rfl (by rfl) hO rfl (fun b => by simp only [Act.put, List.setIfInBounds_toArray, List.set_cons_succ, List.set_cons_zero]; rfl) ?_; (first | (refine nm 0 rfl ?_; clear hO; intro b0 u hO) | (refine nm 1 rfl ?_; clear hO; intro b1 u hO)); simp only [List.nil_append, List.cons_append] at hO)
                | ((with_reducible refine wpl_box ?_); refine wpList_box_own rfl (by rfl) hO rfl rfl (fun b => by simp only [Act.put, List.setIfInBounds_toArray, List.set_cons_succ, List.set_cons_zero]; rfl) ?_; (first | (refine nm 0 rfl ?_; clear hO; intro b0 u hO) | (refine nm 1 rfl ?_; clear hO; intro b1 u hO)); simp only [List.nil_append, List.cons_append] at hO)
                | ((with_reducible refine wpl_load ?_); first | (refine wpList_load_box rfl (by first | rfl | (simp only [Region.wanted, yielded, *]; go_simp; done) | (simp [Region.wanted, yielded, *]; done) | fail) hO rfl _ (by first | exact at0 | exact at1) (by rfl) (by simp only [Act.put, List.setIfInBounds_toArray, List.set_cons_succ, List.set_cons_zero]; rfl) ?_) | (refine wpList_load_field rfl (by first | rfl | (simp only [Region.wanted, yielded, *]; go_simp; done) | (simp [Region.wanted, yielded, *]; done) | fail) hO rfl _ (by first | exact at0 | exact at1) (by rfl) (by simp only [Act.put, List.setIfInBounds_toArray, List.set_cons_succ, List.set_cons_zero]; rfl) ?_))
                | ((with_reducible refine wpl_store ?_); first | (refine wpList_store_box rfl (by rfl) hO rfl _ (by first | exact at0 | exact at1) rfl (by rfl) (by rfl) (by rfl) (by rfl) (by rfl) ?_; clear hO; intro u hO; simp only [List.set_cons_zero, List.set_cons_succ] at hO) | (refine wpList_store_field rfl (by rfl) hO rfl _ (by first | exact at0 | exact at1) (Nat.le_of_ble_eq_true rfl) (by simp only [Act.eval, Array.getD_eq_getD_getElem?, List.getElem?_toArray, List.getElem?_cons_succ, List.getElem?_cons_zero, Option.getD_some]; rfl) (by rfl) (by rfl) (by rfl) ?_; clear hO; intro u hO; simp only [List.set_cons_zero, List.set_cons_succ] at hO))
                | fail)
              exact ret_box2B rfl hO rfl 0 at0 rfl rfl rfl ⟨ret_pn (p := (n, d)) HE.out, hO.below⟩
            · have HE := Lib.hid (HNO.out (by rw [HB.out]; simp [hfs]))
              have q5 : (!f.toList == s.toList) = true := by simp [hfs]
              clear hfs
              go_wp2_with (first
                | ((with_reducible refine (CN _).mono ?_); rintro e u ⟨rfl, hb⟩; first | (replace hO := hO.step hb; clear hb) | subst hb)
                | ((with_reducible refine (CF _).mono ?_); rintro e u ⟨rfl, hb⟩; first | (replace hO := hO.step hb; clear hb) | subst hb)
                | ((with_reducible refine wpl_alloc ?_); refine wpList_alloc_own rfl (by rfl) hO rfl (fun b => by simp only [Act.put, List.setIfInBounds_toArray, List.set_cons_succ, List.set_cons_zero]; rfl) ?_; (first | (refine nm 0 rfl ?_; clear hO; intro b0 u hO) | (refine nm 1 rfl ?_; clear hO; intro b1 u hO)); simp only [List.nil_append, List.cons_append] at hO)
                | ((with_reducible refine wpl_box ?_); refine wpList_box_own rfl (by rfl) hO rfl rfl (fun b => by simp only [Act.put, List.setIfInBounds_toArray, List.set_cons_succ, List.set_cons_zero]; rfl) ?_; (first | (refine nm 0 rfl ?_; clear hO; intro b0 u hO) | (refine nm 1 rfl ?_; clear hO; intro b1 u hO)); simp only [List.nil_append, List.cons_append] at hO)
                | ((with_reducible refine wpl_load ?_); first | (refine wpList_load_box rfl (by first | rfl | (simp only [Region.wanted, yielded, *]; go_simp; done) | (simp [Region.wanted, yielded, *]; done) | fail) hO rfl _ (by first | exact at0 | exact at1) (by rfl) (by simp only [Act.put, List.setIfInBounds_toArray, List.set_cons_succ, List.set_cons_zero]; rfl) ?_) | (refine wpList_load_field rfl (by first | rfl | (simp only [Region.wanted, yielded, *]; go_simp; done) | (simp [Region.wanted, yielded, *]; done) | fail) hO rfl _ (by first | exact at0 | exact at1) (by rfl) (by simp only [Act.put, List.setIfInBounds_toArray, List.set_cons_succ, List.set_cons_zero]; rfl) ?_))
                | ((with_reducible refine wpl_store ?_); first | (refine wpList_store_box rfl (by rfl) hO rfl _ (by first | exact at0 | exact at1) rfl (by rfl) (by rfl) (by rfl) (by rfl) (by rfl) ?_; clear hO; intro u hO; simp only [List.set_cons_zero, List.set_cons_succ] at hO) | (refine wpList_store_field rfl (by rfl) hO rfl _ (by first | exact at0 | exact at1) (Nat.le_of_ble_eq_true rfl) (by simp only [Act.eval, Array.getD_eq_getD_getElem?, List.getElem?_toArray, List.getElem?_cons_succ, List.getElem?_cons_zero, Option.getD_some]; rfl) (by rfl) (by rfl) (by rfl) ?_; clear hO; intro u hO; simp only [List.set_cons_zero, List.set_cons_succ] at hO))
                | fail)
              exact ret_box2B rfl hO rfl 0 at0 rfl rfl rfl ⟨ret_pn (p := (0, 0)) HE.out, hO.below⟩
        · have HI2 := Lib.hid (sl_on h1 (by rw [hcc]; exact hc) HI.out)
          have q3 : ((cc.toNat : Int) == 47) = false := by
            have : cc.toNat ≠ 47 := fun e => hc (UInt8.toNat_inj.1 e)
            simp; omega
          clear hc HI
          go_wp2_with (first
            | ((with_reducible refine wpl_alloc ?_); refine wpList_alloc_own rfl (by rfl) hO rfl (fun b => by simp only [Act.put, List.setIfInBounds_toArray, List.set_cons_succ, List.set_cons_zero]; rfl) ?_; (first | (refine nm 0 rfl ?_; clear hO; intro b0 u hO) | (refine nm 1 rfl ?_; clear hO; intro b1 u hO)); simp only [List.nil_append, List.cons_append] at hO)
            | ((with_reducible refine wpl_box ?_); refine wpList_box_own rfl (by rfl) hO rfl rfl (fun b => by simp only [Act.put, List.setIfInBounds_toArray, List.set_cons_succ, List.set_cons_zero]; rfl) ?_; (first | (refine nm 0 rfl ?_; clear hO; intro b0 u hO) | (refine nm 1 rfl ?_; clear hO; intro b1 u hO)); simp only [List.nil_append, List.cons_append] at hO)
            | ((with_reducible refine wpl_load ?_); first | (refine wpList_load_box rfl (by first | rfl | (simp only [Region.wanted, yielded, *]; go_simp; done) | (simp [Region.wanted, yielded, *]; done) | fail) hO rfl _ (by first | exact at0 | exact at1) (by rfl) (by simp only [Act.put, List.setIfInBounds_toArray, List.set_cons_succ, List.set_cons_zero]; rfl) ?_) | (refine wpList_load_field rfl (by first | rfl | (simp only [Region.wanted, yielded, *]; go_simp; done) | (simp [Region.wanted, yielded, *]; done) | fail) hO rfl _ (by first | exact at0 | exact at1) (by rfl) (by simp only [Act.put, List.setIfInBounds_toArray, List.set_cons_succ, List.set_cons_zero]; rfl) ?_))
            | ((with_reducible refine wpl_store ?_); first | (refine wpList_store_box rfl (by rfl) hO rfl _ (by first | exact at0 | exact at1) rfl (by rfl) (by rfl) (by rfl) (by rfl) (by rfl) ?_; clear hO; intro u hO; simp only [List.set_cons_zero, List.set_cons_succ] at hO) | (refine wpList_store_field rfl (by rfl) hO rfl _ (by first | exact at0 | exact at1) (Nat.le_of_ble_eq_true rfl) (by simp only [Act.eval, Array.getD_eq_getD_getElem?, List.getElem?_toArray, List.getElem?_cons_succ, List.getElem?_cons_zero, Option.getD_some]; rfl) (by rfl) (by rfl) (by rfl) ?_; clear hO; intro u hO; simp only [List.set_cons_zero, List.set_cons_succ] at hO))
            | fail)
          go_roundw
          case rel => exact ⟨i + 1, rfl, rfl, by go_num, by omega, HI2, hO⟩
          case measure => simp [intOf]; omega
      · have HS := Lib.hid (sl_out h1 HI.out)
        have E1 : Hid (numS s = s) := Lib.hid (by unfold numS; rw [HS.out, ByteArray.extract_zero_size])
        have E2 : Hid (denS s = ⟨#[49]⟩) := Lib.hid (by unfold denS; rw [HS.out, if_neg (by omega)])
        rw [E1.out] at CA
        rw [E2.out] at CB
        have q1 : ¬ (i : Int) < s.size := by omega
        go_upto_region 11 with (first
          | ((with_reducible refine (CA _).mono ?_); rintro e u ⟨rfl, hb⟩; first | (replace hO := hO.step hb; clear hb) | subst hb)
          | ((with_reducible refine (CB _).mono ?_); rintro e u ⟨rfl, hb⟩; first | (replace hO := hO.step hb; clear hb) | subst hb)
          | ((with_reducible refine wpl_alloc ?_); refine wpList_alloc_own rfl (by rfl) hO rfl (fun b => by simp only [Act.put, List.setIfInBounds_toArray, List.set_cons_succ, List.set_cons_zero]; rfl) ?_; (first | (refine nm 0 rfl ?_; clear hO; intro b0 u hO) | (refine nm 1 rfl ?_; clear hO; intro b1 u hO)); simp only [List.nil_append, List.cons_append] at hO)
          | ((with_reducible refine wpl_box ?_); refine wpList_box_own rfl (by rfl) hO rfl rfl (fun b => by simp only [Act.put, List.setIfInBounds_toArray, List.set_cons_succ, List.set_cons_zero]; rfl) ?_; (first | (refine nm 0 rfl ?_; clear hO; intro b0 u hO) | (refine nm 1 rfl ?_; clear hO; intro b1 u hO)); simp only [List.nil_append, List.cons_append] at hO)
          | ((with_reducible refine wpl_load ?_); first | (refine wpList_load_box rfl (by first | rfl | (simp only [Region.wanted, yielded, *]; go_simp; done) | (simp [Region.wanted, yielded, *]; done) | fail) hO rfl _ (by first | exact at0 | exact at1) (by rfl) (by simp only [Act.put, List.setIfInBounds_toArray, List.set_cons_succ, List.set_cons_zero]; rfl) ?_) | (refine wpList_load_field rfl (by first | rfl | (simp only [Region.wanted, yielded, *]; go_simp; done) | (simp [Region.wanted, yielded, *]; done) | fail) hO rfl _ (by first | exact at0 | exact at1) (by rfl) (by simp only [Act.put, List.setIfInBounds_toArray, List.set_cons_succ, List.set_cons_zero]; rfl) ?_))
          | ((with_reducible refine wpl_store ?_); first | (refine wpList_store_box rfl (by rfl) hO rfl _ (by first | exact at0 | exact at1) rfl (by rfl) (by rfl) (by rfl) (by rfl) (by rfl) ?_; clear hO; intro u hO; simp only [List.set_cons_zero, List.set_cons_succ] at hO) | (refine wpList_store_field rfl (by rfl) hO rfl _ (by first | exact at0 | exact at1) (Nat.le_of_ble_eq_true rfl) (by simp only [Act.eval, Array.getD_eq_getD_getElem?, List.getElem?_toArray, List.getElem?_cons_succ, List.getElem?_cons_zero, Option.getD_some]; rfl) (by rfl) (by rfl) (by rfl) ?_; clear hO; intro u hO; simp only [List.set_cons_zero, List.set_cons_succ] at hO))
          | fail)
        clear CA CB
        cases p1 with
        | false =>
          have HE := Lib.hid (HNO.out (by rw [HB.out]; rfl))
          go_wp2_with (first
            | ((with_reducible refine wpl_alloc ?_); refine wpList_alloc_own rfl (by rfl) hO rfl (fun b => by simp only [Act.put, List.setIfInBounds_toArray, List.set_cons_succ, List.set_cons_zero]; rfl) ?_; (first | (refine nm 0 rfl ?_; clear hO; intro b0 u hO) | (refine nm 1 rfl ?_; clear hO; intro b1 u hO)); simp only [List.nil_append, List.cons_append] at hO)
            | ((with_reducible refine wpl_box ?_); refine wpList_box_own rfl (by rfl) hO rfl rfl (fun b => by simp only [Act.put, List.setIfInBounds_toArray, List.set_cons_succ, List.set_cons_zero]; rfl) ?_; (first | (refine nm 0 rfl ?_; clear hO; intro b0 u hO) | (refine nm 1 rfl ?_; clear hO; intro b1 u hO)); simp only [List.nil_append, List.cons_append] at hO)
            | ((with_reducible refine wpl_load ?_); first | (refine wpList_load_box rfl (by first | rfl | (simp only [Region.wanted, yielded, *]; go_simp; done) | (simp [Region.wanted, yielded, *]; done) | fail) hO rfl _ (by first | exact at0 | exact at1) (by rfl) (by simp only [Act.put, List.setIfInBounds_toArray, List.set_cons_succ, List.set_cons_zero]; rfl) ?_) | (refine wpList_load_field rfl (by first | rfl | (simp only [Region.wanted, yielded, *]; go_simp; done) | (simp [Region.wanted, yielded, *]; done) | fail) hO rfl _ (by first | exact at0 | exact at1) (by rfl) (by simp only [Act.put, List.setIfInBounds_toArray, List.set_cons_succ, List.set_cons_zero]; rfl) ?_))
            | ((with_reducible refine wpl_store ?_); first | (refine wpList_store_box rfl (by rfl) hO rfl _ (by first | exact at0 | exact at1) rfl (by rfl) (by rfl) (by rfl) (by rfl) (by rfl) ?_; clear hO; intro u hO; simp only [List.set_cons_zero, List.set_cons_succ] at hO) | (refine wpList_store_field rfl (by rfl) hO rfl _ (by first | exact at0 | exact at1) (Nat.le_of_ble_eq_true rfl) (by simp only [Act.eval, Array.getD_eq_getD_getElem?, List.getElem?_toArray, List.getElem?_cons_succ, List.getElem?_cons_zero, Option.getD_some]; rfl) (by rfl) (by rfl) (by rfl) ?_; clear hO; intro u hO; simp only [List.set_cons_zero, List.set_cons_succ] at hO))
            | fail)
          exact ret_box2B rfl hO rfl 0 at0 rfl rfl rfl ⟨ret_pn (p := (0, 0)) HE.out, hO.below⟩
        | true =>
        cases p2 with
        | false =>
          have HE := Lib.hid (HNO.out (by rw [HB.out]; rfl))
          go_wp2_with (first
            | ((with_reducible refine wpl_alloc ?_); refine wpList_alloc_own rfl (by rfl) hO rfl (fun b => by simp only [Act.put, List.setIfInBounds_toArray, List.set_cons_succ, List.set_cons_zero]; rfl) ?_; (first | (refine nm 0 rfl ?_; clear hO; intro b0 u hO) | (refine nm 1 rfl ?_; clear hO; intro b1 u hO)); simp only [List.nil_append, List.cons_append] at hO)
            | ((with_reducible refine wpl_box ?_); refine wpList_box_own rfl (by rfl) hO rfl rfl (fun b => by simp only [Act.put, List.setIfInBounds_toArray, List.set_cons_succ, List.set_cons_zero]; rfl) ?_; (first | (refine nm 0 rfl ?_; clear hO; intro b0 u hO) | (refine nm 1 rfl ?_; clear hO; intro b1 u hO)); simp only [List.nil_append, List.cons_append] at hO)
            | ((with_reducible refine wpl_load ?_); first | (refine wpList_load_box rfl (by first | rfl | (simp only [Region.wanted, yielded, *]; go_simp; done) | (simp [Region.wanted, yielded, *]; done) | fail) hO rfl _ (by first | exact at0 | exact at1) (by rfl) (by simp only [Act.put, List.setIfInBounds_toArray, List.set_cons_succ, List.set_cons_zero]; rfl) ?_) | (refine wpList_load_field rfl (by first | rfl | (simp only [Region.wanted, yielded, *]; go_simp; done) | (simp [Region.wanted, yielded, *]; done) | fail) hO rfl _ (by first | exact at0 | exact at1) (by rfl) (by simp only [Act.put, List.setIfInBounds_toArray, List.set_cons_succ, List.set_cons_zero]; rfl) ?_))
            | ((with_reducible refine wpl_store ?_); first | (refine wpList_store_box rfl (by rfl) hO rfl _ (by first | exact at0 | exact at1) rfl (by rfl) (by rfl) (by rfl) (by rfl) (by rfl) ?_; clear hO; intro u hO; simp only [List.set_cons_zero, List.set_cons_succ] at hO) | (refine wpList_store_field rfl (by rfl) hO rfl _ (by first | exact at0 | exact at1) (Nat.le_of_ble_eq_true rfl) (by simp only [Act.eval, Array.getD_eq_getD_getElem?, List.getElem?_toArray, List.getElem?_cons_succ, List.getElem?_cons_zero, Option.getD_some]; rfl) (by rfl) (by rfl) (by rfl) ?_; clear hO; intro u hO; simp only [List.set_cons_zero, List.set_cons_succ] at hO))
            | fail)
          exact ret_box2B rfl hO rfl 0 at0 rfl rfl rfl ⟨ret_pn (p := (0, 0)) HE.out, hO.below⟩
        | true =>
        cases nb with
        | false =>
          have HE := Lib.hid (HNO.out (by rw [HB.out]; rfl))
          go_wp2_with (first
            | ((with_reducible refine (CN _).mono ?_); rintro e u ⟨rfl, hb⟩; first | (replace hO := hO.step hb; clear hb) | subst hb)
            | ((with_reducible refine wpl_alloc ?_); refine wpList_alloc_own rfl (by rfl) hO rfl (fun b => by simp only [Act.put, List.setIfInBounds_toArray, List.set_cons_succ, List.set_cons_zero]; rfl) ?_; (first | (refine nm 0 rfl ?_; clear hO; intro b0 u hO) | (refine nm 1 rfl ?_; clear hO; intro b1 u hO)); simp only [List.nil_append, List.cons_append] at hO)
            | ((with_reducible refine wpl_box ?_); refine wpList_box_own rfl (by rfl) hO rfl rfl (fun b => by simp only [Act.put, List.setIfInBounds_toArray, List.set_cons_succ, List.set_cons_zero]; rfl) ?_; (first | (refine nm 0 rfl ?_; clear hO; intro b0 u hO) | (refine nm 1 rfl ?_; clear hO; intro b1 u hO)); simp only [List.nil_append, List.cons_append] at hO)
            | ((with_reducible refine wpl_load ?_); first | (refine wpList_load_box rfl (by first | rfl | (simp only [Region.wanted, yielded, *]; go_simp; done) | (simp [Region.wanted, yielded, *]; done) | fail) hO rfl _ (by first | exact at0 | exact at1) (by rfl) (by simp only [Act.put, List.setIfInBounds_toArray, List.set_cons_succ, List.set_cons_zero]; rfl) ?_) | (refine wpList_load_field rfl (by first | rfl | (simp only [Region.wanted, yielded, *]; go_simp; done) | (simp [Region.wanted, yielded, *]; done) | fail) hO rfl _ (by first | exact at0 | exact at1) (by rfl) (by simp only [Act.put, List.setIfInBounds_toArray, List.set_cons_succ, List.set_cons_zero]; rfl) ?_))
            | ((with_reducible refine wpl_store ?_); first | (refine wpList_store_box rfl (by rfl) hO rfl _ (by first | exact at0 | exact at1) rfl (by rfl) (by rfl) (by rfl) (by rfl) (by rfl) ?_; clear hO; intro u hO; simp only [List.set_cons_zero, List.set_cons_succ] at hO) | (refine wpList_store_field rfl (by rfl) hO rfl _ (by first | exact at0 | exact at1) (Nat.le_of_ble_eq_true rfl) (by simp only [Act.eval, Array.getD_eq_getD_getElem?, List.getElem?_toArray, List.getElem?_cons_succ, List.getElem?_cons_zero, Option.getD_some]; rfl) (by rfl) (by rfl) (by rfl) ?_; clear hO; intro u hO; simp only [List.set_cons_zero, List.set_cons_succ] at hO))
            | fail)
          exact ret_box2B rfl hO rfl 0 at0 rfl rfl rfl ⟨ret_pn (p := (0, 0)) HE.out, hO.below⟩
        | true =>
          have b1 := HBA.out rfl
          have b2 := HBB.out rfl
          have CF := fun u => impl_fmtN n d ⟨#[]⟩ u (by omega) (by omega) (by omega) (by omega)
          obtain ⟨f, hf⟩ : ∃ f, fmtN n d ⟨#[]⟩ = f := ⟨_, rfl⟩
          rw [hf] at CF HB
          clear hf b1 b2
          by_cases hfs : f.toList = s.toList
          · have HE := Lib.hid (HYES.out (by rw [HB.out, hfs]; simp))
            have q5 : (!f.toList == s.toList) = false := by simp [hfs]
            clear hfs
            go_wp2_with (first
              | ((with_reducible refine (CN _).mono ?_); rintro e u ⟨rfl, hb⟩; first | (replace hO := hO.step hb; clear hb) | subst hb)
              | ((with_reducible refine (CF _).mono ?_); rintro e u ⟨rfl, hb⟩; first | (replace hO := hO.step hb; clear hb) | subst hb)
              | ((with_reducible refine wpl_alloc ?_); refine wpList_alloc_own rfl (by rfl) hO rfl (fun b => by simp only [Act.put, List.setIfInBounds_toArray, List.set_cons_succ, List.set_cons_zero]; rfl) ?_; (first | (refine nm 0 rfl ?_; clear hO; intro b0 u hO) | (refine nm 1 rfl ?_; clear hO; intro b1 u hO)); simp only [List.nil_append, List.cons_append] at hO)
              | ((with_reducible refine wpl_box ?_); refine wpList_box_own rfl (by rfl) hO rfl rfl (fun b => by simp only [Act.put, List.setIfInBounds_toArray, List.set_cons_succ, List.set_cons_zero]; rfl) ?_; (first | (refine nm 0 rfl ?_; clear hO; intro b0 u hO) | (refine nm 1 rfl ?_; clear hO; intro b1 u hO)); simp only [List.nil_append, List.cons_append] at hO)
              | ((with_reducible refine wpl_load ?_); first | (refine wpList_load_box rfl (by first | rfl | (simp only [Region.wanted, yielded, *]; go_simp; done) | (simp [Region.wanted, yielded, *]; done) | fail) hO rfl _ (by first | exact at0 | exact at1) (by rfl) (by simp only [Act.put, List.setIfInBounds_toArray, List.set_cons_succ, List.set_cons_zero]; rfl) ?_) | (refine wpList_load_field rfl (by first | rfl | (simp only [Region.wanted, yielded, *]; go_simp; done) | (simp [Region.wanted, yielded, *]; done) | fail) hO rfl _ (by first | exact at0 | exact at1) (by rfl) (by simp only [Act.put, List.setIfInBounds_toArray, List.set_cons_succ, List.set_cons_zero]; rfl) ?_))
              | ((with_reducible refine wpl_store ?_); first | (refine wpList_store_box rfl (by rfl) hO rfl _ (by first | exact at0 | exact at1) rfl (by rfl) (by rfl) (by rfl) (by rfl) (by rfl) ?_; clear hO; intro u hO; simp only [List.set_cons_zero, List.set_cons_succ] at hO) | (refine wpList_store_field rfl (by rfl) hO rfl _ (by first | exact at0 | exact at1) (Nat.le_of_ble_eq_true rfl) (by simp only [Act.eval, Array.getD_eq_getD_getElem?, List.getElem?_toArray, List.getElem?_cons_succ, List.getElem?_cons_zero, Option.getD_some]; rfl) (by rfl) (by rfl) (by rfl) ?_; clear hO; intro u hO; simp only [List.set_cons_zero, List.set_cons_succ] at hO))
              | fail)
            exact ret_box2B rfl hO rfl 0 at0 rfl rfl rfl ⟨ret_pn (p := (n, d)) HE.out, hO.below⟩
          · have HE := Lib.hid (HNO.out (by rw [HB.out]; simp [hfs]))
            have q5 : (!f.toList == s.toList) = true := by simp [hfs]
            clear hfs
            go_wp2_with (first
              | ((with_reducible refine (CN _).mono ?_); rintro e u ⟨rfl, hb⟩; first | (replace hO := hO.step hb; clear hb) | subst hb)
              | ((with_reducible refine (CF _).mono ?_); rintro e u ⟨rfl, hb⟩; first | (replace hO := hO.step hb; clear hb) | subst hb)
              | ((with_reducible refine wpl_alloc ?_); refine wpList_alloc_own rfl (by rfl) hO rfl (fun b => by simp only [Act.put, List.setIfInBounds_toArray, List.set_cons_succ, List.set_cons_zero]; rfl) ?_; (first | (refine nm 0 rfl ?_; clear hO; intro b0 u hO) | (refine nm 1 rfl ?_; clear hO; intro b1 u hO)); simp only [List.nil_append, List.cons_append] at hO)
              | ((with_reducible refine wpl_box ?_); refine wpList_box_own rfl (by rfl) hO rfl rfl (fun b => by simp only [Act.put, List.setIfInBounds_toArray, List.set_cons_succ, List.set_cons_zero]; rfl) ?_; (first | (refine nm 0 rfl ?_; clear hO; intro b0 u hO) | (refine nm 1 rfl ?_; clear hO; intro b1 u hO)); simp only [List.nil_append, List.cons_append] at hO)
              | ((with_reducible refine wpl_load ?_); first | (refine wpList_load_box rfl (by first | rfl | (simp only [Region.wanted, yielded, *]; go_simp; done) | (simp [Region.wanted, yielded, *]; done) | fail) hO rfl _ (by first | exact at0 | exact at1) (by rfl) (by simp only [Act.put, List.setIfInBounds_toArray, List.set_cons_succ, List.set_cons_zero]; rfl) ?_) | (refine wpList_load_field rfl (by first | rfl | (simp only [Region.wanted, yielded, *]; go_simp; done) | (simp [Region.wanted, yielded, *]; done) | fail) hO rfl _ (by first | exact at0 | exact at1) (by rfl) (by simp only [Act.put, List.setIfInBounds_toArray, List.set_cons_succ, List.set_cons_zero]; rfl) ?_))
              | ((with_reducible refine wpl_store ?_); first | (refine wpList_store_box rfl (by rfl) hO rfl _ (by first | exact at0 | exact at1) rfl (by rfl) (by rfl) (by rfl) (by rfl) (by rfl) ?_; clear hO; intro u hO; simp only [List.set_cons_zero, List.set_cons_succ] at hO) | (refine wpList_store_field rfl (by rfl) hO rfl _ (by first | exact at0 | exact at1) (Nat.le_of_ble_eq_true rfl) (by simp only [Act.eval, Array.getD_eq_getD_getElem?, List.getElem?_toArray, List.getElem?_cons_succ, List.getElem?_cons_zero, Option.getD_some]; rfl) (by rfl) (by rfl) (by rfl) ?_; clear hO; intro u hO; simp only [List.set_cons_zero, List.set_cons_succ] at hO))
              | fail)
            exact ret_box2B rfl hO rfl 0 at0 rfl rfl rfl ⟨ret_pn (p := (0, 0)) HE.out, hO.below⟩

end Go.Proofs.Ytncmekbfmgcbnaa
