/-
  What is proved: what the reference's FormatVector returns.
  Condition: vectors of size at most 1048576.
-/
import Derived.Test.YtmofcbpabdbjlaaFvB
namespace Go.Proofs.Ytmofcbpabdbjlaa
set_option maxRecDepth 8000
open Go.RowKit Go.ChangeShapes Go.WideShapes Go.Deep
set_option linter.unusedVariables false
set_option linter.unusedSimpArgs false

def PFmt (t : VT) : Prop := pvB t = true → ∀ (vs : List Value) (w : World), RdV w t vs → szV t ≤ 1048576 → Calls Try.prog 118 #[.agg vs.toArray] w fun e w' => e = .returned (.string (fmF t)) ∧ Below w.heap.size w w'
def PTxt : Prop := ∀ ss : List ByteArray, shortB ss = true → ss.length ≤ 20 → ∀ (vs : List Value) (w : World), RdV w (vecI 3 (ss.map txI)) vs → Calls Try.prog 118 #[.agg vs.toArray] w fun e w' => e = .returned (.string (txF ss)) ∧ Below w.heap.size w w'

theorem spec_tvx {ss : List ByteArray} (h : shortB ss = true) (hl : ss.length ≤ 20) (A : Option Addr) (c : Nat) (w : World) (hs : Sl w 1 A ss.length (stc ss)) : Calls Try.prog 162 #[.slice A ss.length c] w fun e w' => ∃ (Ci Cp Cn Cc Cl : Option Addr) (ri rp rn rc rl : Nat) (F : List Res), e = .returned (.agg #[.int .i64 3, .slice Ci ss.length ri, .slice Cp 0 rp, .slice Cn 0 rn, .slice Cc 0 rc, .slice Cl 0 rl, .int .i64 0, .int .i64 0]) ∧
      VO (vecI 3 (ss.map txI)) [.int .i64 3, .slice Ci ss.length ri, .slice Cp 0 rp, .slice Cn 0 rn, .slice Cc 0 rc, .slice Cl 0 rl, .int .i64 0, .int .i64 0] F ∧ Own w [pack F] w' := by
  have hz := stz_bdF (short_mem h)
  have h1 := spec_textVec A ss.length c ss w hs (by omega) (by omega)
  rw [(tx_valid h hl).2.1] at h1
  exact h1.mono fun e' w' h => by
    have h' := RetV.exC (xk := 3) (xi := ss.map txI) (xp := []) (xn := []) (xc := []) (xl := []) (xo := 0) (xe := 0) h
    rw [List.length_map] at h'
    exact h'

theorem jnB_one (l : List ByteArray) : jnB l 1 = l.getD 0 ⟨#[]⟩ := nil_ba _
theorem jnB_next {l : List ByteArray} {m : Nat} {a b : ByteArray} (h : m < l.length) (hl : l[m] = (a ++ b : ByteArray)) : jnB l (m + 1) = ((if m = 0 then jnB l m else (jnB l m ++ ⟨#[44, 32]⟩ : ByteArray)) ++ a ++ b : ByteArray) := by
  show ((if m = 0 then jnB l m else (jnB l m ++ ⟨#[44, 32]⟩ : ByteArray)) ++ l.getD m ⟨#[]⟩ : ByteArray) = _
  have : l.getD m ⟨#[]⟩ = l[m] := by simp [List.getD_eq_getElem?_getD, h]
  rw [this, hl, ba_assoc]

set_option maxRecDepth 20000 in
set_option maxHeartbeats 8000000 in
theorem spec_fmt1 (k : Int) (is : List It) (ps : List VT) (ns cs ls : List ByteArray) (c e : Int) (ih : ∀ q ∈ ps, PFmt q) (hT : (0 < ls.length ∨ 0 < cs.length) → PTxt) : PFmt (.mk k is ps ns cs ls c e) := by
  intro hB vs w hv hz
  have hnode := pv_node hB
  have hpp := pv_parts hB
  obtain ⟨b1, b2, b3, b4, b5, b6, b7, b8, b9, b10, b11, b12⟩ := node_facts hnode
  have hbd := fmP_bd hnode (fmL_size hpp)
  have hn60 := short_mem b6
  have l4 := lab_short b4
  have l5 := lab_short b5
  have HT0 : szV (.mk k is ps ns cs ls c e) = szI is + szL ps + szS ns + szS cs + szS ls := rfl
  have hzp := szL_eq ps
  unfold szI szS at HT0
  have z1 : is.length ≤ 1048576 := by omega
  have z2 : ps.length ≤ 1048576 := by omega
  have z3 : ns.length ≤ 1048576 := by omega
  have HPL := Lib.hid (show szL ps ≤ 1048576 by omega)
  have zS : (fmP (.mk k is ps ns cs ls c e)).size ≤ 100000000000 := by have := HPL.out; omega
  have y1 := txF_size l5.2 l5.1
  have y2 := txF_size l4.2 (by omega)
  have hst : stz (itemsP k is ns ++ partsP ns (fmL ps)) ≤ 1000000000000 := by have := hbd.2.1; have := HPL.out; omega
  have hln : (itemsP k is ns ++ partsP ns (fmL ps)).length ≤ 1048576 := by have := hbd.1; omega
  have HIT := Lib.hid (fun x hx => itB_item (b7 x hx))
  have HPP := Lib.hid hpp
  have HIH := Lib.hid ih
  have HN := Lib.hid hn60
  have HFS := Lib.hid (fun q hq => fmF_size q (hpp q hq))
  have HW : Hid (∀ S, wrpF cs ls S = if ls.length = 0 ∧ cs.length = 0 then S else (⟨#[115, 116, 114, 117, 99, 116, 117, 114, 101, 40]⟩ ++ (if 0 < cs.length then ((if 0 < ls.length then (S ++ ⟨#[44, 32, 108, 101, 118, 101, 108, 115, 32, 61, 32]⟩ ++ txF ls : ByteArray) else S) ++ ⟨#[44, 32, 99, 108, 97, 115, 115, 32, 61, 32]⟩ ++ txF cs : ByteArray) else (S ++ ⟨#[44, 32, 108, 101, 118, 101, 108, 115, 32, 61, 32]⟩ ++ txF ls : ByteArray)) ++ ⟨#[41]⟩ : ByteArray)) := Lib.hid (fun S => rfl)
  have HP : Hid (fmP (.mk k is ps ns cs ls c e) = plnF k is ns (itemsP k is ns ++ partsP ns (fmL ps))) := Lib.hid rfl
  have HE := Lib.hid (fmF_eq k is ps ns cs ls c e)
  obtain ⟨Y, hY⟩ : ∃ Y, fmF (.mk k is ps ns cs ls c e) = Y := ⟨_, rfl⟩
  rw [hY] at HE ⊢
  obtain ⟨S, hS⟩ : ∃ q, fmP (.mk k is ps ns cs ls c e) = q := ⟨_, rfl⟩
  rw [hS] at HE zS HP
  have HE2 := Lib.hid (HE.out.trans (HW.out S))
  have HK0 : Hid (k = 0 → ls.length = 0 ∧ cs.length = 0) := Lib.hid (fun h => ⟨by rcases b10 with h' | h' <;> omega, (b12 h).2⟩)
  obtain ⟨Ai, Ap, An, Ac, Al, ci, cp, cn, cc, cl, pvs0, rfl, h1, h2, h3, h4, h5⟩ := hv.open
  have LA := fun u => spec_len k Ai Ap is.length ps.length ci cp (.slice An ns.length cn) (.slice Ac cs.length cc) (.slice Al ls.length cl) (.int .i64 c) (.int .i64 e) u (by omega)
  have TL := fun u (hb : Below w.heap.size w u) => spec_tvx l5.2 l5.1 Al cl u (h5.below hb)
  have TC := fun u (hb : Below w.heap.size w u) => spec_tvx l4.2 (by omega) Ac cc u (h4.below hb)
  have PL := fun (hx : 0 < ls.length ∨ 0 < cs.length) vs u (h : RdV u (vecI 3 (ls.map txI)) vs) => hT hx ls l5.2 l5.1 vs u h
  have PC := fun (hx : 0 < ls.length ∨ 0 < cs.length) vs u (h : RdV u (vecI 3 (cs.map txI)) vs) => hT hx cs l4.2 (by omega) vs u h
  have HP4 : Hid (k ≠ 4 → ps = []) := Lib.hid (fun h => by
    rcases b8 with h' | h'
    · exact List.length_eq_zero_iff.1 h'
    · exact absurd h' h)
  have HI4 : Hid (k = 4 → is = []) := Lib.hid (fun h => by
    cases hq : is with
    | nil => rfl
    | cons x l => have := (HIT.out x (by rw [hq]; exact List.mem_cons_self)).1; omega)
  have HNN : Hid (k ≠ 5 → ns.length = 0 ∨ ns.length = is.length + ps.length) := Lib.hid (fun h => by
    rcases b3 with h' | h'
    · exact .inl h'
    · unfold lenN at h'
      rw [if_neg h] at h'
      exact .inr h'.1)
  have HL0 : Hid (k ≠ 2 → ls.length = 0) := Lib.hid (fun h => by rcases b10 with h' | h' <;> omega)
  have HI5 : Hid (k = 5 → is.length = 0) := Lib.hid (fun h => (b9 h).1)
  have HLN : Hid (k ≠ 5 → lenN k is.length ps.length = is.length + ps.length) := Lib.hid (fun h => by unfold lenN; rw [if_neg h])
  clear hY hB hv hz hnode hpp hbd hn60 HT0 hzp b2 b3 b4 b5 b6 b7 b8 b9 b10 b11 b12 h4 h5 ih HE HW hT l4 l5 hS
  obtain ⟨k0, k5⟩ := b1
  by_cases e0 : k = 0
  · subst e0
    have HF : Hid (Y = ⟨#[78, 85, 76, 76]⟩) := Lib.hid (by rw [HE2.out, if_pos (HK0.out rfl), HP.out]; rfl)
    go_enter Try.func118, Try.ntmps118
    have hO := Own.nil w
    go_wp2_with (first
      | ((with_reducible refine wpl_box ?_); refine wpList_box_own rfl (by rfl) hO rfl rfl (fun b => by simp only [Act.put, zA, zB, zC]; rfl) ?_; (refine nm 0 rfl ?_; clear hO; intro b0 u hO); simp only [zL, zK] at hO)
      | ((with_reducible refine wpl_load ?_); refine wpList_load_field rfl (by rfl) hO rfl _ (by exact at0) (by rfl) (by simp only [Act.put, zA, zB, zC]; rfl) ?_)
      | fail)
    go_ret
    exact ⟨ret_str HF.out.symm, hO.below⟩
  have q0 : (k == 0) = false := by simp [e0]
  obtain ⟨n, hn⟩ : ∃ n, lenN k is.length ps.length = n := ⟨_, rfl⟩
  rw [hn] at LA
  obtain ⟨L, hL⟩ : ∃ q, itemsP k is ns ++ partsP ns (fmL ps) = q := ⟨_, rfl⟩
  have HLL := Lib.hid hL
  rw [hL] at HP hst hln
  have HLEN : Hid (L.length = is.length + ps.length) := Lib.hid (by rw [← hL, List.length_append, itemsP_len, partsP_len, fmL_map, List.length_map])
  have HNV : Hid (k ≠ 5 → n = L.length) := Lib.hid (fun h => by rw [← hn, HLN.out h, HLEN.out])
  have HJZ : Hid (∀ m, m ≤ L.length → (jnB L m).size ≤ 1000010000000) := Lib.hid (fun m hm => by
    have h1 := jnB_size L m hm
    have h2 := stz_take_le L m
    omega)
  clear hL HK0
  go_enter Try.func118, Try.ntmps118
  have hO := Own.nil w
  go_wp2_with (first
    | ((with_reducible refine (LA _).mono ?_); rintro e u ⟨rfl, hb⟩; (replace hO := hO.step hb; clear hb))
    | ((with_reducible refine wpl_box ?_); refine wpList_box_own rfl (by rfl) hO rfl rfl (fun b => by simp only [Act.put, zA, zB, zC]; rfl) ?_; (refine nm 0 rfl ?_; clear hO; intro b0 u hO); simp only [zL, zK] at hO)
    | ((with_reducible refine wpl_load ?_); refine wpList_load_box rfl (by rfl) hO rfl _ (by exact at0) (by rfl) (by simp only [Act.put, zA, zB, zC]; rfl) ?_)
    | ((with_reducible refine wpl_load ?_); refine wpList_load_field rfl (by rfl) hO rfl _ (by exact at0) (by rfl) (by simp only [Act.put, zA, zB, zC]; rfl) ?_)
    | fail)
  have HN5 : Hid (k = 5 → n = 1) := Lib.hid (fun h => by rw [← hn]; unfold lenN; rw [if_pos h])
  have HL5 : Hid (k = 5 → L.length = 0) := Lib.hid (fun h => by
    have h1 : n = 1 := by rw [← hn]; unfold lenN; rw [if_pos h]
    have h2 := HP4.out (by omega)
    have h3 := HLEN.out
    rw [h2] at h3
    have h4 := HI5.out h
    simp at h3
    omega)
  go_loopw [4, 5] (fun s i u => ∃ (m : Nat), m ≤ L.length ∧ i = .int .i64 m ∧ s = .string (jnB L m) ∧ Own w [box b0 29 [.int .i64 k, .slice Ai is.length ci, .slice Ap ps.length cp, .slice An ns.length cn, .slice Ac cs.length cc, .slice Al ls.length cl, .int .i64 c, .int .i64 e]] u) (fun _ i _ => L.length - (intOf i).toNat)
  case atStart => exact ⟨0, Nat.zero_le _, rfl, rfl, hO⟩
  case round =>
    clear hO
    obtain ⟨m, hm, rfl, rfl, hO⟩ := hrel
    have zJ := HJZ.out m hm
    by_cases hlt : m < L.length
    · have e5 : k ≠ 5 := fun h => by have := HL5.out h; omega
      have q5 : (k != 5) = true := by simp [e5]
      have hnL := HNV.out e5
      have i1 : (m : Int) < (n : Int) := by omega
      clear hnL
      have hnm := getD_lenF (k := m) HN.out
      have zl := labF_size hnm
      have CL := fun u => spec_label (ns.getD m ⟨#[]⟩) u hnm
      have HNX : Hid (0 < ns.length → ∃ b off, An = some ⟨b, off, none⟩ ∧ b < w.heap.size ∧ w.cell? ⟨b, off + m, none⟩ = some (.string (ns.getD m ⟨#[]⟩)) ∧ m < ns.length) := Lib.hid (fun h0 => by
        have h1 : m < ns.length := by
          have h4 := HLEN.out
          rcases HNN.out e5 with h | h <;> omega
        obtain ⟨b, off, e, hb, hc⟩ := h3.tx (Below.refl _ _) h1 rfl
        exact ⟨b, off, e, hb, by rw [hc]; simp [List.getD_eq_getElem?_getD, h1], h1⟩)
      have HNZ : Hid (¬ 0 < ns.length → labF (ns.getD m ⟨#[]⟩) = ⟨#[]⟩) := Lib.hid (fun h0 => by
        have : ns.getD m ⟨#[]⟩ = ⟨#[]⟩ := by simp [List.getD_eq_getElem?_getD]; rw [List.getElem?_eq_none (by omega)]; rfl
        rw [this]
        unfold labF
        rw [if_pos (by simp [emptyB])])
      have HNEXT := Lib.hid (fun (a b : ByteArray) (hl : L[m]'hlt = (a ++ b : ByteArray)) => jnB_next hlt hl)
      obtain ⟨nmm, hnm2⟩ : ∃ q, ns.getD m ⟨#[]⟩ = q := ⟨_, rfl⟩
      have HNMM := Lib.hid hnm2
      rw [hnm2] at CL HNX HNZ zl
      obtain ⟨lb, hlb⟩ : ∃ q, labF nmm = q := ⟨_, rfl⟩
      have HLB := Lib.hid hlb
      rw [hlb] at CL HNZ zl
      obtain ⟨Jn, hJ⟩ : ∃ q, jnB L m = q := ⟨_, rfl⟩
      rw [hJ] at zJ HNEXT
      rw [hJ]
      have w1 : (⟨#[44, 32]⟩ : ByteArray).size = 2 := rfl
      have w2 : (if m = 0 then Jn else (Jn ++ ⟨#[44, 32]⟩ : ByteArray)).size ≤ Jn.size + 2 := by
        split
        · omega
        · rw [ba_size, w1]; omega
      have HS1 : Hid ((if m = 0 then Jn else (Jn ++ ⟨#[44, 32]⟩ : ByteArray)) = if m = 0 then Jn else (Jn ++ ⟨#[44, 32]⟩ : ByteArray)) := Lib.hid rfl
      obtain ⟨S1, hS1⟩ : ∃ q, (if m = 0 then Jn else (Jn ++ ⟨#[44, 32]⟩ : ByteArray)) = q := ⟨_, rfl⟩
      have HS1' := Lib.hid hS1
      rw [hS1] at HNEXT w2
      clear hJ hlb hnm2 hnm hS1 HS1
      go_upto_if 22 with (first
        | ((with_reducible refine wpl_load ?_); refine wpList_load_field rfl (by rfl) hO rfl _ (by exact at0) (by rfl) (by simp only [Act.put, zA, zB, zC]; rfl) ?_)
        | fail)
      go_cut [4] from 21 to 24 (fun s u => s = .string S1 ∧ Own w [box b0 29 [.int .i64 k, .slice Ai is.length ci, .slice Ap ps.length cp, .slice An ns.length cn, .slice Ac cs.length cc, .slice Al ls.length cl, .int .i64 c, .int .i64 e]] u)
      case first =>
        by_cases h0 : 0 < m
        · go_wp2_with (first
            | ((with_reducible refine wpl_alloc ?_); refine wpList_alloc_own rfl (by rfl) hO rfl (fun b => by simp only [Act.put, zA, zB, zC]; rfl) ?_; (first | (refine nm 0 rfl ?_; clear hO; intro b0 u hO) | (refine nm 1 rfl ?_; clear hO; intro b1 u hO) | (refine nm 2 rfl ?_; clear hO; intro b2 u hO) | (refine nm 3 rfl ?_; clear hO; intro b3 u hO)); simp only [zL, zK] at hO)
            | ((with_reducible refine wpl_box ?_); refine wpList_box_own rfl (by rfl) hO rfl rfl (fun b => by simp only [Act.put, zA, zB, zC]; rfl) ?_; (first | (refine nm 0 rfl ?_; clear hO; intro b0 u hO) | (refine nm 1 rfl ?_; clear hO; intro b1 u hO) | (refine nm 2 rfl ?_; clear hO; intro b2 u hO) | (refine nm 3 rfl ?_; clear hO; intro b3 u hO)); simp only [zL, zK] at hO)
            | ((with_reducible refine wpl_load ?_); refine wpList_load_box rfl (by (first | rfl | (simp only [Region.wanted, yielded, *]; go_simp; done) | (simp [Region.wanted, yielded, *]; done) | fail)) hO rfl _ (by (first | exact at0 | exact at1 | exact at2 | exact at3)) (by rfl) (by simp only [Act.put, zA, zB, zC]; rfl) ?_)
            | ((with_reducible refine wpl_load ?_); refine wpList_load_field rfl (by (first | rfl | (simp only [Region.wanted, yielded, *]; go_simp; done) | (simp [Region.wanted, yielded, *]; done) | fail)) hO rfl _ (by (first | exact at0 | exact at1 | exact at2 | exact at3)) (by rfl) (by simp only [Act.put, zA, zB, zC]; rfl) ?_)
            | ((with_reducible refine wpl_store ?_); refine wpList_store_box rfl (by rfl) hO rfl _ (by (first | exact at0 | exact at1 | exact at2 | exact at3)) rfl (by rfl) (by rfl) (by rfl) (by rfl) (by rfl) ?_; clear hO; intro u hO; simp only [zC, zB] at hO)
            | ((with_reducible refine wpl_store ?_); refine wpList_store_field rfl (by rfl) hO rfl _ (by (first | exact at0 | exact at1 | exact at2 | exact at3)) (zM rfl) (by simp only [Act.eval, zJ, zF, zD, zE, zP]; rfl) (by rfl) (by rfl) (by rfl) ?_; clear hO; intro u hO; simp only [zC, zB] at hO)
            | fail)
          go_meet
          case rel => exact ⟨by rw [← HS1'.out, if_neg (by omega)], hO⟩
        · go_wp2_with (first
            | ((with_reducible refine wpl_alloc ?_); refine wpList_alloc_own rfl (by rfl) hO rfl (fun b => by simp only [Act.put, zA, zB, zC]; rfl) ?_; (first | (refine nm 0 rfl ?_; clear hO; intro b0 u hO) | (refine nm 1 rfl ?_; clear hO; intro b1 u hO) | (refine nm 2 rfl ?_; clear hO; intro b2 u hO) | (refine nm 3 rfl ?_; clear hO; intro b3 u hO)); simp only [zL, zK] at hO)
            | ((with_reducible refine wpl_box ?_); refine wpList_box_own rfl (by rfl) hO rfl rfl (fun b => by simp only [Act.put, zA, zB, zC]; rfl) ?_; (first | (refine nm 0 rfl ?_; clear hO; intro b0 u hO) | (refine nm 1 rfl ?_; clear hO; intro b1 u hO) | (refine nm 2 rfl ?_; clear hO; intro b2 u hO) | (refine nm 3 rfl ?_; clear hO; intro b3 u hO)); simp only [zL, zK] at hO)
            | ((with_reducible refine wpl_load ?_); refine wpList_load_box rfl (by (first | rfl | (simp only [Region.wanted, yielded, *]; go_simp; done) | (simp [Region.wanted, yielded, *]; done) | fail)) hO rfl _ (by (first | exact at0 | exact at1 | exact at2 | exact at3)) (by rfl) (by simp only [Act.put, zA, zB, zC]; rfl) ?_)
            | ((with_reducible refine wpl_load ?_); refine wpList_load_field rfl (by (first | rfl | (simp only [Region.wanted, yielded, *]; go_simp; done) | (simp [Region.wanted, yielded, *]; done) | fail)) hO rfl _ (by (first | exact at0 | exact at1 | exact at2 | exact at3)) (by rfl) (by simp only [Act.put, zA, zB, zC]; rfl) ?_)
            | ((with_reducible refine wpl_store ?_); refine wpList_store_box rfl (by rfl) hO rfl _ (by (first | exact at0 | exact at1 | exact at2 | exact at3)) rfl (by rfl) (by rfl) (by rfl) (by rfl) (by rfl) ?_; clear hO; intro u hO; simp only [zC, zB] at hO)
            | ((with_reducible refine wpl_store ?_); refine wpList_store_field rfl (by rfl) hO rfl _ (by (first | exact at0 | exact at1 | exact at2 | exact at3)) (zM rfl) (by simp only [Act.eval, zJ, zF, zD, zE, zP]; rfl) (by rfl) (by rfl) (by rfl) ?_; clear hO; intro u hO; simp only [zC, zB] at hO)
            | fail)
          go_meet
          case rel => exact ⟨by rw [← HS1'.out, if_pos (by omega)], hO⟩
      case rest =>
      clear hO HS1'
      obtain ⟨rfl, hO⟩ := hcut
      have w3 : (S1 ++ lb : ByteArray).size = S1.size + lb.size := ba_size _ _
      go_upto_if 28 with (first
        | ((with_reducible refine wpl_load ?_); refine wpList_load_field rfl (by rfl) hO rfl _ (by exact at0) (by rfl) (by simp only [Act.put, zA, zB, zC]; rfl) ?_)
        | fail)
      go_cut [4] from 25 to 36 (fun s u => s = .string (S1 ++ lb) ∧ Own w [box b0 29 [.int .i64 k, .slice Ai is.length ci, .slice Ap ps.length cp, .slice An ns.length cn, .slice Ac cs.length cc, .slice Al ls.length cl, .int .i64 c, .int .i64 e]] u)
      case first =>
        by_cases f1 : 0 < ns.length
        · obtain ⟨bn, on, rfl, hbn, g0, hmn⟩ := HNX.out f1
          have i2 : (m : Int) < (ns.length : Int) := by omega
          have e0 := (hO.old hbn).trans g0
          clear hmn hbn g0
          go_wp2_with (first
            | ((with_reducible refine (CL _).mono ?_); rintro e u ⟨rfl, hb⟩; (replace hO := hO.step hb; clear hb))
            | ((with_reducible refine wpl_load ?_); refine wpList_load_field rfl (by rfl) hO rfl _ (by exact at0) (by rfl) (by simp only [Act.put, zA, zB, zC]; rfl) ?_)
            | fail)
          go_meet
          case rel => exact ⟨rfl, hO⟩
        · have hz := HNZ.out f1
          subst hz
          go_wp2_with (first
            | ((with_reducible refine wpl_alloc ?_); refine wpList_alloc_own rfl (by rfl) hO rfl (fun b => by simp only [Act.put, zA, zB, zC]; rfl) ?_; (first | (refine nm 0 rfl ?_; clear hO; intro b0 u hO) | (refine nm 1 rfl ?_; clear hO; intro b1 u hO) | (refine nm 2 rfl ?_; clear hO; intro b2 u hO) | (refine nm 3 rfl ?_; clear hO; intro b3 u hO)); simp only [zL, zK] at hO)
            | ((with_reducible refine wpl_box ?_); refine wpList_box_own rfl (by rfl) hO rfl rfl (fun b => by simp only [Act.put, zA, zB, zC]; rfl) ?_; (first | (refine nm 0 rfl ?_; clear hO; intro b0 u hO) | (refine nm 1 rfl ?_; clear hO; intro b1 u hO) | (refine nm 2 rfl ?_; clear hO; intro b2 u hO) | (refine nm 3 rfl ?_; clear hO; intro b3 u hO)); simp only [zL, zK] at hO)
            | ((with_reducible refine wpl_load ?_); refine wpList_load_box rfl (by (first | rfl | (simp only [Region.wanted, yielded, *]; go_simp; done) | (simp [Region.wanted, yielded, *]; done) | fail)) hO rfl _ (by (first | exact at0 | exact at1 | exact at2 | exact at3)) (by rfl) (by simp only [Act.put, zA, zB, zC]; rfl) ?_)
            | ((with_reducible refine wpl_load ?_); refine wpList_load_field rfl (by (first | rfl | (simp only [Region.wanted, yielded, *]; go_simp; done) | (simp [Region.wanted, yielded, *]; done) | fail)) hO rfl _ (by (first | exact at0 | exact at1 | exact at2 | exact at3)) (by rfl) (by simp only [Act.put, zA, zB, zC]; rfl) ?_)
            | ((with_reducible refine wpl_store ?_); refine wpList_store_box rfl (by rfl) hO rfl _ (by (first | exact at0 | exact at1 | exact at2 | exact at3)) rfl (by rfl) (by rfl) (by rfl) (by rfl) (by rfl) ?_; clear hO; intro u hO; simp only [zC, zB] at hO)
            | ((with_reducible refine wpl_store ?_); refine wpList_store_field rfl (by rfl) hO rfl _ (by (first | exact at0 | exact at1 | exact at2 | exact at3)) (zM rfl) (by simp only [Act.eval, zJ, zF, zD, zE, zP]; rfl) (by rfl) (by rfl) (by rfl) ?_; clear hO; intro u hO; simp only [zC, zB] at hO)
            | fail)
          go_meet
          case rel => exact ⟨by rw [ba_nil], hO⟩
      case rest =>
      clear hO HNX HNZ
      obtain ⟨rfl, hO⟩ := hcut
      obtain ⟨S2, hS2⟩ : ∃ q, (S1 ++ lb : ByteArray) = q := ⟨_, rfl⟩
      have HS2 := Lib.hid hS2
      rw [hS2] at w3
      rw [hS2]
      clear hS2
      by_cases k4 : k = 4
      · have q4 : (k == 4) = true := by simp [k4]
        have hie := HI4.out k4
        have hmp : m < ps.length := by have := HLEN.out; rw [hie] at this; simp at this; omega
        have hpx := HPP.out _ (List.getElem_mem hmp)
        have hih := HIH.out _ (List.getElem_mem hmp) hpx
        have hfs := HFS.out _ (List.getElem_mem hmp)
        have hsz := szL_mem HPL.out hmp
        have HLM : Hid (L[m]'hlt = (lb ++ fmF (ps[m]'hmp) : ByteArray)) := Lib.hid (by
          have e1 := HLL.out
          have e2 : itemsP k is ns = [] := by rw [hie]; rfl
          rw [e2, List.nil_append] at e1
          subst e1
          rw [partsP_get (by rw [fmL_map, List.length_map]; exact hmp)]
          simp only [fmL_map, List.getElem_map]
          rw [HNMM.out, HLB.out])
        obtain ⟨x, hx⟩ : ∃ x, ps[m]'hmp = x := ⟨_, rfl⟩
        obtain ⟨xk, xi, xp, xn, xc, xl, xo, xe⟩ := x
        obtain ⟨b, off, rfl, hb, Bi, Bp, Bn, Bc, Bl, di, dp, dn, dc, dl, hrd, e0, e1, e2, e3, e4, e5, e6, e7⟩ := h2.ptc hO.below hmp hx
        rw [hx] at HLM hih hfs hsz
        have CF := fun u (hb : Below w.heap.size w u) => hih _ u (hrd.grow hb) hsz
        have zf : (fmF (.mk xk xi xp xn xc xl xo xe)).size ≤ 100000000000 := by omega
        have i3 : (m : Int) < (ps.length : Int) := by omega
        have HNE := Lib.hid (HNEXT.out lb _ HLM.out)
        obtain ⟨sh, hsh⟩ : ∃ q, fmF (.mk xk xi xp xn xc xl xo xe) = q := ⟨_, rfl⟩
        rw [hsh] at CF HNE zf
        have HNE2 : Hid (jnB L (m + 1) = (S2 ++ sh : ByteArray)) := Lib.hid (by rw [HNE.out, HS2.out])
        clear hie hmp hpx hih hfs hsz hx hsh HLM HNE HNEXT k4
        go_wp2_with (first
          | ((with_reducible refine (CF _ hO.below).mono ?_); rintro e u ⟨rfl, hb⟩; (replace hO := hO.step hb; clear hb))
          | ((with_reducible refine wpl_load ?_); refine wpList_load_field rfl (by rfl) hO rfl _ (by exact at0) (by rfl) (by simp only [Act.put, zA, zB, zC]; rfl) ?_)
          | fail)
        go_roundw
        case rel => exact ⟨m + 1, by omega, by go_num, by rw [HNE2.out], hO⟩
        case measure => simp [intOf]; omega
      · have q4 : (k == 4) = false := by simp [k4]
        have hpe := HP4.out k4
        have hmi : m < is.length := by have := HLEN.out; rw [hpe] at this; simp at this; omega
        have hx2 := HIT.out _ (List.getElem_mem hmi)
        have HLM : Hid (L[m]'hlt = (lb ++ shwI k (is[m]'hmi) : ByteArray)) := Lib.hid (by
          have e1 := HLL.out
          have e2 : partsP ns (fmL ps) = [] := by rw [hpe]; rfl
          rw [e2, List.append_nil] at e1
          subst e1
          rw [itemsP_get hmi, HNMM.out, HLB.out])
        obtain ⟨x, hx⟩ : ∃ x, is[m]'hmi = x := ⟨_, rfl⟩
        obtain ⟨b, off, rfl, hb, f0, f1, f2⟩ := h1.it (Below.refl _ _) hmi hx
        rw [hx] at hx2 HLM
        obtain ⟨xn, xd, xt⟩ := x
        simp only at f0 f1 f2
        have CS := fun u => spec_show k xn xd xt u hx2.1 hx2.2
        have zs := shwI_size hx2.1 hx2.2
        have i3 : (m : Int) < (is.length : Int) := by omega
        have HNE := Lib.hid (HNEXT.out lb _ HLM.out)
        obtain ⟨sh, hsh⟩ : ∃ q, shwI k ⟨xn, xd, xt⟩ = q := ⟨_, rfl⟩
        rw [hsh] at CS HNE zs
        have HNE2 : Hid (jnB L (m + 1) = (S2 ++ sh : ByteArray)) := Lib.hid (by rw [HNE.out, HS2.out])
        clear hpe hmi hx2 hx hsh HLM HNE HNEXT k4
        go_wp2_with (first
          | ((with_reducible refine wpl_load ?_); refine wpList_load_field rfl (by rfl) hO rfl _ (by exact at0) (by rfl) (by simp only [Act.put, zA, zB, zC]; rfl) ?_)
          | fail)
        refine J.wp_region_c (n := 121) [0, 1, 2, 3, 4, 5, 6, 7, 8, 9] [] (deps := fun i => [[], [], [1], [], [3], [], [3, 4, 5], [3, 4, 5, 6], [1, 2, 3, 4, 5, 6, 7], [0, 1, 2, 3, 4, 5, 6, 7, 8], []].getD i []) (fun _ _ _ => True) (r := 1) (lst := #[true, true, true, true, true, true, true, true, true, true, false]) (by kernel_rfl) (by kernel_rfl) (by kernel_rfl) rfl (by decide) (by kernel_rfl) hO ?_
        refine J.Chain.cons (by rfl) (by rfl) (fun M u hO K hK => by (simp only [wp_at_zero, wp_at_succ]; go_step; exact hK _ hO)) (by simp only [J.putL, zI, zG, zH, J.dstOf, zF, zD, zE, zS, zQ, zR, Act.put, zA, zB, zC]; rfl) ?_
        refine J.Chain.cons (by rfl) (by rfl) (fun M u hO K hK => by (simp only [wp_at_zero, wp_at_succ]; go_step; exact hK _ hO)) (by simp only [J.putL, zI, zG, zH, J.dstOf, zF, zD, zE, zS, zQ, zR, Act.put, zA, zB, zC]; rfl) ?_
        refine J.Chain.cons (by rfl) (by rfl) (fun M u hO K hK => by (exact wp_load_field hO rfl rfl _ (by exact at0) (by rfl) (by rfl) (hK _ hO))) (by simp only [J.putL, zI, zG, zH, J.dstOf, zF, zD, zE, zS, zQ, zR, Act.put, zA, zB, zC]; rfl) ?_
        refine J.Chain.cons (by rfl) (by rfl) (fun M u hO K hK => by (simp only [wp_at_zero, wp_at_succ]; go_step; exact hK _ hO)) (by simp only [J.putL, zI, zG, zH, J.dstOf, zF, zD, zE, zS, zQ, zR, Act.put, zA, zB, zC]; rfl) ?_
        refine J.Chain.cons (by rfl) (by rfl) (fun M u hO K hK => by (exact wp_load_field hO rfl rfl _ (by exact at0) (by rfl) (by rfl) (hK _ hO))) (by simp only [J.putL, zI, zG, zH, J.dstOf, zF, zD, zE, zS, zQ, zR, Act.put, zA, zB, zC]; rfl) ?_
        refine J.Chain.cons (by rfl) (by rfl) (fun M u hO K hK => by (simp only [wp_at_zero, wp_at_succ]; go_step; exact hK _ hO)) (by simp only [J.putL, zI, zG, zH, J.dstOf, zF, zD, zE, zS, zQ, zR, Act.put, zA, zB, zC]; rfl) ?_
        refine J.Chain.cons (by rfl) (by rfl) (fun M u hO K hK => by (simp only [wp_at_zero, wp_at_succ]; go_step; exact hK _ hO)) (by simp only [J.putL, zI, zG, zH, J.dstOf, zF, zD, zE, zS, zQ, zR, Act.put, zA, zB, zC]; rfl) ?_
        refine J.Chain.cons (by rfl) (by rfl) (fun M u hO K hK => by ((have e0 := (hO.old hb).trans f0; have e1 := (hO.old hb).trans f1; have e2 := (hO.old hb).trans f2; simp only [wp_at_zero, wp_at_succ]; go_step; exact hK _ hO))) (by simp only [J.putL, zI, zG, zH, J.dstOf, zF, zD, zE, zS, zQ, zR, Act.put, zA, zB, zC]; rfl) ?_
        refine J.Chain.cons (by rfl) (by rfl) (fun M u hO K hK => by (simp only [wp_at_zero, wp_at_succ]; go_step; refine (CS _).mono ?_; rintro e u ⟨rfl, hb⟩; exact hK _ (hO.step hb))) (by simp only [J.putL, zI, zG, zH, J.dstOf, zF, zD, zE, zS, zQ, zR, Act.put, zA, zB, zC]; rfl) ?_
        refine J.Chain.cons (by rfl) (by rfl) (fun M u hO K hK => by (simp only [wp_at_zero, wp_at_succ]; go_step; exact hK _ hO)) (by simp only [J.putL, zI, zG, zH, J.dstOf, zF, zD, zE, zS, zQ, zR, Act.put, zA, zB, zC]; rfl) ?_
        refine J.Chain.nil ⟨?_, ?_⟩
        · exact J.Each.nil
        intro vs u hO hF
        clear hF
        simp only [List.flatMap_cons, List.flatMap_nil, List.append_nil, zL, zK] at hO
        simp only [J.putL]
        clear vs
        refine J.wpAny_one (i := 10) (by kernel_rfl) (by rfl) rfl fun K hK => ?_
        simp only [wp_at_zero, wp_at_succ]
        go_step
        refine hK _ _ ?_
        clear hK K
        refine wpAny_done (by kernel_rfl) ?_ _
        go_wp2_with (first
          | ((with_reducible refine wpl_alloc ?_); refine wpList_alloc_own rfl (by rfl) hO rfl (fun b => by simp only [Act.put, zA, zB, zC]; rfl) ?_; (first | (refine nm 0 rfl ?_; clear hO; intro b0 u hO) | (refine nm 1 rfl ?_; clear hO; intro b1 u hO) | (refine nm 2 rfl ?_; clear hO; intro b2 u hO) | (refine nm 3 rfl ?_; clear hO; intro b3 u hO)); simp only [zL, zK] at hO)
          | ((with_reducible refine wpl_box ?_); refine wpList_box_own rfl (by rfl) hO rfl rfl (fun b => by simp only [Act.put, zA, zB, zC]; rfl) ?_; (first | (refine nm 0 rfl ?_; clear hO; intro b0 u hO) | (refine nm 1 rfl ?_; clear hO; intro b1 u hO) | (refine nm 2 rfl ?_; clear hO; intro b2 u hO) | (refine nm 3 rfl ?_; clear hO; intro b3 u hO)); simp only [zL, zK] at hO)
          | ((with_reducible refine wpl_load ?_); refine wpList_load_box rfl (by (first | rfl | (simp only [Region.wanted, yielded, *]; go_simp; done) | (simp [Region.wanted, yielded, *]; done) | fail)) hO rfl _ (by (first | exact at0 | exact at1 | exact at2 | exact at3)) (by rfl) (by simp only [Act.put, zA, zB, zC]; rfl) ?_)
          | ((with_reducible refine wpl_load ?_); refine wpList_load_field rfl (by (first | rfl | (simp only [Region.wanted, yielded, *]; go_simp; done) | (simp [Region.wanted, yielded, *]; done) | fail)) hO rfl _ (by (first | exact at0 | exact at1 | exact at2 | exact at3)) (by rfl) (by simp only [Act.put, zA, zB, zC]; rfl) ?_)
          | ((with_reducible refine wpl_store ?_); refine wpList_store_box rfl (by rfl) hO rfl _ (by (first | exact at0 | exact at1 | exact at2 | exact at3)) rfl (by rfl) (by rfl) (by rfl) (by rfl) (by rfl) ?_; clear hO; intro u hO; simp only [zC, zB] at hO)
          | ((with_reducible refine wpl_store ?_); refine wpList_store_field rfl (by rfl) hO rfl _ (by (first | exact at0 | exact at1 | exact at2 | exact at3)) (zM rfl) (by simp only [Act.eval, zJ, zF, zD, zE, zP]; rfl) (by rfl) (by rfl) (by rfl) ?_; clear hO; intro u hO; simp only [zC, zB] at hO)
          | fail)
        go_roundw
        case rel => exact ⟨m + 1, by omega, by go_num, by rw [HNE2.out], hO⟩
        case measure => simp [intOf]; omega
    · have hmn : m = L.length := by omega
      subst hmn
      have HJn : Hid (jnB L L.length = jnB L L.length) := Lib.hid rfl
      obtain ⟨Jn, hJ⟩ : ∃ q, jnB L L.length = q := ⟨_, rfl⟩
      replace HJn := Lib.hid hJ
      rw [hJ] at zJ
      rw [hJ]
      obtain ⟨T1, hT1⟩ : ∃ q, txF ls = q := ⟨_, rfl⟩
      obtain ⟨T2, hT2⟩ : ∃ q, txF cs = q := ⟨_, rfl⟩
      rw [hT1] at HE2 PL y1
      rw [hT2] at HE2 PC y2
      have s1 : (⟨#[108, 105, 115, 116, 40]⟩ : ByteArray).size = 5 := rfl
      have s2 : (⟨#[41]⟩ : ByteArray).size = 1 := rfl
      have s3 : (⟨#[99, 40]⟩ : ByteArray).size = 2 := rfl
      have s4 : (⟨#[108, 105, 115, 116, 40]⟩ ++ Jn : ByteArray).size = 5 + Jn.size := by rw [ba_size, s1]
      have s5 : (⟨#[99, 40]⟩ ++ Jn : ByteArray).size = 2 + Jn.size := by rw [ba_size, s3]
      have t1 : (⟨#[44, 32, 108, 101, 118, 101, 108, 115, 32, 61, 32]⟩ : ByteArray).size = 11 := rfl
      have t2 : (⟨#[44, 32, 99, 108, 97, 115, 115, 32, 61, 32]⟩ : ByteArray).size = 10 := rfl
      have t3 : (⟨#[115, 116, 114, 117, 99, 116, 117, 114, 101, 40]⟩ : ByteArray).size = 10 := rfl
      clear hJ hT1 hT2 hlt hm HIT HPP HIH HN HFS HJZ HNN HLN h1 h2 h3 hst hln hn
      by_cases e5 : k = 5
      · subst e5
        have HF0 : Hid (S = ⟨#[60, 102, 117, 110, 99, 116, 105, 111, 110, 62]⟩) := Lib.hid (by rw [HP.out]; rfl)
        have i1 : (L.length : Int) < (n : Int) := by have h1 := HN5.out rfl; have h2 := HL5.out rfl; omega
        go_upto_if 60 with (first
          | ((with_reducible refine wpl_load ?_); refine wpList_load_field rfl (by rfl) hO rfl _ (by exact at0) (by rfl) (by simp only [Act.put, zA, zB, zC]; rfl) ?_)
          | fail)
        go_cut [4] from 58 to 84 (fun s u => s = .string S ∧ Own w [box b0 29 [.int .i64 (5 : Int), .slice Ai is.length ci, .slice Ap ps.length cp, .slice An ns.length cn, .slice Ac cs.length cc, .slice Al ls.length cl, .int .i64 c, .int .i64 e]] u)
        case first =>
          go_wp2_with (first
            | ((with_reducible refine wpl_alloc ?_); refine wpList_alloc_own rfl (by rfl) hO rfl (fun b => by simp only [Act.put, zA, zB, zC]; rfl) ?_; (first | (refine nm 0 rfl ?_; clear hO; intro b0 u hO) | (refine nm 1 rfl ?_; clear hO; intro b1 u hO) | (refine nm 2 rfl ?_; clear hO; intro b2 u hO) | (refine nm 3 rfl ?_; clear hO; intro b3 u hO)); simp only [zL, zK] at hO)
            | ((with_reducible refine wpl_box ?_); refine wpList_box_own rfl (by rfl) hO rfl rfl (fun b => by simp only [Act.put, zA, zB, zC]; rfl) ?_; (first | (refine nm 0 rfl ?_; clear hO; intro b0 u hO) | (refine nm 1 rfl ?_; clear hO; intro b1 u hO) | (refine nm 2 rfl ?_; clear hO; intro b2 u hO) | (refine nm 3 rfl ?_; clear hO; intro b3 u hO)); simp only [zL, zK] at hO)
            | ((with_reducible refine wpl_load ?_); refine wpList_load_box rfl (by (first | rfl | (simp only [Region.wanted, yielded, *]; go_simp; done) | (simp [Region.wanted, yielded, *]; done) | fail)) hO rfl _ (by (first | exact at0 | exact at1 | exact at2 | exact at3)) (by rfl) (by simp only [Act.put, zA, zB, zC]; rfl) ?_)
            | ((with_reducible refine wpl_load ?_); refine wpList_load_field rfl (by (first | rfl | (simp only [Region.wanted, yielded, *]; go_simp; done) | (simp [Region.wanted, yielded, *]; done) | fail)) hO rfl _ (by (first | exact at0 | exact at1 | exact at2 | exact at3)) (by rfl) (by simp only [Act.put, zA, zB, zC]; rfl) ?_)
            | ((with_reducible refine wpl_store ?_); refine wpList_store_box rfl (by rfl) hO rfl _ (by (first | exact at0 | exact at1 | exact at2 | exact at3)) rfl (by rfl) (by rfl) (by rfl) (by rfl) (by rfl) ?_; clear hO; intro u hO; simp only [zC, zB] at hO)
            | ((with_reducible refine wpl_store ?_); refine wpList_store_field rfl (by rfl) hO rfl _ (by (first | exact at0 | exact at1 | exact at2 | exact at3)) (zM rfl) (by simp only [Act.eval, zJ, zF, zD, zE, zP]; rfl) (by rfl) (by rfl) (by rfl) ?_; clear hO; intro u hO; simp only [zC, zB] at hO)
            | fail)
          go_meet
          case rel => exact ⟨congrArg Value.string HF0.out.symm, hO⟩
        case rest =>
        clear hO HF0 HP
        obtain ⟨rfl, hO⟩ := hcut
        have l0 : ls.length = 0 := HL0.out (by decide)
        have i1 : ¬ 0 < ls.length := by omega
        by_cases c0 : cs.length = 0
        · have i2 : ¬ 0 < cs.length := by omega
          have HF : Hid (Y = S) := Lib.hid (by rw [HE2.out, if_pos ⟨l0, c0⟩])
          clear HE2 l0 c0 TL TC PL PC
          go_wp2_with (first
            | ((with_reducible refine wpl_load ?_); refine wpList_load_field rfl (by rfl) hO rfl _ (by exact at0) (by rfl) (by simp only [Act.put, zA, zB, zC]; rfl) ?_)
            | fail)
          go_ret
          exact ⟨ret_str HF.out.symm, hO.below⟩
        · have i2 : 0 < cs.length := by omega
          have HF : Hid (Y = (⟨#[115, 116, 114, 117, 99, 116, 117, 114, 101, 40]⟩ ++ (S ++ ⟨#[44, 32, 99, 108, 97, 115, 115, 32, 61, 32]⟩ ++ T2) ++ ⟨#[41]⟩ : ByteArray)) := Lib.hid (by rw [HE2.out, if_neg (by omega), if_pos i2, if_neg i1])
          have m1 : (S ++ ⟨#[44, 32, 99, 108, 97, 115, 115, 32, 61, 32]⟩ : ByteArray).size = S.size + 10 := by rw [ba_size, t2]
          have m2 : (S ++ ⟨#[44, 32, 99, 108, 97, 115, 115, 32, 61, 32]⟩ ++ T2 : ByteArray).size = S.size + 10 + T2.size := by rw [ba_size, m1]
          have m3 : (⟨#[115, 116, 114, 117, 99, 116, 117, 114, 101, 40]⟩ ++ (S ++ ⟨#[44, 32, 99, 108, 97, 115, 115, 32, 61, 32]⟩ ++ T2) : ByteArray).size = 10 + (S.size + 10 + T2.size) := by rw [ba_size, m2, t3]
          have PC' := PC (.inr i2)
          clear HE2 l0 c0 TL PL PC
          go_wp2_with (first
            | ((with_reducible refine wpl_load ?_); refine wpList_load_field rfl (by rfl) hO rfl _ (by exact at0) (by rfl) (by simp only [Act.put, zA, zB, zC]; rfl) ?_)
            | fail)
          refine (TC _ hO.below).mono ?_
          rintro e9 u ⟨C1, C2, C3, C4, C5, r1, r2, r3, r4, r5, F, rfl, hvo, hb9⟩
          replace hO := hO.call hb9
          clear hb9
          simp only [List.cons_append, List.nil_append] at hO
          go_wp2_with (first
            | ((with_reducible refine (PC' _ _ (hO.rdp 0 rfl hvo)).mono ?_); rintro e u ⟨rfl, hb⟩; (replace hO := hO.step hb; clear hb))
            | ((with_reducible refine wpl_load ?_); refine wpList_load_field rfl (by rfl) hO rfl _ (by exact at1) (by rfl) (by simp only [Act.put, zA, zB, zC]; rfl) ?_)
            | fail)
          go_ret
          exact ⟨ret_str HF.out.symm, hO.below⟩
      · have q5 : (k == 5) = false := by simp [e5]
        have hnL := HNV.out e5
        have i1' : ¬ (L.length : Int) < (n : Int) := by omega
        have HNL := Lib.hid hnL
        clear hnL
        go_upto_if 60 with (first
          | ((with_reducible refine wpl_load ?_); refine wpList_load_field rfl (by rfl) hO rfl _ (by exact at0) (by rfl) (by simp only [Act.put, zA, zB, zC]; rfl) ?_)
          | fail)
        go_cut [4] from 58 to 84 (fun s u => s = .string S ∧ Own w [box b0 29 [.int .i64 k, .slice Ai is.length ci, .slice Ap ps.length cp, .slice An ns.length cn, .slice Ac cs.length cc, .slice Al ls.length cl, .int .i64 c, .int .i64 e]] u)
        case first =>
          by_cases k4 : k = 4
          · have q4 : (k == 4) = true := by simp [k4]
            have HF0 : Hid (S = (⟨#[108, 105, 115, 116, 40]⟩ ++ Jn ++ ⟨#[41]⟩ : ByteArray)) := Lib.hid (by
              rw [HP.out]
              unfold plnF
              rw [if_neg e0, if_neg e5, if_neg (by omega), if_neg (by omega), if_pos k4, HJn.out])
            clear k4 HP
            go_wp2_with (first
              | ((with_reducible refine wpl_load ?_); refine wpList_load_field rfl (by rfl) hO rfl _ (by exact at0) (by rfl) (by simp only [Act.put, zA, zB, zC]; rfl) ?_)
              | fail)
            go_meet
            case rel => exact ⟨congrArg Value.string HF0.out.symm, hO⟩
          · have q4 : (k == 4) = false := by simp [k4]
            have hpe := HP4.out k4
            have hLi : L.length = is.length := by have := HLEN.out; rw [hpe] at this; simpa using this
            have k3 : k ≤ 3 := by omega
            have HLi := Lib.hid hLi
            have hLE : itemsP k is ns = L := by
              have e1 := HLL.out
              have e2 : partsP ns (fmL ps) = [] := by rw [hpe]; rfl
              rw [e2, List.append_nil] at e1
              exact e1
            have HLE := Lib.hid hLE
            clear hpe hLi hLE
            by_cases n0 : is.length = 0
            · have HF0 : Hid (S = emS k) := Lib.hid (by
                rw [HP.out]
                unfold plnF
                rw [if_neg e0, if_neg e5, if_pos ⟨k3, n0⟩])
              have qn : ((n : Int) == 0) = true := by have h1 := HNL.out; have h2 := HLi.out; simp; omega
              clear HP n0 HE2 TL TC PL PC
              obtain rfl | rfl | rfl : k = 1 ∨ k = 2 ∨ k = 3 := by omega
              all_goals
                go_wp2_with (first
                  | ((with_reducible refine wpl_load ?_); refine wpList_load_field rfl (by rfl) hO rfl _ (by (first | exact at0 | exact at1 | fail)) (by rfl) (by simp only [Act.put, zA, zB, zC]; rfl) ?_)
                  | ((with_reducible refine wpl_build ?_); refine wpList_build_list (cs := [.string ⟨#[]⟩, .string ⟨#[108, 111, 103, 105, 99, 97, 108, 40, 48, 41]⟩, .string ⟨#[110, 117, 109, 101, 114, 105, 99, 40, 48, 41]⟩, .string ⟨#[99, 104, 97, 114, 97, 99, 116, 101, 114, 40, 48, 41]⟩]) hO rfl (by rfl) [.string ⟨#[]⟩, .string ⟨#[108, 111, 103, 105, 99, 97, 108, 40, 48, 41]⟩, .string ⟨#[110, 117, 109, 101, 114, 105, 99, 40, 48, 41]⟩, .string ⟨#[99, 104, 97, 114, 97, 99, 116, 101, 114, 40, 48, 41]⟩] (by rfl) (by rfl) rfl (zM rfl) (by rfl) rfl (fun b => by simp only [Act.put, zA, zB, zC]; rfl) ?_; clear hO; intro bb u hO; simp only [zL, zK] at hO)
                  | fail)
                go_meet
                case rel => exact ⟨congrArg Value.string HF0.out.symm, hO.pick [0] (by decide)⟩
            · have qn : ((n : Int) == 0) = false := by have h1 := HNL.out; have h2 := HLi.out; simp; omega
              by_cases n1 : is.length = 1 ∧ ns.length = 0
              · have HF0 : Hid (S = Jn) := Lib.hid (by
                  rw [HP.out]
                  unfold plnF
                  rw [if_neg e0, if_neg e5, if_neg (fun h => n0 h.2), if_pos ⟨k3, n1.1, n1.2⟩, ← HJn.out]
                  have h2 := HLi.out
                  have h3 : L.length = 1 := by omega
                  rw [h3, jnB_one]
                  have h4 : 0 < is.length := by omega
                  have h5 : L.getD 0 ⟨#[]⟩ = L[0]'(by omega) := by simp [List.getD_eq_getElem?_getD, h3]
                  have h6 := HLE.out
                  subst h6
                  rw [h5, itemsP_get h4]
                  have h7 : ns = [] := List.length_eq_zero_iff.1 n1.2
                  have h8 : labF (ns.getD 0 ⟨#[]⟩) = ⟨#[]⟩ := by
                    rw [h7]
                    show labF ⟨#[]⟩ = _
                    unfold labF
                    rw [if_pos (by simp [emptyB])]
                  rw [h8, nil_ba]
                  simp [List.getD_eq_getElem?_getD, h4])
                have g1 : ¬ (1 : Int) < (n : Int) := by have h1 := HNL.out; have h2 := HLi.out; omega
                have f1 : ¬ 0 < ns.length := by omega
                clear HP n0 n1
                go_wp2_with (first
                  | ((with_reducible refine wpl_load ?_); refine wpList_load_field rfl (by rfl) hO rfl _ (by exact at0) (by rfl) (by simp only [Act.put, zA, zB, zC]; rfl) ?_)
                  | fail)
                go_meet
                case rel => exact ⟨congrArg Value.string HF0.out.symm, hO⟩
              · have HF0 : Hid (S = (⟨#[99, 40]⟩ ++ Jn ++ ⟨#[41]⟩ : ByteArray)) := Lib.hid (by
                  rw [HP.out]
                  unfold plnF
                  rw [if_neg e0, if_neg e5, if_neg (fun h => n0 h.2), if_neg (fun h => n1 h.2), if_neg k4, HJn.out])
                by_cases g : 1 < is.length
                · have g1 : (1 : Int) < (n : Int) := by have h1 := HNL.out; have h2 := HLi.out; omega
                  clear HP n0 n1
                  go_wp2_with (first
                    | ((with_reducible refine wpl_load ?_); refine wpList_load_field rfl (by rfl) hO rfl _ (by exact at0) (by rfl) (by simp only [Act.put, zA, zB, zC]; rfl) ?_)
                    | fail)
                  go_meet
                  case rel => exact ⟨congrArg Value.string HF0.out.symm, hO⟩
                · have g1 : ¬ (1 : Int) < (n : Int) := by have h1 := HNL.out; have h2 := HLi.out; omega
                  have f1 : 0 < ns.length := by omega
                  clear HP n0 n1
                  go_wp2_with (first
                    | ((with_reducible refine wpl_load ?_); refine wpList_load_field rfl (by rfl) hO rfl _ (by exact at0) (by rfl) (by simp only [Act.put, zA, zB, zC]; rfl) ?_)
                    | fail)
                  go_meet
                  case rel => exact ⟨congrArg Value.string HF0.out.symm, hO⟩
        case rest =>
        clear hO HP
        obtain ⟨rfl, hO⟩ := hcut
        by_cases l0 : ls.length = 0
        · have i1 : ¬ 0 < ls.length := by omega
          by_cases c0 : cs.length = 0
          · have i2 : ¬ 0 < cs.length := by omega
            have HF : Hid (Y = S) := Lib.hid (by rw [HE2.out, if_pos ⟨l0, c0⟩])
            clear HE2 l0 c0 TL TC PL PC
            go_wp2_with (first
              | ((with_reducible refine wpl_load ?_); refine wpList_load_field rfl (by rfl) hO rfl _ (by exact at0) (by rfl) (by simp only [Act.put, zA, zB, zC]; rfl) ?_)
              | fail)
            go_ret
            exact ⟨ret_str HF.out.symm, hO.below⟩
          · have i2 : 0 < cs.length := by omega
            have HF : Hid (Y = (⟨#[115, 116, 114, 117, 99, 116, 117, 114, 101, 40]⟩ ++ (S ++ ⟨#[44, 32, 99, 108, 97, 115, 115, 32, 61, 32]⟩ ++ T2) ++ ⟨#[41]⟩ : ByteArray)) := Lib.hid (by rw [HE2.out, if_neg (by omega), if_pos i2, if_neg i1])
            have m1 : (S ++ ⟨#[44, 32, 99, 108, 97, 115, 115, 32, 61, 32]⟩ : ByteArray).size = S.size + 10 := by rw [ba_size, t2]
            have m2 : (S ++ ⟨#[44, 32, 99, 108, 97, 115, 115, 32, 61, 32]⟩ ++ T2 : ByteArray).size = S.size + 10 + T2.size := by rw [ba_size, m1]
            have m3 : (⟨#[115, 116, 114, 117, 99, 116, 117, 114, 101, 40]⟩ ++ (S ++ ⟨#[44, 32, 99, 108, 97, 115, 115, 32, 61, 32]⟩ ++ T2) : ByteArray).size = 10 + (S.size + 10 + T2.size) := by rw [ba_size, m2, t3]
            have PC' := PC (.inr i2)
            clear HE2 l0 c0 TL PL PC
            go_wp2_with (first
              | ((with_reducible refine wpl_load ?_); refine wpList_load_field rfl (by rfl) hO rfl _ (by exact at0) (by rfl) (by simp only [Act.put, zA, zB, zC]; rfl) ?_)
              | fail)
            refine (TC _ hO.below).mono ?_
            rintro e9 u ⟨C1, C2, C3, C4, C5, r1, r2, r3, r4, r5, F, rfl, hvo, hb9⟩
            replace hO := hO.call hb9
            clear hb9
            simp only [List.cons_append, List.nil_append] at hO
            go_wp2_with (first
              | ((with_reducible refine (PC' _ _ (hO.rdp 0 rfl hvo)).mono ?_); rintro e u ⟨rfl, hb⟩; (replace hO := hO.step hb; clear hb))
              | ((with_reducible refine wpl_load ?_); refine wpList_load_field rfl (by rfl) hO rfl _ (by exact at1) (by rfl) (by simp only [Act.put, zA, zB, zC]; rfl) ?_)
              | fail)
            go_ret
            exact ⟨ret_str HF.out.symm, hO.below⟩
        · have i1 : 0 < ls.length := by omega
          have m1 : (S ++ ⟨#[44, 32, 108, 101, 118, 101, 108, 115, 32, 61, 32]⟩ : ByteArray).size = S.size + 11 := by rw [ba_size, t1]
          have m2 : (S ++ ⟨#[44, 32, 108, 101, 118, 101, 108, 115, 32, 61, 32]⟩ ++ T1 : ByteArray).size = S.size + 11 + T1.size := by rw [ba_size, m1]
          have PL' := PL (.inl i1)
          have PC' := PC (.inl i1)
          clear PL PC
          by_cases c0 : cs.length = 0
          · have i2 : ¬ 0 < cs.length := by omega
            have HF : Hid (Y = (⟨#[115, 116, 114, 117, 99, 116, 117, 114, 101, 40]⟩ ++ (S ++ ⟨#[44, 32, 108, 101, 118, 101, 108, 115, 32, 61, 32]⟩ ++ T1) ++ ⟨#[41]⟩ : ByteArray)) := Lib.hid (by rw [HE2.out, if_neg (by omega), if_neg i2])
            have m3 : (⟨#[115, 116, 114, 117, 99, 116, 117, 114, 101, 40]⟩ ++ (S ++ ⟨#[44, 32, 108, 101, 118, 101, 108, 115, 32, 61, 32]⟩ ++ T1) : ByteArray).size = 10 + (S.size + 11 + T1.size) := by rw [ba_size, m2, t3]
            clear HE2 l0 c0 TC PC'
            go_wp2_with (first
              | ((with_reducible refine wpl_load ?_); refine wpList_load_field rfl (by rfl) hO rfl _ (by exact at0) (by rfl) (by simp only [Act.put, zA, zB, zC]; rfl) ?_)
              | fail)
            refine (TL _ hO.below).mono ?_
            rintro e9 u ⟨C1, C2, C3, C4, C5, r1, r2, r3, r4, r5, F, rfl, hvo, hb9⟩
            replace hO := hO.call hb9
            clear hb9
            simp only [List.cons_append, List.nil_append] at hO
            go_wp2_with (first
              | ((with_reducible refine (PL' _ _ (hO.rdp 0 rfl hvo)).mono ?_); rintro e u ⟨rfl, hb⟩; (replace hO := hO.step hb; clear hb))
              | ((with_reducible refine wpl_load ?_); refine wpList_load_field rfl (by rfl) hO rfl _ (by exact at1) (by rfl) (by simp only [Act.put, zA, zB, zC]; rfl) ?_)
              | fail)
            go_ret
            exact ⟨ret_str HF.out.symm, hO.below⟩
          · have i2 : 0 < cs.length := by omega
            have HF : Hid (Y = (⟨#[115, 116, 114, 117, 99, 116, 117, 114, 101, 40]⟩ ++ (S ++ ⟨#[44, 32, 108, 101, 118, 101, 108, 115, 32, 61, 32]⟩ ++ T1 ++ ⟨#[44, 32, 99, 108, 97, 115, 115, 32, 61, 32]⟩ ++ T2) ++ ⟨#[41]⟩ : ByteArray)) := Lib.hid (by rw [HE2.out, if_neg (by omega), if_pos i2, if_pos i1])
            have m3 : (S ++ ⟨#[44, 32, 108, 101, 118, 101, 108, 115, 32, 61, 32]⟩ ++ T1 ++ ⟨#[44, 32, 99, 108, 97, 115, 115, 32, 61, 32]⟩ : ByteArray).size = S.size + 11 + T1.size + 10 := by rw [ba_size, m2, t2]
            have m4 : (S ++ ⟨#[44, 32, 108, 101, 118, 101, 108, 115, 32, 61, 32]⟩ ++ T1 ++ ⟨#[44, 32, 99, 108, 97, 115, 115, 32, 61, 32]⟩ ++ T2 : ByteArray).size = S.size + 11 + T1.size + 10 + T2.size := by rw [ba_size, m3]
            have m5 : (⟨#[115, 116, 114, 117, 99, 116, 117, 114, 101, 40]⟩ ++ (S ++ ⟨#[44, 32, 108, 101, 118, 101, 108, 115, 32, 61, 32]⟩ ++ T1 ++ ⟨#[44, 32, 99, 108, 97, 115, 115, 32, 61, 32]⟩ ++ T2) : ByteArray).size = 10 + (S.size + 11 + T1.size + 10 + T2.size) := by rw [ba_size, m4, t3]
            clear HE2 l0 c0
            go_wp2_with (first
              | ((with_reducible refine wpl_load ?_); refine wpList_load_field rfl (by rfl) hO rfl _ (by exact at0) (by rfl) (by simp only [Act.put, zA, zB, zC]; rfl) ?_)
              | fail)
            refine (TL _ hO.below).mono ?_
            rintro e9 u ⟨C1, C2, C3, C4, C5, r1, r2, r3, r4, r5, F, rfl, hvo, hb9⟩
            replace hO := hO.call hb9
            clear hb9
            simp only [List.cons_append, List.nil_append] at hO
            go_wp2_with (first
              | ((with_reducible refine (PL' _ _ (hO.rdp 0 rfl hvo)).mono ?_); rintro e u ⟨rfl, hb⟩; (replace hO := hO.step hb; clear hb))
              | ((with_reducible refine wpl_load ?_); refine wpList_load_field rfl (by rfl) hO rfl _ (by exact at1) (by rfl) (by simp only [Act.put, zA, zB, zC]; rfl) ?_)
              | fail)
            clear hvo
            refine (TC _ hO.below).mono ?_
            rintro e9 u ⟨C1, C2, C3, C4, C5, r1, r2, r3, r4, r5, F, rfl, hvo, hb9⟩
            replace hO := hO.call hb9
            clear hb9
            simp only [List.cons_append, List.nil_append] at hO
            go_wp2_with (first
              | ((with_reducible refine (PC' _ _ (hO.rdp 0 rfl hvo)).mono ?_); rintro e u ⟨rfl, hb⟩; (replace hO := hO.step hb; clear hb))
              | ((with_reducible refine wpl_load ?_); refine wpList_load_field rfl (by rfl) hO rfl _ (by exact at2) (by rfl) (by simp only [Act.put, zA, zB, zC]; rfl) ?_)
              | fail)
            go_ret
            exact ⟨ret_str HF.out.symm, hO.below⟩

theorem spec_txt : PTxt := fun ss h hl vs w hv => by
  have h1 := spec_fmt1 3 (ss.map txI) [] [] [] [] 0 0 (by simp) (by simp) (tx_valid h hl).1 vs w hv (tx_valid h hl).2.2
  have e : fmF (.mk 3 (ss.map txI) [] [] [] [] 0 0) = txF ss := by
    rw [fmF_eq]
    show wrpF [] [] _ = _
    unfold wrpF
    rw [if_pos ⟨rfl, rfl⟩]
    exact fmP_tx ss
  rw [e] at h1
  exact h1
theorem spec_ful (t : VT) : PFmt t := by
  induction t using VT.ind with
  | _ k is ps ns cs ls c e ih => exact spec_fmt1 k is ps ns cs ls c e ih (fun _ => spec_txt)

theorem spec_fv (t : VT) (vs : List Value) (w : World) (hv : RdV w t vs) (hz : szV t ≤ 1048576) : Calls Try.prog 43 #[.agg vs.toArray] w fun e w' => e = .returned (.string (fvS t)) ∧ Below w.heap.size w w' := by
  have CA := fun u (hb : Below w.heap.size w u) => spec_isVec t _ u (hv.grow hb) hz
  have CF := fun (hq : isV t = true) u (hb : Below w.heap.size w u) => spec_ful t (isV_pv hq) _ u (hv.grow hb) hz
  have HE : Hid (fvS t = if isV t then fmF t else ⟨#[]⟩) := Lib.hid rfl
  obtain ⟨q, hq⟩ : ∃ q, isV t = q := ⟨_, rfl⟩
  rw [hq] at CA CF HE
  obtain ⟨xk, xi, xp, xn, xc, xl, xo, xe⟩ := t
  obtain ⟨Ai, Ap, An, Ac, Al, ci, cp, cn, cc, cl, pvs, rfl, _⟩ := hv.open
  clear hv hz hq
  cases q with
  | false =>
    go_enter Try.func43, Try.ntmps43
    have hO := Own.nil w
    go_wp2_with (first
      | ((with_reducible refine (CA _ hO.below).mono ?_); rintro e u ⟨rfl, hb⟩; (replace hO := hO.step hb; clear hb))
      | ((with_reducible refine wpl_box ?_); refine wpList_box_own rfl (by rfl) hO rfl rfl (fun b => by simp only [Act.put, zA, zB, zC]; rfl) ?_; (refine nm 0 rfl ?_; clear hO; intro b0 u hO); simp only [zL, zK] at hO)
      | ((with_reducible refine wpl_load ?_); refine wpList_load_box rfl (by rfl) hO rfl _ (by exact at0) (by rfl) (by simp only [Act.put, zA, zB, zC]; rfl) ?_)
      | fail)
    go_ret
    exact ⟨ret_str (by rw [HE.out]; rfl), hO.below⟩
  | true =>
    replace CF := fun u hb => CF rfl u hb
    go_enter Try.func43, Try.ntmps43
    have hO := Own.nil w
    go_wp2_with (first
      | ((with_reducible refine (CA _ hO.below).mono ?_); rintro e u ⟨rfl, hb⟩; (replace hO := hO.step hb; clear hb))
      | ((with_reducible refine (CF _ hO.below).mono ?_); rintro e u ⟨rfl, hb⟩; (replace hO := hO.step hb; clear hb))
      | ((with_reducible refine wpl_box ?_); refine wpList_box_own rfl (by rfl) hO rfl rfl (fun b => by simp only [Act.put, zA, zB, zC]; rfl) ?_; (refine nm 0 rfl ?_; clear hO; intro b0 u hO); simp only [zL, zK] at hO)
      | ((with_reducible refine wpl_load ?_); refine wpList_load_box rfl (by rfl) hO rfl _ (by exact at0) (by rfl) (by simp only [Act.put, zA, zB, zC]; rfl) ?_)
      | fail)
    go_ret
    exact ⟨ret_str (by rw [HE.out]; rfl), hO.below⟩

end Go.Proofs.Ytmofcbpabdbjlaa
