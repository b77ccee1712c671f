/-
  What is proved: what the reference's reader of vectors returns (l4Draw): some vector of a known size.
  Condition: codes of at most 1048576 bytes.
-/
import Derived.Deep.CutRange
import Derived.Test.YtmofcbpabdbjlaaGreatMz4
import Derived.Test.YtmofcbpabdbjlaaGreatMz8
import Derived.Test.YtmofcbpabdbjlaaGreatMz16
namespace Go.Proofs.YtmofcbpabdbjlaaGreat

set_option maxRecDepth 8000

open Go.RowKit Go.ChangeShapes Go.WideShapes Go.Deep

set_option linter.unusedVariables false

set_option linter.unusedSimpArgs false

/-- the end of a draw: an owned vector of a known size -/
def RetD (w0 : World) (Z : Nat) (R : List Res) (e : Ending) (w' : World) : Prop := ∃ (xk : Int) (xi : List It) (xp : List VT) (xn xc xl : List ByteArray) (xo xe : Int) (Ci Cp Cn Cc Cl : Option Addr) (ri rp rn rc rl : Nat) (F : List Res), e = .returned (.agg #[.int .i64 xk, .slice Ci xi.length ri, .slice Cp xp.length rp, .slice Cn xn.length rn, .slice Cc xc.length rc, .slice Cl xl.length rl, .int .i64 xo, .int .i64 xe]) ∧ (VO (.mk xk xi xp xn xc xl xo xe) [.int .i64 xk, .slice Ci xi.length ri, .slice Cp xp.length rp, .slice Cn xn.length rn, .slice Cc xc.length rc, .slice Cl xl.length rl, .int .i64 xo, .int .i64 xe] F ∧ szV (.mk xk xi xp xn xc xl xo xe) ≤ Z) ∧ Own w0 ([pack F] ++ R) w'

def J.freshD (Z : Nat) : Value × List Res → Prop := fun x => ∃ (xk : Int) (xi : List It) (xp : List VT) (xn xc xl : List ByteArray) (xo xe : Int) (Ci Cp Cn Cc Cl : Option Addr) (ri rp rn rc rl : Nat) (F : List Res), x = (.agg #[.int .i64 xk, .slice Ci xi.length ri, .slice Cp xp.length rp, .slice Cn xn.length rn, .slice Cc xc.length rc, .slice Cl xl.length rl, .int .i64 xo, .int .i64 xe], [pack F]) ∧ (VO (.mk xk xi xp xn xc xl xo xe) [.int .i64 xk, .slice Ci xi.length ri, .slice Cp xp.length rp, .slice Cn xn.length rn, .slice Cc xc.length rc, .slice Cl xl.length rl, .int .i64 xo, .int .i64 xe] F ∧ szV (.mk xk xi xp xn xc xl xo xe) ≤ Z)

def J.freshTx (zs : List ByteArray) : Value × List Res → Prop := fun x => ∃ y : ByteArray, x = (.string y, []) ∧ y ∈ zs

def Zd : Nat → Nat
  | 0 => 500
  | k + 1 => 6 * (1 + Zd k) + 500

theorem szL_appD (a b : List VT) : szL (a ++ b) = szL a + szL b := by
  induction a with
  | nil => simp [szL]
  | cons x a ih => simp [szL, ih, Nat.add_assoc]

theorem szI_bd {l : List It} {m : Nat} (hl : l.length = m) (h : ∀ x ∈ l, x.text.size ≤ 24) : szI l ≤ 25 * m := by
  have := itz_sh (z := 24) h
  unfold szI
  omega

theorem stz_bdD {l : List ByteArray} {z : Nat} (h : ∀ s ∈ l, s.size ≤ z) : stz l ≤ z * l.length := by
  induction l with
  | nil => simp [stz]
  | cons x l ih =>
    have h1 := h x (List.mem_cons_self)
    have h2 := ih (fun s hs => h s (List.mem_cons_of_mem _ hs))
    simp only [stz, List.length_cons, Nat.mul_succ]
    omega

theorem szS_bd {l : List ByteArray} {m : Nat} (hl : l.length ≤ m) (h : ∀ s ∈ l, s.size ≤ 24) : szS l ≤ 25 * m := by
  have := stz_bdD h
  unfold szS
  omega

def kdL : List Int := [1, 2, 2, 2, 3, 3, 4, 6, 0, 5, 2, 3]

def nnL : List Int := [1, 2, 3, 0, 1, 4, 2, 6]

theorem kd_cases : ∀ y ∈ kdL, y = 0 ∨ y = 5 ∨ y = 6 ∨ y = 4 ∨ y = 1 ∨ y = 2 ∨ y = 3 := by decide

theorem nn_cases : ∀ y ∈ nnL, 0 ≤ y ∧ y ≤ 6 := by decide

def nmL : List ByteArray := [⟨#[97]⟩, ⟨#[98]⟩, ⟨#[120]⟩, ⟨#[]⟩, ⟨#[97, 108]⟩, ⟨#[110, 32, 49]⟩, ⟨#[97, 108, 112, 104, 97]⟩, ⟨#[105, 102]⟩]

theorem nm_bd : ∀ y ∈ nmL, y.size ≤ 24 := by decide

def sqL : List ByteArray := [⟨#[115, 113, 117, 97, 114, 101]⟩, ⟨#[115, 104, 97, 112, 101]⟩]

theorem sq_bd : ∀ y ∈ sqL, y.size ≤ 24 := by decide

theorem cd_atom {w0 w : World} {A : Option Addr} {n c b : Nat} {l : List Int} {R : List Res} (k : Int) (m : Nat) (hm : m ≤ 100000) (h : Cod w0 A n l) (hO : Own w0 (cur b A n c :: R) w) :
    Calls Tryz.prog 16 #[.pointer (some ⟨b, 0, none⟩), .int .i64 k, .int .i64 (m : Int)] w fun e w' => ∃ is A' c', e = .returned (.agg #[.int .i64 k, .slice A' m c', .slice none 0 0, .slice none 0 0, .slice none 0 0, .slice none 0 0, .int .i64 0, .int .i64 0]) ∧ (List.length is = m ∧ ∀ x ∈ is, x.text.size ≤ 24) ∧ Own w0 ([row 35 3 (.slice A' m c') m (itc is)] ++ cur b A n c :: R) w' :=
  (cd_atomA k m hm h hO.pkR).mono fun e w' ⟨is, A', c', h1, h2, h3⟩ => ⟨is, A', c', h1, h2, Own.unR [_] h3⟩

theorem cd_factor {w0 w : World} {A : Option Addr} {n c b : Nat} {l : List Int} {R : List Res} (m : Nat) (hm : m ≤ 100000) (h : Cod w0 A n l) (hO : Own w0 (cur b A n c :: R) w) :
    Calls Tryz.prog 103 #[.pointer (some ⟨b, 0, none⟩), .int .i64 (m : Int)] w fun e w' => ∃ is ls A' c' Ac Al cc cl, e = .returned (.agg #[.int .i64 2, .slice A' m c', .slice none 0 0, .slice none 0 0, .slice Ac 1 cc, .slice Al (List.length ls) cl, .int .i64 0, .int .i64 0]) ∧ (List.length is = m ∧ (∀ x ∈ is, x.text.size ≤ 24) ∧ List.length ls ≤ 3 ∧ ∀ s ∈ ls, s.size ≤ 24) ∧ Own w0 ([row 35 3 (.slice A' m c') m (itc is), row 9 1 (.slice Ac 1 cc) 1 [.string facS], row 9 1 (.slice Al ls.length cl) ls.length (stc ls)] ++ cur b A n c :: R) w' :=
  (cd_factorA m hm h hO.pkR).mono fun e w' ⟨is, ls, A', c', Ac, Al, cc, cl, h1, h2, h3⟩ => ⟨is, ls, A', c', Ac, Al, cc, cl, h1, h2, Own.unR [_, _, _] h3⟩

set_option maxRecDepth 20000 in
set_option maxHeartbeats 8000000 in
theorem cd_drawA {w0 : World} {A : Option Addr} {n c b : Nat} {l : List Int} (h : Cod w0 A n l) (k : Nat) (hk : k ≤ 1000) (ih : ∀ j, k = j + 1 → ∀ (R : List Res) (w : World), Own w0 (cur b A n c :: R) w → Calls Tryz.prog 84 #[.pointer (some ⟨b, 0, none⟩), .int .i64 (j : Int)] w (RetD w0 (Zd j) (cur b A n c :: R))) (r : Res) (w : World) (hO : Own w0 [cur b A n c, r] w) :
    Calls Tryz.prog 84 #[.pointer (some ⟨b, 0, none⟩), .int .i64 (k : Int)] w (RetD w0 (Zd k) [cur b A n c, r]) := by
  skip
  go_enter Tryz.func84, Tryz.ntmps84
  go_wp2_with (first | ((with_reducible refine zac ?_); refine zal rfl hO rfl ?_; (refine nm 2 rfl ?_; clear hO; intro b2 u hO); simp only [zL, zK] at hO) | ((with_reducible refine zao ?_); refine zaj (cs := [.int .i64 (1), .int .i64 (2), .int .i64 (2), .int .i64 (2), .int .i64 (3), .int .i64 (3), .int .i64 (4), .int .i64 (6), .int .i64 (0), .int .i64 (5), .int .i64 (2), .int .i64 (3)]) hO rfl (by rfl) [.int .i64 (1), .int .i64 (2), .int .i64 (2), .int .i64 (2), .int .i64 (3), .int .i64 (3), .int .i64 (4), .int .i64 (6), .int .i64 (0), .int .i64 (5), .int .i64 (2), .int .i64 (3)] (by rfl) (by rfl) rfl (zM rfl) (by rfl) rfl (fun b => by simp only [Act.put, zA, zB, zC]; rfl) ?_; clear hO; intro bb u hO; simp only [zL, zK] at hO) | fail)
  refine (cd_pickInt kdL 12 rfl (by decide) (by decide) (List.mem_of_getElem? at2) h hO).mono ?_
  clear hO
  rintro e u ⟨kd, rfl, hkd, hO⟩
  go_wp2_with (first | ((with_reducible refine zao ?_); refine zaj (cs := [.int .i64 (1), .int .i64 (2), .int .i64 (3), .int .i64 (0), .int .i64 (1), .int .i64 (4), .int .i64 (2), .int .i64 (6)]) hO rfl (by rfl) [.int .i64 (1), .int .i64 (2), .int .i64 (3), .int .i64 (0), .int .i64 (1), .int .i64 (4), .int .i64 (2), .int .i64 (6)] (by rfl) (by rfl) rfl (zM rfl) (by rfl) rfl (fun b => by simp only [Act.put, zA, zB, zC]; rfl) ?_; clear hO; intro bb u hO; simp only [zL, zK] at hO) | fail)
  refine (cd_pickInt nnL 8 rfl (by decide) (by decide) (List.mem_of_getElem? at3) h hO).mono ?_
  clear hO
  rintro e u ⟨mm, rfl, hmm, hO⟩
  obtain ⟨h1, h2⟩ := nn_cases mm hmm
  obtain ⟨m, rfl⟩ := Int.eq_ofNat_of_zero_le h1
  have hm : m ≤ 6 := by omega
  replace hkd := Lib.hid (kd_cases kd hkd)
  have hZ0 : 500 ≤ Zd k := by
    cases k with
    | zero => exact Nat.le_refl _
    | succ j => show 500 ≤ 6 * (1 + Zd j) + 500; omega
  replace hZ0 := Lib.hid hZ0
  clear hmm h1 h2
  replace hO := hO.pick [0, 1, 2] (by decide)
  simp only [zN, zO, zE, zD] at hO
  go_upto_region 5 with (first | ((with_reducible refine zac ?_); refine zal rfl hO rfl ?_; (refine nm 3 rfl ?_; clear hO; intro b3 u hO); simp only [zL, zK] at hO) | ((with_reducible refine zab ?_); refine zsc rfl hO rfl _ (by exact at3) ?_; clear hO; intro u hO; simp only [zC, zB] at hO) | fail)
  rename_i K1 hK1 K0 hK0
  have tail0 : ∀ (k' : Int) (is : List It) (ps : List VT) (cs ls : List ByteArray) (Ai Ap Ac Al : Option Addr) (ci cp cc cl : Nat) (pvs : List (List Value)) (Ls : List (List Res)) (u : World) (u2 u3 u8 u9 u10 u11 u12 u13 u14 u15 u16 u17 u18 u19 u20 u21 u22 u23 u24 u25 u26 u27 u28 u29 u30 u31 u32 u33 u34 u35 u36 u37 u38 u39 u40 u41 u42 u43 u44 u45 u46 u47 u48 u49 u50 u51 u52 u53 u54 u55 u56 u57 u58 u59 u60 u61 u62 u63 u64 u65 u66 u67 u68 u69 u70 u71 u72 u73 u74 u75 u76 u77 u78 u79 u80 u81 u82 u83 u84 u85 u86 u87 u88 u89 u90 : Value), VL ps pvs Ls → Hid (szI is + szL ps + szS cs + szS ls + 200 ≤ Zd k) → Own w0 [cur b A n c, r, box b2 28 [.int .i64 0, .slice none 0 0, .slice none 0 0, .slice none 0 0, .slice none 0 0, .slice none 0 0, .int .i64 0, .int .i64 0], box b3 28 [.int .i64 k', .slice Ai is.length ci, .slice Ap ps.length cp, .slice none 0 0, .slice Ac cs.length cc, .slice Al ls.length cl, .int .i64 0, .int .i64 0], row 35 3 (.slice Ai is.length ci) is.length (itc is), row 28 8 (.slice Ap ps.length cp) ps.length pvs.flatten, row 9 1 (.slice Ac cs.length cc) cs.length (stc cs), row 9 1 (.slice Al ls.length cl) ls.length (stc ls), pack Ls.flatten] u → K1 ⟨(.pointer (some ⟨b, 0, none⟩) :: .int .i64 (k : Int) :: u2 :: u3 :: .pointer (some ⟨b2, 0, none⟩) :: .int .i64 kd :: .int .i64 (m : Int) :: .pointer (some ⟨b3, 0, none⟩) :: u8 :: u9 :: u10 :: u11 :: u12 :: u13 :: u14 :: u15 :: u16 :: u17 :: u18 :: u19 :: u20 :: u21 :: u22 :: u23 :: u24 :: u25 :: u26 :: u27 :: u28 :: u29 :: u30 :: u31 :: u32 :: u33 :: u34 :: u35 :: u36 :: u37 :: u38 :: u39 :: u40 :: u41 :: u42 :: u43 :: u44 :: u45 :: u46 :: u47 :: u48 :: u49 :: u50 :: u51 :: u52 :: u53 :: u54 :: u55 :: u56 :: u57 :: u58 :: u59 :: u60 :: u61 :: u62 :: u63 :: u64 :: u65 :: u66 :: u67 :: u68 :: u69 :: u70 :: u71 :: u72 :: u73 :: u74 :: u75 :: u76 :: u77 :: u78 :: u79 :: u80 :: u81 :: u82 :: u83 :: u84 :: u85 :: u86 :: u87 :: u88 :: u89 :: u90 :: []).toArray, []⟩ u := by
    clear hO hK0
    intro k' is ps cs ls Ai Ap Ac Al ci cp cc cl pvs Ls u u2 u3 u8 u9 u10 u11 u12 u13 u14 u15 u16 u17 u18 u19 u20 u21 u22 u23 u24 u25 u26 u27 u28 u29 u30 u31 u32 u33 u34 u35 u36 u37 u38 u39 u40 u41 u42 u43 u44 u45 u46 u47 u48 u49 u50 u51 u52 u53 u54 u55 u56 u57 u58 u59 u60 u61 u62 u63 u64 u65 u66 u67 u68 u69 u70 u71 u72 u73 u74 u75 u76 u77 u78 u79 u80 u81 u82 u83 u84 u85 u86 u87 u88 u89 u90 hvl HZ hO
    refine hK1 _ _ ?_
    go_wp2_with fail
    refine (cd_once 2 (by decide) (by decide) h hO).mono ?_
    clear hO
    rintro e u ⟨x, rfl, hO⟩
    go_upto_if 62 with fail
    rename_i K2 hK2
    have tail2 : ∀ (An : Option Addr) (cn : Nat) (ns : List ByteArray) (u : World) (u2 u3 u8 u9 u10 u11 u12 u13 u14 u15 u16 u17 u18 u19 u20 u21 u22 u23 u24 u25 u26 u27 u28 u29 u30 u31 u32 u33 u34 u35 u36 u37 u38 u39 u40 u41 u42 u43 u44 u45 u46 u47 u48 u49 u50 u51 u52 u53 u54 u55 u56 u57 u58 u59 u60 u61 u62 u63 u64 u65 u66 u67 u68 u69 u70 u71 u72 u73 u74 u75 u76 u77 u78 u79 u80 u81 u82 u83 u84 u85 u86 u87 u88 u89 u90 : Value), Hid (szS ns ≤ 150) → Own w0 [cur b A n c, r, box b2 28 [.int .i64 0, .slice none 0 0, .slice none 0 0, .slice none 0 0, .slice none 0 0, .slice none 0 0, .int .i64 0, .int .i64 0], box b3 28 [.int .i64 k', .slice Ai is.length ci, .slice Ap ps.length cp, .slice An ns.length cn, .slice Ac cs.length cc, .slice Al ls.length cl, .int .i64 0, .int .i64 0], row 35 3 (.slice Ai is.length ci) is.length (itc is), row 28 8 (.slice Ap ps.length cp) ps.length pvs.flatten, row 9 1 (.slice Ac cs.length cc) cs.length (stc cs), row 9 1 (.slice Al ls.length cl) ls.length (stc ls), pack Ls.flatten, row 9 1 (.slice An ns.length cn) ns.length (stc ns)] u → K2 ⟨(.pointer (some ⟨b, 0, none⟩) :: .int .i64 (k : Int) :: u2 :: u3 :: .pointer (some ⟨b2, 0, none⟩) :: .int .i64 kd :: .int .i64 (m : Int) :: .pointer (some ⟨b3, 0, none⟩) :: u8 :: u9 :: u10 :: u11 :: u12 :: u13 :: u14 :: u15 :: u16 :: u17 :: u18 :: u19 :: u20 :: u21 :: u22 :: u23 :: u24 :: u25 :: u26 :: u27 :: u28 :: u29 :: u30 :: u31 :: u32 :: u33 :: u34 :: u35 :: u36 :: u37 :: u38 :: u39 :: u40 :: u41 :: u42 :: u43 :: u44 :: u45 :: u46 :: u47 :: u48 :: u49 :: u50 :: u51 :: u52 :: u53 :: u54 :: u55 :: u56 :: u57 :: u58 :: u59 :: u60 :: u61 :: u62 :: u63 :: u64 :: u65 :: u66 :: u67 :: u68 :: u69 :: u70 :: u71 :: u72 :: u73 :: u74 :: u75 :: u76 :: u77 :: u78 :: u79 :: u80 :: u81 :: u82 :: u83 :: u84 :: u85 :: u86 :: u87 :: u88 :: u89 :: u90 :: []).toArray, []⟩ u := by
      clear hO
      intro An cn ns u u2 u3 u8 u9 u10 u11 u12 u13 u14 u15 u16 u17 u18 u19 u20 u21 u22 u23 u24 u25 u26 u27 u28 u29 u30 u31 u32 u33 u34 u35 u36 u37 u38 u39 u40 u41 u42 u43 u44 u45 u46 u47 u48 u49 u50 u51 u52 u53 u54 u55 u56 u57 u58 u59 u60 u61 u62 u63 u64 u65 u66 u67 u68 u69 u70 u71 u72 u73 u74 u75 u76 u77 u78 u79 u80 u81 u82 u83 u84 u85 u86 u87 u88 u89 u90 HN hO
      refine hK2 _ _ ?_
      by_cases k6 : kd < 6
      · go_wp2_with fail
        refine (cd_once 9 (by decide) (by decide) h hO).mono ?_
        clear hO
        rintro e u ⟨x, rfl, hO⟩
        cases x with
        | true =>
          go_wp2_with (first | ((with_reducible refine zao ?_); refine zaj (cs := [.string ⟨#[115, 113, 117, 97, 114, 101]⟩, .string ⟨#[115, 104, 97, 112, 101]⟩]) hO rfl (by rfl) [.string ⟨#[115, 113, 117, 97, 114, 101]⟩, .string ⟨#[115, 104, 97, 112, 101]⟩] (by rfl) (by rfl) rfl (zM rfl) (by rfl) rfl (fun b => by simp only [Act.put, zA, zB, zC]; rfl) ?_; clear hO; intro bb u hO; simp only [zL, zK] at hO) | fail)
          refine (cd_below 2 (by decide) (by decide) h hO).mono ?_
          clear hO
          rintro e u ⟨x, rfl, hx, hO⟩
          go_wp2_with (first | (with_reducible refine zaq ?_) | ((with_reducible refine zaa ?_); refine zlb rfl hO rfl _ (by exact at3) ?_) | ((with_reducible refine zab ?_); refine zsc rfl hO rfl _ (by exact at2) ?_; clear hO; intro u hO; simp only [zC, zB] at hO) | ((with_reducible refine zab ?_); refine zsf rfl hO rfl _ (by exact at3) (zM rfl) ?_; clear hO; intro u hO; simp only [zC, zB] at hO) | fail)
          obtain ⟨ds, hds⟩ : ∃ ds : List ByteArray, sqL.take (1 + x) = ds := ⟨_, rfl⟩
          have hdl : ds.length = 1 + x := by rw [← hds, List.length_take]; show min (1 + x) 2 = _; omega
          have hst : List.take ((1 + x) * 1) [.string ⟨#[115, 113, 117, 97, 114, 101]⟩, .string ⟨#[115, 104, 97, 112, 101]⟩] = stc ds := by
            rw [← hds]
            unfold stc
            rw [List.map_take, Nat.mul_one]
            rfl
          have hdz : szS ds ≤ 50 := szS_bd (m := 2) (by omega) (fun s hs => by
            rw [← hds] at hs
            exact sq_bd s (List.mem_of_mem_take hs))
          refine ⟨zan rfl hO rfl 2 at2 rfl rfl ?_⟩
          replace hO := hO.front 10 rfl
          simp only [List.eraseIdx_cons_zero, List.eraseIdx_cons_succ] at hO
          replace hO := hO.box_cut 1 (1 + x) 2 rfl (by omega) (by decide)
          rw [hst, ← hdl] at hO
          rw [← hdl]
          have hsz : szV (.mk k' is ps ns ds ls 0 0) ≤ Zd k := by
            have h1 := HZ.out
            have h2 := HN.out
            show szI is + szL ps + szS ns + szS ds + szS ls ≤ Zd k
            omega
          exact ⟨k', is, ps, ns, ds, ls, 0, 0, _, _, _, _, _, _, _, _, _, _, _, rfl, ⟨VO.close hvl, hsz⟩, Own.packs' [_, _, _, _, _] (hO.pick [5, 6, 10, 0, 8, 9, 1, 2] (by decide))⟩
        | false =>
          have hsz : szV (.mk k' is ps ns cs ls 0 0) ≤ Zd k := by
            have h1 := HZ.out
            have h2 := HN.out
            show szI is + szL ps + szS ns + szS cs + szS ls ≤ Zd k
            omega
          go_wp2_with (first | (with_reducible refine zaq ?_) | ((with_reducible refine zaa ?_); refine zlb rfl hO rfl _ (by exact at3) ?_) | ((with_reducible refine zab ?_); refine zsc rfl hO rfl _ (by exact at2) ?_; clear hO; intro u hO; simp only [zC, zB] at hO) | fail)
          exact ⟨zan rfl hO rfl 2 at2 rfl rfl ⟨k', is, ps, ns, cs, ls, 0, 0, _, _, _, _, _, _, _, _, _, _, _, rfl, ⟨VO.close hvl, hsz⟩, Own.packs' [_, _, _, _, _] (hO.pick [4, 5, 9, 6, 7, 8, 0, 1] (by decide))⟩⟩
      · have hsz : szV (.mk k' is ps ns cs ls 0 0) ≤ Zd k := by
          have h1 := HZ.out
          have h2 := HN.out
          show szI is + szL ps + szS ns + szS cs + szS ls ≤ Zd k
          omega
        go_wp2_with (first | (with_reducible refine zaq ?_) | ((with_reducible refine zaa ?_); refine zlb rfl hO rfl _ (by exact at3) ?_) | ((with_reducible refine zab ?_); refine zsc rfl hO rfl _ (by exact at2) ?_; clear hO; intro u hO; simp only [zC, zB] at hO) | fail)
        exact ⟨zan rfl hO rfl 2 at2 rfl rfl ⟨k', is, ps, ns, cs, ls, 0, 0, _, _, _, _, _, _, _, _, _, _, _, rfl, ⟨VO.close hvl, hsz⟩, Own.packs' [_, _, _, _, _] (hO.pick [4, 5, 9, 6, 7, 8, 0, 1] (by decide))⟩⟩
    replace tail2 := Lib.hid tail2
    clear hK2
    cases x with
    | true =>
      replace hO := hO.addNil 9 1
      simp only [List.cons_append, List.nil_append] at hO
      go_wp2_with fail
      go_loopw [9] (fun iq u => ∃ (q : Nat) (An : Option Addr) (cn : Nat) (ns : List ByteArray), q ≤ m ∧ iq = .int .i64 q ∧ Hid (ns.length = q ∧ ∀ s ∈ ns, s.size ≤ 24) ∧ Own w0 [cur b A n c, r, box b2 28 [.int .i64 0, .slice none 0 0, .slice none 0 0, .slice none 0 0, .slice none 0 0, .slice none 0 0, .int .i64 0, .int .i64 0], box b3 28 [.int .i64 k', .slice Ai is.length ci, .slice Ap ps.length cp, .slice An q cn, .slice Ac cs.length cc, .slice Al ls.length cl, .int .i64 0, .int .i64 0], row 35 3 (.slice Ai is.length ci) is.length (itc is), row 28 8 (.slice Ap ps.length cp) ps.length pvs.flatten, row 9 1 (.slice Ac cs.length cc) cs.length (stc cs), row 9 1 (.slice Al ls.length cl) ls.length (stc ls), pack Ls.flatten, row 9 1 (.slice An q cn) q (stc ns)] u) (fun iq _ => m - (intOf iq).toNat)
      case atStart => exact ⟨0, _, _, [], Nat.zero_le _, rfl, Lib.hid ⟨rfl, by simp⟩, hO⟩
      case round =>
        clear hO
        obtain ⟨q, An, cn, ns, hq, rfl, hN, hO⟩ := hrel
        by_cases hlt : q < m
        · have i1 : (q : Int) < (m : Int) := by omega
          go_upto_region 21 with fail
          refine J.wp_region_c (n := 91) [0, 1, 2] [3, 4, 5] (deps := fun i => [[], [0], [], [], [2, 3], [2, 3, 4], [], [], []].getD i []) (fun i d => [fun _ => True, fun _ => True, fun _ => True, (J.freshN 9 8 [.string ⟨#[97]⟩, .string ⟨#[98]⟩, .string ⟨#[120]⟩, .string ⟨#[]⟩, .string ⟨#[97, 108]⟩, .string ⟨#[110, 32, 49]⟩, .string ⟨#[97, 108, 112, 104, 97]⟩, .string ⟨#[105, 102]⟩]), (J.freshTx nmL), (J.freshS 9 ((d 4).1.cells.toList)), fun _ => True, fun _ => True, fun _ => True].getD i (fun _ => True)) (r := 3) (lst := #[true, true, true, true, true, true, false, false, false]) (by kernel_rfl) (by kernel_rfl) (by kernel_rfl) rfl (by decide) (by kernel_rfl) hO ?_
          refine zcp (h := ?_)
          refine zcc (f := fun M u hO K hK => by (exact zae hO rfl rfl _ (by exact at3) (by rfl) (by rfl) (hK _ hO))) (h := ?_)
          refine zcp (h := ?_)
          refine J.Chain.nil ⟨?_, ?_⟩
          · refine J.Each.cons (by rfl) ?_ ?_; exact ⟨rfl, fun vs M u hO _ K hK => by (refine wp_build_list (cs := [.string ⟨#[97]⟩, .string ⟨#[98]⟩, .string ⟨#[120]⟩, .string ⟨#[]⟩, .string ⟨#[97, 108]⟩, .string ⟨#[110, 32, 49]⟩, .string ⟨#[97, 108, 112, 104, 97]⟩, .string ⟨#[105, 102]⟩]) hO rfl [.string ⟨#[97]⟩, .string ⟨#[98]⟩, .string ⟨#[120]⟩, .string ⟨#[]⟩, .string ⟨#[97, 108]⟩, .string ⟨#[110, 32, 49]⟩, .string ⟨#[97, 108, 112, 104, 97]⟩, .string ⟨#[105, 102]⟩] (by rfl) (by rfl) rfl (zM rfl) (by rfl) rfl fun b u hO => ?_; exact hK _ _ _ (show (J.freshN 9 8 [.string ⟨#[97]⟩, .string ⟨#[98]⟩, .string ⟨#[120]⟩, .string ⟨#[]⟩, .string ⟨#[97, 108]⟩, .string ⟨#[110, 32, 49]⟩, .string ⟨#[97, 108, 112, 104, 97]⟩, .string ⟨#[105, 102]⟩]) _ from ⟨b, rfl⟩) hO)⟩; refine J.Each.cons (by rfl) ?_ ?_; exact ⟨rfl, fun vs M u hO hF K hK => by ((try simp only [J.putL, zI, zG, zH, J.dstOf, zF, zD, zE, zS, zQ, zR, Act.put, zA, zB, zC]); obtain ⟨b3, e3⟩ := (hF 3 (by decide) (by decide)).1; have s3 := (hF 3 (by decide) (by decide)).2; rw [e3] at s3; have o3 := hO.sub (List.Sublist.append_left s3 _); (try simp only [wp_at_zero, wp_at_succ]); simp only [e3]; go_step; refine (cd_pick nmL 8 rfl (by decide) (by decide) (List.mem_append_right _ (s3.subset (List.mem_cons_self))) h hO).mono ?_; rintro e u ⟨y, rfl, hy, hb⟩; have hK' := hK _ _ _ (show (J.freshTx nmL) _ from ⟨y, rfl, hy⟩) (hb.perm List.perm_append_comm); clear hK; simp only [J.putL, zI, zG, zH, J.dstOf, zF, zD, zE, zS, zQ, zR, Act.put, zA, zB, zC, e3] at hK'; exact hK')⟩; refine J.Each.cons (by rfl) ?_ ?_; exact ⟨rfl, fun vs M u hO hF K hK => by (obtain ⟨b3, e3⟩ := (hF 3 (by decide) (by decide)).1; obtain ⟨y, e4, hy⟩ := (hF 4 (by decide) (by decide)).1; refine za4 (cs := [.string y]) hO rfl (by simp only [Act.eval, zJ, zP, J.putL, zI, zG, zH, J.dstOf, zF, zD, zE, zS, zQ, zR, Act.put, zA, zB, zC, e4]; rfl) rfl rfl (zM rfl) rfl fun b u hO => ?_; exact hK _ _ _ (show J.freshS 9 ((vs 4).1.cells.toList) _ from ⟨b, by rw [e4]; rfl⟩) hO)⟩; exact J.Each.nil
          intro vs u hO hF
          obtain ⟨b2, h3⟩ : J.freshN _ _ _ (vs 3) := hF 3 (by decide)
          obtain ⟨y, h4, hy⟩ : (J.freshTx nmL) (vs 4) := hF 4 (by decide)
          have q5 : J.freshS 9 ((vs 4).1.cells.toList) (vs 5) := hF 5 (by decide)
          rw [h4] at q5
          obtain ⟨y5, h5⟩ : J.freshS 9 [.string y] (vs 5) := q5
          clear hF
          simp only [List.flatMap_cons, List.flatMap_nil, h3, h4, h5, List.append_nil, zL, zK] at hO
          simp only [h3, h4, h5, J.putL, zI, zG, zH, J.dstOf, zF, zD, zE, zS, zQ, zR, Act.put, zA, zB, zC]
          clear h3 h4 h5 vs
          refine J.wpAny_one (i := 6) (by kernel_rfl) (by rfl) rfl fun K hK => ?_
          refine za3 hO rfl rfl rfl _ (by exact at9) _ (by exact at11) (by rfl) (by simp [Value.oneCell']) (by omega) (by omega) rfl ?_
          clear hO
          intro A' c' u hO
          simp only [zC, zB] at hO
          simp only [Act.put, zA, zB, zC]
          refine hK _ _ ?_
          clear hK K
          refine J.wpAny_one (i := 7) (by kernel_rfl) (by rfl) rfl fun K hK => ?_
          simp only [wp_at_zero, wp_at_succ]
          go_step
          refine hK _ _ ?_
          clear hK K
          refine J.wpAny_one (i := 8) (by kernel_rfl) (by rfl) rfl fun K hK => ?_
          (refine za1 hO rfl rfl _ (by exact at3) (zM rfl) (by simp only [Act.eval, zJ, zF, zD, zE, zP]; rfl) (by rfl) (by rfl) (by rfl) ?_; clear hO; intro u hO; simp only [zC, zB] at hO; refine hK _ _ ?_; clear hK K)
          refine wpAny_done (by kernel_rfl) ?_ _
          go_wp2_with fail
          replace hO := hO.pick [0, 1, 2, 3, 4, 5, 6, 7, 8, 9] (by decide)
          simp only [zN, zO, zE, zD] at hO
          go_roundw
          case rel => exact ⟨q + 1, _, _, ns ++ [y], by omega, by go_num, Lib.hid ⟨by rw [List.length_append, hN.out.1]; rfl, fun s hs => by
              rcases List.mem_append.1 hs with hs | hs
              · exact hN.out.2 s hs
              · rw [List.mem_singleton.1 hs]; exact nm_bd y hy⟩, by rw [stc_app]; exact hO⟩
          case measure => simp [intOf]; omega
        · have i1 : ¬ (q : Int) < (m : Int) := by omega
          have e : q = m := by omega
          subst e
          have e1 := hN.out.1
          have e2 := hN.out.2
          subst e1
          have hz : szS ns ≤ 150 := szS_bd (m := 6) (by omega) e2
          have hz2 := tdN_size ns
          clear e2
          go_wp2_with (first | ((with_reducible refine zaa ?_); refine zlb rfl hO rfl _ (by exact at3) ?_) | fail)
          refine (spec_clean k' Ai Ap An Ac Al is.length ci ps.length cp cn cs.length cc ls.length cl 0 0 ns _ (hO.row_sl 9 rfl) (by omega)).mono ?_
          rintro e9 u ⟨T', t', rfl, hb⟩
          replace hO := hO.front 9 rfl
          simp only [List.eraseIdx_cons_zero, List.eraseIdx_cons_succ] at hO
          replace hO := hO.tidy hb
          clear hb
          replace hO := hO.pick [1, 2, 3, 4, 5, 6, 7, 8, 9, 0] (by decide)
          simp only [zN, zO, zE, zD] at hO
          go_wp2_with (first | ((with_reducible refine zab ?_); refine zsc rfl hO rfl _ (by exact at3) ?_; clear hO; intro u hO; simp only [zC, zB] at hO) | fail)
          exact tail2.out _ _ (tdN ns) _ _ _ _ _ _ _ _ _ _ _ _ _ _ _ _ _ _ _ _ _ _ _ _ _ _ _ _ _ _ _ _ _ _ _ _ _ _ _ _ _ _ _ _ _ _ _ _ _ _ _ _ _ _ _ _ _ _ _ _ _ _ _ _ _ _ _ _ _ _ _ _ _ _ _ _ _ _ _ _ _ _ _ _ _ _ (Lib.hid (by omega)) hO
    | false =>
      replace hO := hO.addNil 9 1
      simp only [List.cons_append, List.nil_append] at hO
      go_wp2_with fail
      exact tail2.out _ _ [] _ _ _ _ _ _ _ _ _ _ _ _ _ _ _ _ _ _ _ _ _ _ _ _ _ _ _ _ _ _ _ _ _ _ _ _ _ _ _ _ _ _ _ _ _ _ _ _ _ _ _ _ _ _ _ _ _ _ _ _ _ _ _ _ _ _ _ _ _ _ _ _ _ _ _ _ _ _ _ _ _ _ _ _ _ _ (Lib.hid (Nat.zero_le _)) hO
  replace tail0 := Lib.hid tail0
  clear hK1
  have hkd' := hkd.out
  clear hkd
  rcases hkd' with rfl | rfl | rfl | rfl | rfl | rfl | rfl
  · go_wp2_with (first | (with_reducible refine zaq ?_) | ((with_reducible refine zaa ?_); refine zlb rfl hO rfl _ (by exact at3) ?_) | ((with_reducible refine zab ?_); refine zsc rfl hO rfl _ (by exact at2) ?_; clear hO; intro u hO; simp only [zC, zB] at hO) | fail)
    have hR := (((((hO.pick [0, 1] (by decide)).addNil 35 3).addNil 28 8).addNil 9 1).addNil 9 1).addNil 9 1
    have hR2 := Own.pack (F := [_, _, _, _, _]) (L := [_, _]) (hR.pick [2, 3, 4, 5, 6, 0, 1] (by decide))
    exact ⟨zan rfl hO rfl 2 at2 rfl rfl ⟨0, [], [], [], [], [], 0, 0, none, none, none, none, none, 0, 0, 0, 0, 0, _, rfl, ⟨VO.close VL.nil, Nat.zero_le _⟩, hR2⟩⟩
  · go_wp2_with fail
    refine (cd_below 4 (by decide) (by decide) h hO).mono ?_
    clear hO
    rintro e u ⟨x, rfl, hx, hO⟩
    go_wp2_with (first | (with_reducible refine zaq ?_) | ((with_reducible refine zab ?_); refine zsc rfl hO rfl _ (by exact at2) ?_; clear hO; intro u hO; simp only [zC, zB] at hO) | fail)
    have hR := (((((hO.pick [0, 1] (by decide)).addNil 35 3).addNil 28 8).addNil 9 1).addNil 9 1).addNil 9 1
    have hR2 := Own.pack (F := [_, _, _, _, _]) (L := [_, _]) (hR.pick [2, 3, 4, 5, 6, 0, 1] (by decide))
    exact ⟨zan rfl hO rfl 2 at2 rfl rfl ⟨5, [], [], [], [], [], (x : Int) - 2, 0, none, none, none, none, none, 0, 0, 0, 0, 0, _, rfl, ⟨VO.close VL.nil, Nat.zero_le _⟩, hR2⟩⟩
  · go_wp2_with fail
    refine (cd_factor m (by omega) h hO).mono ?_
    clear hO
    rintro e u ⟨is, ls, A', c', Ac, Al, cc, cl, rfl, ⟨f1, f2, f3, f4⟩, hO⟩
    have g1 := szI_bd f1 f2
    have g2 := szS_bd f3 f4
    have g3 : szS [facS] ≤ 25 := szS_bd (m := 1) (Nat.le_refl _) (fun s hs => by rw [List.mem_singleton.1 hs]; decide)
    clear f2 f3 f4
    simp only [List.cons_append, List.nil_append] at hO
    subst f1
    go_wp2_with (first | ((with_reducible refine zab ?_); refine zsc rfl hO rfl _ (by exact at6) ?_; clear hO; intro u hO; simp only [zC, zB] at hO) | fail)
    replace hO := Own.pack (F := []) (hO.addNil 28 8)
    exact tail0.out 2 is [] [facS] ls _ _ _ _ _ _ _ _ [] [] _ _ _ _ _ _ _ _ _ _ _ _ _ _ _ _ _ _ _ _ _ _ _ _ _ _ _ _ _ _ _ _ _ _ _ _ _ _ _ _ _ _ _ _ _ _ _ _ _ _ _ _ _ _ _ _ _ _ _ _ _ _ _ _ _ _ _ _ _ _ _ _ _ _ _ _ _ _ _ _ _ _ _ _ _ _ VL.nil (Lib.hid (by
      have := hZ0.out
      have e0 : szL [] = 0 := rfl
      omega)) (hO.pick [4, 5, 6, 7, 1, 8, 2, 3, 0] (by decide))
  · by_cases k0 : (0 : Int) < (k : Int)
    · obtain ⟨j, hj⟩ : ∃ j, k = j + 1 := ⟨k - 1, by omega⟩
      have HZ : Hid (Zd k = 6 * (1 + Zd j) + 500) := Lib.hid (by rw [hj]; rfl)
      have CD : ∀ (R : List Res) (w : World), Own w0 (cur b A n c :: R) w → Calls Tryz.prog 84 #[.pointer (some ⟨b, 0, none⟩), .int .i64 ((k : Int) - 1)] w (RetD w0 (Zd j) (cur b A n c :: R)) := by
        rw [show (k : Int) - 1 = (j : Int) by omega]
        exact ih j hj
      clear ih hj
      replace hO := hO.addNil 28 8
      replace hO := Own.pack (F := []) hO
      replace hO := hO.pick [1, 2, 3, 4, 5, 0] (by decide)
      simp only [zN, zO, zE, zD] at hO
      go_wp2_with (first | ((with_reducible refine zab ?_); refine zsf rfl hO rfl _ (by exact at3) (zM rfl) ?_; clear hO; intro u hO; simp only [zC, zB] at hO) | fail)
      go_loopw [8] (fun iq u => ∃ (q : Nat) (A' : Option Addr) (c' : Nat) (ps : List VT) (pvs : List (List Value)) (Ls : List (List Res)), q ≤ m ∧ iq = .int .i64 q ∧ VL ps pvs Ls ∧ Hid (ps.length = q ∧ szL ps ≤ q * (1 + Zd j)) ∧ Own w0 [cur b A n c, r, box b2 28 [.int .i64 0, .slice none 0 0, .slice none 0 0, .slice none 0 0, .slice none 0 0, .slice none 0 0, .int .i64 0, .int .i64 0], box b3 28 [.int .i64 4, .slice none 0 0, .slice A' q c', .slice none 0 0, .slice none 0 0, .slice none 0 0, .int .i64 0, .int .i64 0], row 28 8 (.slice A' q c') q pvs.flatten, pack Ls.flatten] u) (fun iq _ => m - (intOf iq).toNat)
      case atStart => exact ⟨0, _, _, [], [], [], Nat.zero_le _, rfl, VL.nil, Lib.hid ⟨rfl, Nat.zero_le _⟩, hO⟩
      case round =>
        clear hO
        obtain ⟨q, A', c', ps, pvs, Ls, hq, rfl, hvl, hI, hO⟩ := hrel
        by_cases hlt : q < m
        · have i1 : (q : Int) < (m : Int) := by omega
          go_upto_region 16 with fail
          refine J.wp_region_c (n := 91) [0, 1, 2, 3, 4] [5, 6] (deps := fun i => [[], [0], [], [], [3], [2, 3, 4], [2, 3, 4, 5], [], [], []].getD i []) (fun i d => [fun _ => True, fun _ => True, fun _ => True, fun _ => True, fun _ => True, (J.freshD (Zd j)), (J.freshS 28 ((d 5).1.cells.toList)), fun _ => True, fun _ => True, fun _ => True].getD i (fun _ => True)) (r := 3) (lst := #[true, true, true, true, true, true, true, false, false, false]) (by kernel_rfl) (by kernel_rfl) (by kernel_rfl) rfl (by decide) (by kernel_rfl) hO ?_
          refine zcp (h := ?_)
          refine zcc (f := fun M u hO K hK => by (exact zae hO rfl rfl _ (by exact at3) (by rfl) (by rfl) (hK _ hO))) (h := ?_)
          refine zcp (h := ?_)
          refine zcp (h := ?_)
          refine zcp (h := ?_)
          refine J.Chain.nil ⟨?_, ?_⟩
          · refine J.Each.cons (by rfl) ?_ ?_; exact ⟨rfl, fun vs M u hO _ K hK => by ((try simp only [J.putL, zI, zG, zH, J.dstOf, zF, zD, zE, zS, zQ, zR, Act.put, zA, zB, zC]); (try simp only [wp_at_zero, wp_at_succ]); go_step; refine (CD _ _ hO).mono ?_; rintro e u ⟨xk, xi, xp, xn, xc, xl, xo, xe, Ci, Cp, Cn, Cc, Cl, ri, rp, rn, rc, rl, F, rfl, hvs, hb⟩; have hK' := hK _ _ _ (show (J.freshD (Zd j)) _ from ⟨xk, xi, xp, xn, xc, xl, xo, xe, Ci, Cp, Cn, Cc, Cl, ri, rp, rn, rc, rl, F, rfl, hvs⟩) (hb.perm List.perm_append_comm); clear hK; simp only [J.putL, zI, zG, zH, J.dstOf, zF, zD, zE, zS, zQ, zR, Act.put, zA, zB, zC] at hK'; exact hK')⟩; refine J.Each.cons (by rfl) ?_ ?_; exact ⟨rfl, fun vs M u hO hF K hK => by (obtain ⟨xk, xi, xp, xn, xc, xl, xo, xe, Ci, Cp, Cn, Cc, Cl, ri, rp, rn, rc, rl, F, e5, hvs⟩ := (hF 5 (by decide) (by decide)).1; refine za4 (cs := [.int .i64 xk, .slice Ci xi.length ri, .slice Cp xp.length rp, .slice Cn xn.length rn, .slice Cc xc.length rc, .slice Cl xl.length rl, .int .i64 xo, .int .i64 xe]) hO rfl (by simp only [Act.eval, zJ, zP, J.putL, zI, zG, zH, J.dstOf, zF, zD, zE, zS, zQ, zR, Act.put, zA, zB, zC, e5]; rfl) rfl rfl (zM rfl) rfl fun b u hO => ?_; exact hK _ _ _ (show J.freshS 28 ((vs 5).1.cells.toList) _ from ⟨b, by rw [e5]; rfl⟩) hO)⟩; exact J.Each.nil
          intro vs u hO hF
          obtain ⟨xk, xi, xp, xn, xc, xl, xo, xe, Ci, Cp, Cn, Cc, Cl, ri, rp, rn, rc, rl, F, h5, hvs⟩ : (J.freshD (Zd j)) (vs 5) := hF 5 (by decide)
          have q6 : J.freshS 28 ((vs 5).1.cells.toList) (vs 6) := hF 6 (by decide)
          rw [h5] at q6
          obtain ⟨y6, h6⟩ : J.freshS 28 [.int .i64 xk, .slice Ci xi.length ri, .slice Cp xp.length rp, .slice Cn xn.length rn, .slice Cc xc.length rc, .slice Cl xl.length rl, .int .i64 xo, .int .i64 xe] (vs 6) := q6
          clear hF
          simp only [List.flatMap_cons, List.flatMap_nil, h5, h6, List.append_nil, zL, zK] at hO
          simp only [h5, h6, J.putL, zI, zG, zH, J.dstOf, zF, zD, zE, zS, zQ, zR, Act.put, zA, zB, zC]
          clear h5 h6 vs
          refine J.wpAny_one (i := 7) (by kernel_rfl) (by rfl) rfl fun K hK => ?_
          refine za3 hO rfl rfl rfl _ (by exact at4) _ (by exact at7) (by rfl) (by simp [Value.oneCell']) (by omega) (by omega) rfl ?_
          clear hO
          intro A' c' u hO
          simp only [zC, zB] at hO
          simp only [Act.put, zA, zB, zC]
          refine hK _ _ ?_
          clear hK K
          refine J.wpAny_one (i := 8) (by kernel_rfl) (by rfl) rfl fun K hK => ?_
          simp only [wp_at_zero, wp_at_succ]
          go_step
          refine hK _ _ ?_
          clear hK K
          refine J.wpAny_one (i := 9) (by kernel_rfl) (by rfl) rfl fun K hK => ?_
          (refine za1 hO rfl rfl _ (by exact at3) (zM rfl) (by simp only [Act.eval, zJ, zF, zD, zE, zP]; rfl) (by rfl) (by rfl) (by rfl) ?_; clear hO; intro u hO; simp only [zC, zB] at hO; refine hK _ _ ?_; clear hK K)
          refine wpAny_done (by kernel_rfl) ?_ _
          go_wp2_with fail
          replace hO := hO.pick [5, 6, 0, 1, 2, 3, 4] (by decide)
          simp only [zN, zO, zE, zD] at hO
          replace hO := hO.merge
          rw [← zbi, ← zbi] at hO
          replace hO := hO.pick [1, 2, 3, 4, 5, 0] (by decide)
          simp only [zN, zO, zE, zD] at hO
          go_roundw
          case rel => exact ⟨q + 1, _, _, ps ++ [.mk xk xi xp xn xc xl xo xe], _, _, by omega, by go_num, hvl.snoc hvs.1, Lib.hid ⟨by rw [List.length_append, hI.out.1]; rfl, by
              have h1 := hI.out.2
              have h2 := hvs.2
              have h3 : szL [VT.mk xk xi xp xn xc xl xo xe] = 1 + szV (.mk xk xi xp xn xc xl xo xe) + 0 := rfl
              rw [szL_appD, h3, Nat.succ_mul]
              omega⟩, hO⟩
          case measure => simp [intOf]; omega
        · have i1 : ¬ (q : Int) < (m : Int) := by omega
          have e : q = m := by omega
          subst e
          have e1 := hI.out.1
          have e2 := hI.out.2
          subst e1
          go_wp2_with fail
          replace hO := ((hO.addNil 35 3).addNil 9 1).addNil 9 1
          exact tail0.out 4 [] ps [] [] _ _ _ _ _ _ _ _ pvs Ls _ _ _ _ _ _ _ _ _ _ _ _ _ _ _ _ _ _ _ _ _ _ _ _ _ _ _ _ _ _ _ _ _ _ _ _ _ _ _ _ _ _ _ _ _ _ _ _ _ _ _ _ _ _ _ _ _ _ _ _ _ _ _ _ _ _ _ _ _ _ _ _ _ _ _ _ _ _ _ _ _ _ _ _ _ _ hvl (Lib.hid (by
            have h1 := HZ.out
            have h2 : ps.length * (1 + Zd j) ≤ 6 * (1 + Zd j) := Nat.mul_le_mul_right _ hm
            have e0 : szI [] = 0 := rfl
            have e3 : szS [] = 0 := rfl
            omega)) (hO.pick [0, 1, 2, 3, 6, 4, 7, 8, 5] (by decide))
    · go_wp2_with fail
      refine (cd_atom 3 m (by omega) h hO).mono ?_
      clear hO
      rintro e u ⟨is, A', c', rfl, ⟨f1, f2⟩, hO⟩
      have g1 := szI_bd f1 f2
      clear f2
      simp only [List.cons_append, List.nil_append] at hO
      subst f1
      go_wp2_with (first | ((with_reducible refine zab ?_); refine zsc rfl hO rfl _ (by exact at4) ?_; clear hO; intro u hO; simp only [zC, zB] at hO) | fail)
      replace hO := Own.pack (F := []) (((hO.addNil 28 8).addNil 9 1).addNil 9 1)
      exact tail0.out 3 is [] [] [] _ _ _ _ _ _ _ _ [] [] _ _ _ _ _ _ _ _ _ _ _ _ _ _ _ _ _ _ _ _ _ _ _ _ _ _ _ _ _ _ _ _ _ _ _ _ _ _ _ _ _ _ _ _ _ _ _ _ _ _ _ _ _ _ _ _ _ _ _ _ _ _ _ _ _ _ _ _ _ _ _ _ _ _ _ _ _ _ _ _ _ _ _ _ _ _ VL.nil (Lib.hid (by
        have := hZ0.out
        have e0 : szL [] = 0 := rfl
        have e1 : szS [] = 0 := rfl
        omega)) (hO.pick [2, 3, 4, 5, 1, 6, 7, 8, 0] (by decide))
  · go_wp2_with fail
    refine (cd_atom 1 m (by omega) h hO).mono ?_
    clear hO
    rintro e u ⟨is, A', c', rfl, ⟨f1, f2⟩, hO⟩
    have g1 := szI_bd f1 f2
    clear f2
    simp only [List.cons_append, List.nil_append] at hO
    subst f1
    go_wp2_with (first | ((with_reducible refine zab ?_); refine zsc rfl hO rfl _ (by exact at4) ?_; clear hO; intro u hO; simp only [zC, zB] at hO) | fail)
    replace hO := Own.pack (F := []) (((hO.addNil 28 8).addNil 9 1).addNil 9 1)
    exact tail0.out 1 is [] [] [] _ _ _ _ _ _ _ _ [] [] _ _ _ _ _ _ _ _ _ _ _ _ _ _ _ _ _ _ _ _ _ _ _ _ _ _ _ _ _ _ _ _ _ _ _ _ _ _ _ _ _ _ _ _ _ _ _ _ _ _ _ _ _ _ _ _ _ _ _ _ _ _ _ _ _ _ _ _ _ _ _ _ _ _ _ _ _ _ _ _ _ _ _ _ _ _ VL.nil (Lib.hid (by
      have := hZ0.out
      have e0 : szL [] = 0 := rfl
      have e1 : szS [] = 0 := rfl
      omega)) (hO.pick [2, 3, 4, 5, 1, 6, 7, 8, 0] (by decide))
  · go_wp2_with fail
    refine (cd_atom 2 m (by omega) h hO).mono ?_
    clear hO
    rintro e u ⟨is, A', c', rfl, ⟨f1, f2⟩, hO⟩
    have g1 := szI_bd f1 f2
    clear f2
    simp only [List.cons_append, List.nil_append] at hO
    subst f1
    go_wp2_with (first | ((with_reducible refine zab ?_); refine zsc rfl hO rfl _ (by exact at4) ?_; clear hO; intro u hO; simp only [zC, zB] at hO) | fail)
    replace hO := Own.pack (F := []) (((hO.addNil 28 8).addNil 9 1).addNil 9 1)
    exact tail0.out 2 is [] [] [] _ _ _ _ _ _ _ _ [] [] _ _ _ _ _ _ _ _ _ _ _ _ _ _ _ _ _ _ _ _ _ _ _ _ _ _ _ _ _ _ _ _ _ _ _ _ _ _ _ _ _ _ _ _ _ _ _ _ _ _ _ _ _ _ _ _ _ _ _ _ _ _ _ _ _ _ _ _ _ _ _ _ _ _ _ _ _ _ _ _ _ _ _ _ _ _ VL.nil (Lib.hid (by
      have := hZ0.out
      have e0 : szL [] = 0 := rfl
      have e1 : szS [] = 0 := rfl
      omega)) (hO.pick [2, 3, 4, 5, 1, 6, 7, 8, 0] (by decide))
  · go_wp2_with fail
    refine (cd_atom 3 m (by omega) h hO).mono ?_
    clear hO
    rintro e u ⟨is, A', c', rfl, ⟨f1, f2⟩, hO⟩
    have g1 := szI_bd f1 f2
    clear f2
    simp only [List.cons_append, List.nil_append] at hO
    subst f1
    go_wp2_with (first | ((with_reducible refine zab ?_); refine zsc rfl hO rfl _ (by exact at4) ?_; clear hO; intro u hO; simp only [zC, zB] at hO) | fail)
    replace hO := Own.pack (F := []) (((hO.addNil 28 8).addNil 9 1).addNil 9 1)
    exact tail0.out 3 is [] [] [] _ _ _ _ _ _ _ _ [] [] _ _ _ _ _ _ _ _ _ _ _ _ _ _ _ _ _ _ _ _ _ _ _ _ _ _ _ _ _ _ _ _ _ _ _ _ _ _ _ _ _ _ _ _ _ _ _ _ _ _ _ _ _ _ _ _ _ _ _ _ _ _ _ _ _ _ _ _ _ _ _ _ _ _ _ _ _ _ _ _ _ _ _ _ _ _ VL.nil (Lib.hid (by
      have := hZ0.out
      have e0 : szL [] = 0 := rfl
      have e1 : szS [] = 0 := rfl
      omega)) (hO.pick [2, 3, 4, 5, 1, 6, 7, 8, 0] (by decide))

theorem RetD.un {w0 w' : World} {Z : Nat} {x : Res} {R : List Res} {e : Ending} (h : RetD w0 Z [x, pack R] e w') : RetD w0 Z (x :: R) e w' := by
  obtain ⟨xk, xi, xp, xn, xc, xl, xo, xe, Ci, Cp, Cn, Cc, Cl, ri, rp, rn, rc, rl, F, h1, h2, h3⟩ := h
  exact ⟨xk, xi, xp, xn, xc, xl, xo, xe, Ci, Cp, Cn, Cc, Cl, ri, rp, rn, rc, rl, F, h1, h2, Own.unR [_] h3⟩

theorem cd_draw {w0 : World} {A : Option Addr} {n c b : Nat} {l : List Int} (h : Cod w0 A n l) : ∀ (k : Nat), k ≤ 1000 → ∀ (R : List Res) (w : World), Own w0 (cur b A n c :: R) w → Calls Tryz.prog 84 #[.pointer (some ⟨b, 0, none⟩), .int .i64 (k : Int)] w (RetD w0 (Zd k) (cur b A n c :: R))
  | 0, hk, R, w, hO => (cd_drawA h 0 hk (fun j hj => by omega) (pack R) w hO.pkR).mono fun e w' h => h.un
  | k + 1, hk, R, w, hO => (cd_drawA h (k + 1) hk (fun j hj => by
      have : j = k := by omega
      subst this
      exact cd_draw h j (by omega)) (pack R) w hO.pkR).mono fun e w' h => h.un

end Go.Proofs.YtmofcbpabdbjlaaGreat
