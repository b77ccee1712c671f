/-
  What is proved: what the reference's readers of vectors of items return (l4Atom, l4Factor): some vector of a known size.
  Condition: codes of at most 1048576 bytes.
-/
import Derived.Test.YtmofcbpabdbjlaaGreatMz4
import Derived.Test.YtmofcbpabdbjlaaGreatMz6
import Derived.Test.YtmofcbpabdbjlaaGreatMz7
namespace Go.Proofs.YtmofcbpabdbjlaaGreat

set_option maxRecDepth 8000

open Go.RowKit Go.ChangeShapes Go.WideShapes Go.Deep

set_option linter.unusedVariables false

set_option linter.unusedSimpArgs false

/-- a reader of the code, wherever it stands -/
def cur (b : Nat) (A : Option Addr) (n c : Nat) : Res where
  foot := fun k => k = b
  holds := fun w => ∃ (i : Nat) (z : Int), i ≤ n ∧ (box b 72 [.slice A n c, .int .i64 i, .int .i64 z]).holds w
  loc := fun w w' h ⟨i, z, hi, hw⟩ => ⟨i, z, hi, (box b 72 [.slice A n c, .int .i64 i, .int .i64 z]).loc w w' h hw⟩

theorem Own.swap1 {w0 w : World} {r s : Res} {R : List Res} (hf : ∀ k, s.foot k → r.foot k) (hs : s.holds w) (h : Own w0 (r :: R) w) : Own w0 (s :: R) w := by
  obtain ⟨h1, h2, h3, h4⟩ := h
  refine ⟨h1, fun q hr => ?_, fun q hr k hk => ?_, ?_⟩
  · rcases List.mem_cons.1 hr with rfl | hr
    · exact hs
    · exact h2 q (List.mem_cons_of_mem _ hr)
  · rcases List.mem_cons.1 hr with rfl | hr
    · exact h3 _ (List.mem_cons_self) k (hf k hk)
    · exact h3 q (List.mem_cons_of_mem _ hr) k hk
  · rw [List.pairwise_cons] at h4 ⊢
    exact ⟨fun q hq k hk => h4.1 q hq k (hf k hk), h4.2⟩

theorem Rd.cur {w0 w : World} {A : Option Addr} {n c b : Nat} {R : List Res} (h : Rd w0 b A n c R w) : Own w0 (cur b A n c :: R) w := by
  obtain ⟨i, z, hi, hO⟩ := h
  exact Own.swap1 (r := box b 72 [.slice A n c, .int .i64 i, .int .i64 z]) (s := Go.Proofs.YtmofcbpabdbjlaaGreat.cur b A n c) (fun k hk => hk) ⟨i, z, hi, hO.holds _ (List.mem_cons_self)⟩ hO

theorem Own.rdr {w0 w : World} {A : Option Addr} {n c b : Nat} {R : List Res} (h : Own w0 (Go.Proofs.YtmofcbpabdbjlaaGreat.cur b A n c :: R) w) : Rd w0 b A n c R w := by
  obtain ⟨i, z, hi, hw⟩ := h.holds _ (List.mem_cons_self)
  exact ⟨i, z, hi, Own.swap1 (r := Go.Proofs.YtmofcbpabdbjlaaGreat.cur b A n c) (s := box b 72 [.slice A n c, .int .i64 i, .int .i64 z]) (fun k hk => hk) hw h⟩

/-- what lies behind the first is one thing -/
theorem Own.pkR {w0 w : World} {x : Res} {R : List Res} (h : Own w0 (x :: R) w) : Own w0 [x, Go.Proofs.YtmofcbpabdbjlaaGreat.pack R] w :=
  (Own.pack (F := R) (L := [x]) (h.perm (L' := R ++ [x]) (List.perm_append_comm (l₁ := [x])))).perm (List.Perm.swap _ _ _)

theorem Own.unR {w0 w : World} {x : Res} {R : List Res} (N : List Res) (h : Own w0 (N ++ [x, Go.Proofs.YtmofcbpabdbjlaaGreat.pack R]) w) : Own w0 (N ++ x :: R) w := by
  have h1 := h.perm (L' := Go.Proofs.YtmofcbpabdbjlaaGreat.pack R :: (N ++ [x])) (by
    have : N ++ [x, Go.Proofs.YtmofcbpabdbjlaaGreat.pack R] = (N ++ [x]) ++ [Go.Proofs.YtmofcbpabdbjlaaGreat.pack R] := by simp
    rw [this]
    exact List.perm_append_comm)
  refine h1.unpack.perm ?_
  have : N ++ x :: R = (N ++ [x]) ++ R := by simp
  rw [this]
  exact List.perm_append_comm

theorem cd_below {w0 w : World} {A : Option Addr} {n c b : Nat} {l : List Int} {R : List Res} (m : Nat) (h0 : 0 < m) (h1 : m ≤ 256) (h : Cod w0 A n l) (hO : Own w0 (cur b A n c :: R) w) :
    Calls Tryz.prog 15 #[.pointer (some ⟨b, 0, none⟩), .int .i64 (m : Int)] w fun e w' => ∃ x : Nat, e = .returned (.int .i64 (x : Int)) ∧ x < m ∧ Own w0 (cur b A n c :: R) w' :=
  (zbg m h0 h1 h hO.rdr).mono fun e w' ⟨x, e1, h2, h3⟩ => ⟨x, e1, h2, h3.cur⟩

theorem cd_once {w0 w : World} {A : Option Addr} {n c b : Nat} {l : List Int} {R : List Res} (m : Nat) (h0 : 0 < m) (h1 : m ≤ 256) (h : Cod w0 A n l) (hO : Own w0 (cur b A n c :: R) w) :
    Calls Tryz.prog 13 #[.pointer (some ⟨b, 0, none⟩), .int .i64 (m : Int)] w fun e w' => ∃ x : Bool, e = .returned (.bool x) ∧ Own w0 (cur b A n c :: R) w' :=
  (draw_once m h0 h1 h hO.rdr).mono fun e w' ⟨x, e1, h3⟩ => ⟨x, e1, h3.cur⟩

theorem cd_pickInt {w0 w : World} {A : Option Addr} {n c b : Nat} {l : List Int} {R : List Res} (zs : List Int) (m : Nat) (hz : zs.length = m) (h0 : 0 < m) (h1 : m ≤ 256) {bl t : Nat} (hk : box bl t (ints zs) ∈ R) (h : Cod w0 A n l) (hO : Own w0 (cur b A n c :: R) w) :
    Calls Tryz.prog 17 #[.pointer (some ⟨b, 0, none⟩), .slice (some ⟨bl, 0, none⟩) m m] w fun e w' => ∃ y, e = .returned (.int .i64 y) ∧ y ∈ zs ∧ Own w0 (cur b A n c :: R) w' := by
  obtain ⟨k, hk⟩ := List.mem_iff_getElem?.1 hk
  exact (draw_pickInt zs m hz h0 h1 k hk h hO.rdr).mono fun e w' ⟨y, hy, e1, h3⟩ => ⟨y, e1, hy, h3.cur⟩

theorem cd_pick {w0 w : World} {A : Option Addr} {n c b : Nat} {l : List Int} {R : List Res} (zs : List ByteArray) (m : Nat) (hz : zs.length = m) (h0 : 0 < m) (h1 : m ≤ 256) {bl t : Nat} (hk : box bl t (stc zs) ∈ R) (h : Cod w0 A n l) (hO : Own w0 (cur b A n c :: R) w) :
    Calls Tryz.prog 45 #[.pointer (some ⟨b, 0, none⟩), .slice (some ⟨bl, 0, none⟩) m m] w fun e w' => ∃ y, e = .returned (.string y) ∧ y ∈ zs ∧ Own w0 (([] : List Res) ++ cur b A n c :: R) w' := by
  obtain ⟨k, hk⟩ := List.mem_iff_getElem?.1 hk
  exact (draw_pick zs m hz h0 h1 k hk h hO.rdr).mono fun e w' ⟨y, hy, e1, h3⟩ => ⟨y, e1, hy, h3.cur⟩

theorem cd_word {w0 w : World} {A : Option Addr} {n c b : Nat} {l : List Int} {R : List Res} (h : Cod w0 A n l) (hO : Own w0 (cur b A n c :: R) w) :
    Calls Tryz.prog 53 #[.pointer (some ⟨b, 0, none⟩)] w fun e w' => ∃ y : ByteArray, e = .returned (.string y) ∧ y.size ≤ 24 ∧ Own w0 (cur b A n c :: R) w' :=
  (draw_word h hO.rdr).mono fun e w' ⟨x, e1, h2, h3⟩ => ⟨x, e1, h2, h3.cur⟩

theorem cd_item {w0 w : World} {A : Option Addr} {n c b : Nat} {l : List Int} {R : List Res} (h : Cod w0 A n l) (hO : Own w0 (cur b A n c :: R) w) :
    Calls Tryz.prog 49 #[.pointer (some ⟨b, 0, none⟩)] w fun e w' => ∃ p q : Int, e = .returned (.agg #[.int .i64 p, .int .i64 q, .string ⟨#[]⟩]) ∧ Own w0 (cur b A n c :: R) w' :=
  (draw_l2DrawA h hO.rdr.pk).mono fun e w' ⟨p, q, h1, h2⟩ => ⟨p, q, h1.1, h2.unpk.cur⟩

theorem cd_itemAny {w0 w : World} {A : Option Addr} {n c b : Nat} {l : List Int} {R : List Res} (h : Cod w0 A n l) (hO : Own w0 (cur b A n c :: R) w) :
    Calls Tryz.prog 85 #[.pointer (some ⟨b, 0, none⟩)] w fun e w' => ∃ p q t, e = .returned (.agg #[.int .i64 p, .int .i64 q, .string t]) ∧ t.size ≤ 24 ∧ Own w0 (([] : List Res) ++ cur b A n c :: R) w' :=
  (draw_l2Any h hO.rdr).mono fun e w' ⟨p, q, t, h1, h2⟩ => ⟨p, q, t, h1.1, Nat.le_trans h1.2.2.2 (by decide), h2.cur⟩

theorem spec_absAny (a : Int) (w : World) : Calls Tryz.prog 51 #[.int .i64 a] w fun e w' => ∃ y : Int, e = .returned (.int .i64 y) ∧ w = w' := by
  by_cases ha : a < 0
  · go_enter Tryz.func51, Tryz.ntmps51
    go_wp2_with fail
    go_ret
    first | exact ⟨⟨_, rfl⟩, rfl⟩ | exact ⟨_, rfl, rfl⟩
  · go_enter Tryz.func51, Tryz.ntmps51
    go_wp2_with fail
    go_ret
    first | exact ⟨⟨_, rfl⟩, rfl⟩ | exact ⟨_, rfl, rfl⟩

theorem spec_textB (t : ByteArray) (w : World) : Calls Tryz.prog 52 #[.string t] w fun e w' => e = .returned (.agg #[.int .i64 0, .int .i64 1, .string t]) ∧ Below w.heap.size w w' := by
  go_enter Tryz.func52, Tryz.ntmps52
  have hO := Own.nil w
  go_wp2_with (first | ((with_reducible refine zac ?_); refine zal rfl hO rfl ?_; (refine nm 0 rfl ?_; clear hO; intro b0 u hO); simp only [zL, zK] at hO) | ((with_reducible refine zab ?_); refine zsb rfl hO rfl _ (by exact at0) rfl ?_; clear hO; intro u hO; simp only [zC, zB] at hO) | fail)
  exact zan rfl hO rfl 0 rfl rfl rfl ⟨rfl, hO.below⟩

set_option maxRecDepth 20000 in
set_option maxHeartbeats 4000000 in
theorem cd_atomA {w0 w : World} {A : Option Addr} {n c b : Nat} {l : List Int} {r : Res} (k : Int) (m : Nat) (hm : m ≤ 100000) (h : Cod w0 A n l) (hO : Own w0 [cur b A n c, r] w) :
    Calls Tryz.prog 16 #[.pointer (some ⟨b, 0, none⟩), .int .i64 k, .int .i64 (m : Int)] w fun e w' => ∃ is A' c', e = .returned (.agg #[.int .i64 k, .slice A' m c', .slice none 0 0, .slice none 0 0, .slice none 0 0, .slice none 0 0, .int .i64 0, .int .i64 0]) ∧ (List.length is = m ∧ ∀ x ∈ is, x.text.size ≤ 24) ∧ Own w0 [row 35 3 (.slice A' m c') m (itc is), cur b A n c, r] w' := by
  skip
  go_enter Tryz.func16, Tryz.ntmps16
  go_wp2_with (first | ((with_reducible refine zac ?_); refine zal rfl hO rfl ?_; (first | (refine nm 2 rfl ?_; clear hO; intro b2 u hO) | (refine nm 3 rfl ?_; clear hO; intro b3 u hO) | fail); simp only [zL, zK] at hO) | ((with_reducible refine zab ?_); refine zsb rfl hO rfl _ (by exact at3) rfl ?_; clear hO; intro u hO; simp only [zC, zB] at hO) | fail)
  replace hO := hO.addNil 35 3
  simp only [List.cons_append, List.nil_append] at hO
  go_loopw [8] (fun iq u => ∃ (q : Nat) (A' : Option Addr) (c' : Nat) (is : List It), q ≤ m ∧ iq = .int .i64 q ∧ Hid (is.length = q ∧ ∀ x ∈ is, x.text.size ≤ 24) ∧ Own w0 [cur b A n c, r, box b2 28 [.int .i64 0, .slice none 0 0, .slice none 0 0, .slice none 0 0, .slice none 0 0, .slice none 0 0, .int .i64 0, .int .i64 0], box b3 28 [.int .i64 k, .slice A' q c', .slice none 0 0, .slice none 0 0, .slice none 0 0, .slice none 0 0, .int .i64 0, .int .i64 0], row 35 3 (.slice A' q c') q (itc is)] u) (fun iq _ => m - (intOf iq).toNat)
  case atStart => exact ⟨0, _, _, [], Nat.zero_le _, rfl, Lib.hid ⟨rfl, by simp⟩, hO⟩
  case round =>
    clear hO
    obtain ⟨q, A', c', is, hq, rfl, hI, hO⟩ := hrel
    by_cases hlt : q < m
    · have i1 : (q : Int) < (m : Int) := by omega
      go_wp2_with fail
      refine (cd_item h hO).mono ?_
      clear hO
      rintro e u ⟨p, d, rfl, hO⟩
      go_upto_region 6 with (first | ((with_reducible refine zac ?_); refine zal rfl hO rfl ?_; (refine nm 5 rfl ?_; clear hO; intro b5 u hO); simp only [zL, zK] at hO) | ((with_reducible refine zab ?_); refine zsb rfl hO rfl _ (by exact at5) rfl ?_; clear hO; intro u hO; simp only [zC, zB] at hO) | fail)
      have fin : ∀ (p d : Int) (t : ByteArray), t.size ≤ 24 → Hid ((is ++ [(⟨p, d, t⟩ : It)]).length = q + 1 ∧ ∀ x ∈ is ++ [(⟨p, d, t⟩ : It)], x.text.size ≤ 24) := fun p d t ht => Lib.hid ⟨by rw [List.length_append, hI.out.1]; rfl, fun x hx => by
        rcases List.mem_append.1 hx with hx | hx
        · exact hI.out.2 x hx
        · rw [List.mem_singleton.1 hx]; exact ht⟩
      have rw1 : ∀ (p d : Int) (t : ByteArray), itc is ++ [.int .i64 p, .int .i64 d, .string t] = itc (is ++ [(⟨p, d, t⟩ : It)]) := fun p d t => by rw [itc_app]; rfl
      by_cases k1 : k = 1
      · subst k1
        by_cases d0 : d = 0
        · subst d0
          go_wp2_with (first | ((with_reducible refine zaa ?_); refine zlb rfl hO rfl _ (by exact at5) ?_) | ((with_reducible refine zaa ?_); refine zlf rfl hO rfl _ (by (first | exact at3 | exact at5 | fail)) ?_) | ((with_reducible refine zab ?_); refine zsf rfl hO rfl _ (by exact at3) (zM rfl) ?_; clear hO; intro u hO; simp only [zC, zB] at hO) | ((with_reducible refine zao ?_); refine zaw (cs := [.int .i64 p, .int .i64 0, .string ⟨#[]⟩]) hO rfl (by rfl) (by simp only [Act.eval, zJ, zF, zD, zE, zP]; rfl) rfl rfl (zM rfl) rfl (fun b => by simp only [Act.put, zA, zB, zC]; rfl) ?_; clear hO; intro bb u hO; simp only [zL, zK] at hO) | ((with_reducible refine za2 ?_); refine zav hO rfl (by rfl) rfl rfl _ (by exact at4) _ (by exact at6) (by rfl) (by simp [Value.oneCell']) (by omega) (by omega) rfl (fun A' c' => by simp only [Act.put, zA, zB, zC]; rfl) ?_; clear hO; intro A' c' u hO; simp only [zC, zB] at hO) | fail)
          replace hO := hO.pick [0, 1, 2, 3, 4] (by decide)
          simp only [zN, zO, zE, zD] at hO
          go_roundw
          case rel => exact ⟨q + 1, _, _, is ++ [(⟨p, 0, ⟨#[]⟩⟩ : It)], by omega, by go_num, fin _ _ _ (by decide), by rw [← rw1]; exact hO⟩
          case measure => simp [intOf]; omega
        · have d1 : (d != 0) = true := by simpa using d0
          have d2 : (d == 0) = false := by simpa using d0
          clear d0
          go_wp2_with (first | ((with_reducible refine zaa ?_); refine zlf rfl hO rfl _ (by exact at5) ?_) | fail)
          refine (spec_absAny p _).mono ?_
          rintro e u ⟨y, rfl, rfl⟩
          go_wp2_with (first | ((with_reducible refine (spec_numB _ _).mono ?_); rintro e u ⟨rfl, hb⟩; (replace hO := hO.step hb; clear hb)) | ((with_reducible refine zaa ?_); refine zlb rfl hO rfl _ (by exact at5) ?_) | ((with_reducible refine zaa ?_); refine zlf rfl hO rfl _ (by exact at3) ?_) | ((with_reducible refine zab ?_); refine zsb rfl hO rfl _ (by exact at5) rfl ?_; clear hO; intro u hO; simp only [zC, zB] at hO) | ((with_reducible refine zab ?_); refine zsf rfl hO rfl _ (by exact at3) (zM rfl) ?_; clear hO; intro u hO; simp only [zC, zB] at hO) | ((with_reducible refine zao ?_); refine zaw (cs := [.int .i64 (y.tmod 2), .int .i64 1, .string ⟨#[]⟩]) hO rfl (by rfl) (by simp only [Act.eval, zJ, zF, zD, zE, zP]; rfl) rfl rfl (zM rfl) rfl (fun b => by simp only [Act.put, zA, zB, zC]; rfl) ?_; clear hO; intro bb u hO; simp only [zL, zK] at hO) | ((with_reducible refine za2 ?_); refine zav hO rfl (by rfl) rfl rfl _ (by exact at4) _ (by exact at6) (by rfl) (by simp [Value.oneCell']) (by omega) (by omega) rfl (fun A' c' => by simp only [Act.put, zA, zB, zC]; rfl) ?_; clear hO; intro A' c' u hO; simp only [zC, zB] at hO) | fail)
          replace hO := hO.pick [0, 1, 2, 3, 4] (by decide)
          simp only [zN, zO, zE, zD] at hO
          go_roundw
          case rel => exact ⟨q + 1, _, _, is ++ [(⟨y.tmod 2, 1, ⟨#[]⟩⟩ : It)], by omega, by go_num, fin _ _ _ (by decide), by rw [← rw1]; exact hO⟩
          case measure => simp [intOf]; omega
      · have g1 : (k == 1) = false := by simpa using k1
        by_cases k3 : k = 3
        · subst k3
          by_cases d0 : d = 0
          · subst d0
            go_wp2_with (first | ((with_reducible refine zaa ?_); refine zlb rfl hO rfl _ (by exact at5) ?_) | ((with_reducible refine zaa ?_); refine zlf rfl hO rfl _ (by (first | exact at3 | exact at5 | fail)) ?_) | ((with_reducible refine zab ?_); refine zsf rfl hO rfl _ (by exact at3) (zM rfl) ?_; clear hO; intro u hO; simp only [zC, zB] at hO) | ((with_reducible refine zao ?_); refine zaw (cs := [.int .i64 p, .int .i64 0, .string ⟨#[]⟩]) hO rfl (by rfl) (by simp only [Act.eval, zJ, zF, zD, zE, zP]; rfl) rfl rfl (zM rfl) rfl (fun b => by simp only [Act.put, zA, zB, zC]; rfl) ?_; clear hO; intro bb u hO; simp only [zL, zK] at hO) | ((with_reducible refine za2 ?_); refine zav hO rfl (by rfl) rfl rfl _ (by exact at4) _ (by exact at6) (by rfl) (by simp [Value.oneCell']) (by omega) (by omega) rfl (fun A' c' => by simp only [Act.put, zA, zB, zC]; rfl) ?_; clear hO; intro A' c' u hO; simp only [zC, zB] at hO) | fail)
            replace hO := hO.pick [0, 1, 2, 3, 4] (by decide)
            simp only [zN, zO, zE, zD] at hO
            go_roundw
            case rel => exact ⟨q + 1, _, _, is ++ [(⟨p, 0, ⟨#[]⟩⟩ : It)], by omega, by go_num, fin _ _ _ (by decide), by rw [← rw1]; exact hO⟩
            case measure => simp [intOf]; omega
          · have d1 : (d != 0) = true := by simpa using d0
            have d2 : (d == 0) = false := by simpa using d0
            clear d0
            go_wp2_with (first | ((with_reducible refine zaa ?_); refine zlf rfl hO rfl _ (by exact at5) ?_) | fail)
            refine (cd_word h hO).mono ?_
            clear hO
            rintro e u ⟨y, rfl, hy, hO⟩
            go_wp2_with (first | ((with_reducible refine (spec_textB _ _).mono ?_); rintro e u ⟨rfl, hb⟩; (replace hO := hO.step hb; clear hb)) | ((with_reducible refine zaa ?_); refine zlb rfl hO rfl _ (by exact at5) ?_) | ((with_reducible refine zaa ?_); refine zlf rfl hO rfl _ (by exact at3) ?_) | ((with_reducible refine zab ?_); refine zsb rfl hO rfl _ (by exact at5) rfl ?_; clear hO; intro u hO; simp only [zC, zB] at hO) | ((with_reducible refine zab ?_); refine zsf rfl hO rfl _ (by exact at3) (zM rfl) ?_; clear hO; intro u hO; simp only [zC, zB] at hO) | ((with_reducible refine zao ?_); refine zaw (cs := [.int .i64 0, .int .i64 1, .string y]) hO rfl (by rfl) (by simp only [Act.eval, zJ, zF, zD, zE, zP]; rfl) rfl rfl (zM rfl) rfl (fun b => by simp only [Act.put, zA, zB, zC]; rfl) ?_; clear hO; intro bb u hO; simp only [zL, zK] at hO) | ((with_reducible refine za2 ?_); refine zav hO rfl (by rfl) rfl rfl _ (by exact at4) _ (by exact at6) (by rfl) (by simp [Value.oneCell']) (by omega) (by omega) rfl (fun A' c' => by simp only [Act.put, zA, zB, zC]; rfl) ?_; clear hO; intro A' c' u hO; simp only [zC, zB] at hO) | fail)
            replace hO := hO.pick [0, 1, 2, 3, 4] (by decide)
            simp only [zN, zO, zE, zD] at hO
            go_roundw
            case rel => exact ⟨q + 1, _, _, is ++ [(⟨0, 1, y⟩ : It)], by omega, by go_num, fin _ _ _ hy, by rw [← rw1]; exact hO⟩
            case measure => simp [intOf]; omega
        · have g3 : (k == 3) = false := by simpa using k3
          go_wp2_with (first | ((with_reducible refine zaa ?_); refine zlb rfl hO rfl _ (by exact at5) ?_) | ((with_reducible refine zaa ?_); refine zlf rfl hO rfl _ (by exact at3) ?_) | ((with_reducible refine zab ?_); refine zsf rfl hO rfl _ (by exact at3) (zM rfl) ?_; clear hO; intro u hO; simp only [zC, zB] at hO) | ((with_reducible refine zao ?_); refine zaw (cs := [.int .i64 p, .int .i64 d, .string ⟨#[]⟩]) hO rfl (by rfl) (by simp only [Act.eval, zJ, zF, zD, zE, zP]; rfl) rfl rfl (zM rfl) rfl (fun b => by simp only [Act.put, zA, zB, zC]; rfl) ?_; clear hO; intro bb u hO; simp only [zL, zK] at hO) | ((with_reducible refine za2 ?_); refine zav hO rfl (by rfl) rfl rfl _ (by exact at4) _ (by exact at6) (by rfl) (by simp [Value.oneCell']) (by omega) (by omega) rfl (fun A' c' => by simp only [Act.put, zA, zB, zC]; rfl) ?_; clear hO; intro A' c' u hO; simp only [zC, zB] at hO) | fail)
          replace hO := hO.pick [0, 1, 2, 3, 4] (by decide)
          simp only [zN, zO, zE, zD] at hO
          go_roundw
          case rel => exact ⟨q + 1, _, _, is ++ [(⟨p, d, ⟨#[]⟩⟩ : It)], by omega, by go_num, fin _ _ _ (by decide), by rw [← rw1]; exact hO⟩
          case measure => simp [intOf]; omega
    · have i1 : ¬ (q : Int) < (m : Int) := by omega
      have e : q = m := by omega
      subst e
      go_wp2_with (first | ((with_reducible refine zaa ?_); refine zlb rfl hO rfl _ (by exact at3) ?_) | ((with_reducible refine zab ?_); refine zsb rfl hO rfl _ (by exact at2) rfl ?_; clear hO; intro u hO; simp only [zC, zB] at hO) | fail)
      exact zan rfl hO rfl 2 at2 rfl rfl ⟨is, A', c', rfl, hI.out, hO.pick [4, 0, 1] (by decide)⟩

theorem Own.box_cut {w0 w : World} {R : List Res} {b : Nat} {t : TypeId} {cs : List Value} (h : Own w0 (box b t cs :: R) w) (sz m n : Nat) (hn : cs.length = n * sz) (hmn : m ≤ n) (hm : n ≤ 9223372036854775807) : Own w0 (row t sz (.slice (some ⟨b, 0, none⟩) m n) m (cs.take (m * sz)) :: R) w := by
  have hb : w.heap[b]? = some (.cells cs.toArray t (0, 0)) := h.holds _ (List.mem_cons_self)
  have hle : m * sz ≤ n * sz := Nat.mul_le_mul_right _ hmn
  refine h.turn rfl rfl rfl (Nat.le_refl _) (fun _ _ _ => rfl) ⟨by rw [List.length_take, hn]; omega, .inr ⟨b, n, cs.toArray, rfl, Nat.zero_le _, hb, hmn, by unfold maxLen; exact hm, by simpa using hn, ?_⟩⟩ (fun k hk => .inl ?_)
  · simp
  · have : (some b : Option Nat) = some k := hk
    injection this with this
    exact this.symm

/-- a literal of several elements, made in a drawn region -/
def J.freshN (E : TypeId) (n : Nat) (cs : List Value) : Value × List Res → Prop := fun x => ∃ b, x = (.slice (some ⟨b, 0, none⟩) n n, [box b E cs])

def facS : ByteArray := ⟨#[102, 97, 99, 116, 111, 114]⟩

def abcL : List ByteArray := [⟨#[97]⟩, ⟨#[98]⟩, ⟨#[99]⟩]

set_option maxRecDepth 20000 in
set_option maxHeartbeats 4000000 in
theorem cd_factorA {w0 w : World} {A : Option Addr} {n c b : Nat} {l : List Int} {r : Res} (m : Nat) (hm : m ≤ 100000) (h : Cod w0 A n l) (hO : Own w0 [cur b A n c, r] w) :
    Calls Tryz.prog 103 #[.pointer (some ⟨b, 0, none⟩), .int .i64 (m : Int)] w fun e w' => ∃ is ls A' c' Ac Al cc cl, e = .returned (.agg #[.int .i64 2, .slice A' m c', .slice none 0 0, .slice none 0 0, .slice Ac 1 cc, .slice Al (List.length ls) cl, .int .i64 0, .int .i64 0]) ∧ (List.length is = m ∧ (∀ x ∈ is, x.text.size ≤ 24) ∧ List.length ls ≤ 3 ∧ ∀ s ∈ ls, s.size ≤ 24) ∧ Own w0 [row 35 3 (.slice A' m c') m (itc is), row 9 1 (.slice Ac 1 cc) 1 [.string facS], row 9 1 (.slice Al ls.length cl) ls.length (stc ls), cur b A n c, r] w' := by
  skip
  go_enter Tryz.func103, Tryz.ntmps103
  go_wp2_with (first | ((with_reducible refine zac ?_); refine zal rfl hO rfl ?_; (refine nm 2 rfl ?_; clear hO; intro b2 u hO); simp only [zL, zK] at hO) | ((with_reducible refine zao ?_); refine zaj (cs := [.string ⟨#[102, 97, 99, 116, 111, 114]⟩]) hO rfl (by rfl) [.string ⟨#[102, 97, 99, 116, 111, 114]⟩] (by rfl) (by rfl) rfl (zM rfl) (by rfl) rfl (fun b => by simp only [Act.put, zA, zB, zC]; rfl) ?_; clear hO; intro bb u hO; simp only [zL, zK] at hO) | ((with_reducible refine zao ?_); refine zaj (cs := [.string ⟨#[97]⟩, .string ⟨#[98]⟩, .string ⟨#[99]⟩]) hO rfl (by rfl) [.string ⟨#[97]⟩, .string ⟨#[98]⟩, .string ⟨#[99]⟩] (by rfl) (by rfl) rfl (zM rfl) (by rfl) rfl (fun b => by simp only [Act.put, zA, zB, zC]; rfl) ?_; clear hO; intro bb u hO; simp only [zL, zK] at hO) | fail)
  refine (cd_below 3 (by decide) (by decide) h hO).mono ?_
  clear hO
  rintro e u ⟨x, rfl, hx, hO⟩
  go_wp2_with (first | ((with_reducible refine zac ?_); refine zal rfl hO rfl ?_; (refine nm 5 rfl ?_; clear hO; intro b5 u hO); simp only [zL, zK] at hO) | ((with_reducible refine zab ?_); refine zsb rfl hO rfl _ (by exact at5) rfl ?_; clear hO; intro u hO; simp only [zC, zB] at hO) | fail)
  replace hO := hO.front 3 rfl
  simp only [List.eraseIdx_cons_zero, List.eraseIdx_cons_succ] at hO
  replace hO := hO.box_cut 1 1 1 rfl (Nat.le_refl _) (by decide)
  replace hO := hO.front 4 rfl
  simp only [List.eraseIdx_cons_zero, List.eraseIdx_cons_succ] at hO
  replace hO := hO.box_cut 1 (1 + x) 3 rfl (by omega) (by decide)
  obtain ⟨ls, hls⟩ : ∃ ls : List ByteArray, abcL.take (1 + x) = ls := ⟨_, rfl⟩
  have hll : ls.length = 1 + x := by rw [← hls, List.length_take]; show min (1 + x) 3 = _; omega
  have hst : List.take ((1 + x) * 1) [.string ⟨#[97]⟩, .string ⟨#[98]⟩, .string ⟨#[99]⟩] = stc ls := by
    rw [← hls]
    unfold stc
    rw [List.map_take, Nat.mul_one]
    rfl
  have hlz : ∀ s ∈ ls, s.size ≤ 24 := fun s hs => by
    rw [← hls] at hs
    have h1 : ∀ s ∈ abcL, s.size ≤ 24 := by decide
    exact h1 s (List.mem_of_mem_take hs)
  rw [hst] at hO
  have HLS := Lib.hid (And.intro hll hlz)
  clear hls hst hlz hll
  replace hO := hO.addNil 35 3
  simp only [List.cons_append, List.nil_append] at hO
  replace hO := hO.pick [2, 3, 4, 5, 1, 0, 6] (by decide)
  simp only [zN, zO, zE, zD] at hO
  go_loopw [6] (fun iq u => ∃ (q : Nat) (A' Ac Al : Option Addr) (c' cc cl : Nat) (is : List It), q ≤ m ∧ iq = .int .i64 q ∧ Hid (is.length = q ∧ ∀ x ∈ is, x.text.size ≤ 24) ∧ Own w0 [cur b A n c, r, box b2 28 [.int .i64 0, .slice none 0 0, .slice none 0 0, .slice none 0 0, .slice none 0 0, .slice none 0 0, .int .i64 0, .int .i64 0], box b5 28 [.int .i64 2, .slice A' q c', .slice none 0 0, .slice none 0 0, .slice Ac 1 cc, .slice Al (1 + x) cl, .int .i64 0, .int .i64 0], row 9 1 (.slice Ac 1 cc) 1 [.string facS], row 9 1 (.slice Al (1 + x) cl) (1 + x) (stc ls), row 35 3 (.slice A' q c') q (itc is)] u) (fun iq _ => m - (intOf iq).toNat)
  case atStart => exact ⟨0, _, _, _, _, _, _, [], Nat.zero_le _, rfl, Lib.hid ⟨rfl, by simp⟩, hO⟩
  case round =>
    clear hO
    obtain ⟨q, A', Ac, Al, c', cc, cl, is, hq, rfl, hI, hO⟩ := hrel
    have fin : ∀ (p d : Int) (t : ByteArray), t.size ≤ 24 → Hid ((is ++ [(⟨p, d, t⟩ : It)]).length = q + 1 ∧ ∀ x ∈ is ++ [(⟨p, d, t⟩ : It)], x.text.size ≤ 24) := fun p d t ht => Lib.hid ⟨by rw [List.length_append, hI.out.1]; rfl, fun x hx => by
      rcases List.mem_append.1 hx with hx | hx
      · exact hI.out.2 x hx
      · rw [List.mem_singleton.1 hx]; exact ht⟩
    have rw1 : ∀ (p d : Int) (t : ByteArray), itc is ++ [.int .i64 p, .int .i64 d, .string t] = itc (is ++ [(⟨p, d, t⟩ : It)]) := fun p d t => by rw [itc_app]; rfl
    by_cases hlt : q < m
    · have i1 : (q : Int) < (m : Int) := by omega
      go_wp2_with (first | ((with_reducible refine zaa ?_); refine zlf rfl hO rfl _ (by exact at3) ?_) | fail)
      refine (cd_below (1 + x) (by omega) (by omega) h hO).mono ?_
      clear hO
      rintro e u ⟨y, rfl, hy, hO⟩
      go_wp2_with (first | ((with_reducible refine (spec_numB _ _).mono ?_); rintro e u ⟨rfl, hb⟩; (replace hO := hO.step hb; clear hb)) | ((with_reducible refine zac ?_); refine zal rfl hO rfl ?_; (refine nm 7 rfl ?_; clear hO; intro b7 u hO); simp only [zL, zK] at hO) | ((with_reducible refine zab ?_); refine zsb rfl hO rfl _ (by exact at7) rfl ?_; clear hO; intro u hO; simp only [zC, zB] at hO) | fail)
      refine (cd_once 7 (by decide) (by decide) h hO).mono ?_
      clear hO
      rintro e u ⟨z, rfl, hO⟩
      cases z with
      | true =>
        go_wp2_with (first | ((with_reducible refine zaa ?_); refine zlb rfl hO rfl _ (by exact at7) ?_) | ((with_reducible refine zaa ?_); refine zlf rfl hO rfl _ (by exact at3) ?_) | ((with_reducible refine zab ?_); refine zsb rfl hO rfl _ (by exact at7) rfl ?_; clear hO; intro u hO; simp only [zC, zB] at hO) | ((with_reducible refine zab ?_); refine zsf rfl hO rfl _ (by exact at3) (zM rfl) ?_; clear hO; intro u hO; simp only [zC, zB] at hO) | ((with_reducible refine zao ?_); refine zaw (cs := [.int .i64 0, .int .i64 0, .string ⟨#[]⟩]) hO rfl (by rfl) (by simp only [Act.eval, zJ, zF, zD, zE, zP]; rfl) rfl rfl (zM rfl) rfl (fun b => by simp only [Act.put, zA, zB, zC]; rfl) ?_; clear hO; intro bb u hO; simp only [zL, zK] at hO) | ((with_reducible refine za2 ?_); refine zav hO rfl (by rfl) rfl rfl _ (by exact at6) _ (by exact at8) (by rfl) (by simp [Value.oneCell']) (by omega) (by omega) rfl (fun A' c' => by simp only [Act.put, zA, zB, zC]; rfl) ?_; clear hO; intro A' c' u hO; simp only [zC, zB] at hO) | fail)
        replace hO := hO.pick [0, 1, 2, 3, 4, 5, 6] (by decide)
        simp only [zN, zO, zE, zD] at hO
        go_roundw
        case rel => exact ⟨q + 1, _, _, _, _, _, _, is ++ [(⟨0, 0, ⟨#[]⟩⟩ : It)], by omega, by go_num, fin _ _ _ (by decide), by rw [← rw1]; exact hO⟩
        case measure => simp [intOf]; omega
      | false =>
        go_wp2_with (first | ((with_reducible refine zaa ?_); refine zlb rfl hO rfl _ (by exact at7) ?_) | ((with_reducible refine zaa ?_); refine zlf rfl hO rfl _ (by exact at3) ?_) | ((with_reducible refine zab ?_); refine zsf rfl hO rfl _ (by exact at3) (zM rfl) ?_; clear hO; intro u hO; simp only [zC, zB] at hO) | ((with_reducible refine zao ?_); refine zaw (cs := [.int .i64 (1 + (y : Int)), .int .i64 1, .string ⟨#[]⟩]) hO rfl (by rfl) (by simp only [Act.eval, zJ, zF, zD, zE, zP]; rfl) rfl rfl (zM rfl) rfl (fun b => by simp only [Act.put, zA, zB, zC]; rfl) ?_; clear hO; intro bb u hO; simp only [zL, zK] at hO) | ((with_reducible refine za2 ?_); refine zav hO rfl (by rfl) rfl rfl _ (by exact at6) _ (by exact at8) (by rfl) (by simp [Value.oneCell']) (by omega) (by omega) rfl (fun A' c' => by simp only [Act.put, zA, zB, zC]; rfl) ?_; clear hO; intro A' c' u hO; simp only [zC, zB] at hO) | fail)
        replace hO := hO.pick [0, 1, 2, 3, 4, 5, 6] (by decide)
        simp only [zN, zO, zE, zD] at hO
        go_roundw
        case rel => exact ⟨q + 1, _, _, _, _, _, _, is ++ [(⟨1 + (y : Int), 1, ⟨#[]⟩⟩ : It)], by omega, by go_num, fin _ _ _ (by decide), by rw [← rw1]; exact hO⟩
        case measure => simp [intOf]; omega
    · have i1 : ¬ (q : Int) < (m : Int) := by omega
      have e : q = m := by omega
      subst e
      go_wp2_with (first | ((with_reducible refine zaa ?_); refine zlb rfl hO rfl _ (by exact at3) ?_) | ((with_reducible refine zab ?_); refine zsb rfl hO rfl _ (by exact at2) rfl ?_; clear hO; intro u hO; simp only [zC, zB] at hO) | fail)
      have e1 := HLS.out.1
      refine zan rfl hO rfl 2 at2 rfl rfl ?_
      rw [← e1] at hO ⊢
      exact ⟨is, ls, A', c', Ac, Al, cc, cl, rfl, ⟨hI.out.1, hI.out.2, by omega, HLS.out.2⟩, hO.pick [6, 4, 5, 0, 1] (by decide)⟩

end Go.Proofs.YtmofcbpabdbjlaaGreat
