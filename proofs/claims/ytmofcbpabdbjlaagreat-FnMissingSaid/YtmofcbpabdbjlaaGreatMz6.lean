/-
  What is proved: plain facts on the rational value of numbers as MakeNumber makes them; no program in sight; things that a call made enter the things of its caller; a block that is known whole read as a row; what the reference's readers of items return: some item whose integers a machine holds; what the reference's readers of words, of lists of words and of integers return; plain facts on vectors as trees: when one is valid, how deep and how large it is; the program's and the reference's tests agree. No program in sight.
  Condition: codes of at most 1048576 bytes.
-/
import Derived.Test.YtmofcbpabdbjlaaGreatMz1
import Derived.Test.YtmofcbpabdbjlaaGreatMz2
import Derived.Test.YtmofcbpabdbjlaaGreatMz4
import Derived.Test.YtmofcbpabdbjlaaGreatMz5
namespace Go.Proofs.YtmofcbpabdbjlaaGreat.Nm

set_option maxRecDepth 8000

set_option linter.unusedVariables false

set_option linter.unusedSimpArgs false

/-- the value of a fraction -/
def rv (p : Int × Int) : Rat := (p.1 : Rat) / (p.2 : Rat)

theorem isNum_facts {n d : Int} (h : isNum n d = true) : 1 ≤ d ∧ d ≤ 999999999 ∧ -999999999 ≤ n ∧ n ≤ 999999999 ∧ Int.gcd n d = 1 := of_decide_eq_true h

theorem mk_ok {n d : Int} (h : (mk n d).2 ≠ 0) : d ≠ 0 ∧ isNum (mk n d).1 (mk n d).2 = true ∧ (mk n d).1 * d = n * (mk n d).2 := by
  unfold mk at h ⊢
  by_cases h1 : d = 0 ∨ inL n = false ∨ inL d = false
  · rw [if_pos h1] at h; simp at h
  · rw [if_neg h1] at h ⊢
    have hd : d ≠ 0 := fun e => h1 (.inl e)
    by_cases h2 : inM (red n d) = true
    · rw [if_pos h2]
      have h3 := of_decide_eq_true h2
      have h4 := red_pos n d hd
      exact ⟨hd, decide_eq_true ⟨h4, h3.2.2, h3.1, h3.2.1, red_gcd n d hd⟩, red_cross n d hd⟩
    · rw [if_neg h2] at h; simp at h

end Go.Proofs.YtmofcbpabdbjlaaGreat.Nm

namespace Go.Proofs.YtmofcbpabdbjlaaGreat

set_option maxRecDepth 8000

open Go Go.RowKit

section

variable {w0 w w' : World} {L N : List Res}

theorem Own.call (h : Own w0 L w) (h' : Own w N w') : Own w0 (N ++ L) w' := by
  have hs := h.step h'.below
  refine ⟨hs.below, fun r hr => ?_, fun r hr b hb => ?_, List.pairwise_append.2 ⟨h'.sep, hs.sep, fun r hr s hsm b hrb hsb => ?_⟩⟩
  · rcases List.mem_append.1 hr with hr | hr
    · exact h'.holds r hr
    · exact hs.holds r hr
  · rcases List.mem_append.1 hr with hr | hr
    · have := h'.lo r hr b hb
      exact ⟨Nat.le_trans h.below.size this.1, this.2⟩
    · exact hs.lo r hr b hb
  · have := h'.lo r hr b hrb
    have := h.lo s hsm b hsb
    omega

theorem Own.box_sl (h : Own w0 L w) (k : Nat) {b : Nat} {t : TypeId} {cs : List Value} {sz n : Nat} (hk : L[k]? = some (box b t cs)) (hn : cs.length = n * sz) : Sl w sz (some ⟨b, 0, none⟩) n cs :=
  ⟨hn, fun _ => ⟨b, 0, rfl, (h.lt k hk).2, fun j u hu => by rw [Nat.zero_add, h.cell k hk]; exact hu⟩⟩

end

end Go.Proofs.YtmofcbpabdbjlaaGreat

namespace Go.Proofs.YtmofcbpabdbjlaaGreat

set_option maxRecDepth 8000

open Go.RowKit Go.ChangeShapes Go.WideShapes Go.Deep

set_option linter.unusedVariables false

set_option linter.unusedSimpArgs false

/-- many things as one -/
def packB (F : List Res) : Res where
  foot := fun b => ∃ r ∈ F, r.foot b
  holds := fun w => (∀ r ∈ F, r.holds w) ∧ F.Pairwise fun (r s : Res) => ∀ b : Nat, r.foot b → ¬ s.foot b
  loc := fun w w' h hw => ⟨fun r hr => r.loc w w' (fun b hb => h b ⟨r, hr, hb⟩) (hw.1 r hr), hw.2⟩

section

variable {w0 w w' : World} {F G L : List Res} {r s : Res}

theorem Own.packB (h : Own w0 (F ++ L) w) : Own w0 (packB F :: L) w := by
  obtain ⟨h1, h2, h3, h4⟩ := h
  obtain ⟨p1, p2, p3⟩ := List.pairwise_append.1 h4
  refine ⟨h1, fun r hr => ?_, fun r hr b hb => ?_, List.pairwise_cons.2 ⟨fun s hs b hb hsb => ?_, p2⟩⟩
  · rcases List.mem_cons.1 hr with rfl | hr
    · exact ⟨fun q hq => h2 q (List.mem_append_left _ hq), p1⟩
    · exact h2 r (List.mem_append_right _ hr)
  · rcases List.mem_cons.1 hr with rfl | hr
    · obtain ⟨q, hq, hqb⟩ := hb
      exact h3 q (List.mem_append_left _ hq) b hqb
    · exact h3 r (List.mem_append_right _ hr) b hb
  · obtain ⟨q, hq, hqb⟩ := hb
    exact p3 q hq s hs b hqb hsb

theorem Own.unpackB (h : Own w0 (Go.Proofs.YtmofcbpabdbjlaaGreat.packB F :: L) w) : Own w0 (F ++ L) w := by
  obtain ⟨h1, h2, h3, h4⟩ := h
  obtain ⟨p1, p2⟩ := List.pairwise_cons.1 h4
  have hp := h2 _ (List.mem_cons_self)
  refine ⟨h1, fun r hr => ?_, fun r hr b hb => ?_, List.pairwise_append.2 ⟨hp.2, p2, fun q hq s hs b hqb hsb => p1 s hs b ⟨q, hq, hqb⟩ hsb⟩⟩
  · rcases List.mem_append.1 hr with hr | hr
    · exact hp.1 r hr
    · exact h2 r (List.mem_cons_of_mem _ hr)
  · rcases List.mem_append.1 hr with hr | hr
    · exact h3 _ (List.mem_cons_self) b ⟨r, hr, hb⟩
    · exact h3 r (List.mem_cons_of_mem _ hr) b hb

end

theorem Rd.pk {w0 u : World} {b n c : Nat} {A : Option Addr} {L : List Res} (h : Rd w0 b A n c L u) : Rd w0 b A n c [packB L] u := by
  obtain ⟨i, z, hi, hO⟩ := h
  refine ⟨i, z, hi, ?_⟩
  have h1 := hO.perm (L' := L ++ [box b 72 [.slice A n c, .int .i64 i, .int .i64 z]]) (List.perm_append_comm (l₁ := [_]))
  exact h1.packB.perm (List.Perm.swap _ _ _)

theorem Rd.unpk {w0 u : World} {b n c : Nat} {A : Option Addr} {L : List Res} (h : Rd w0 b A n c [packB L] u) : Rd w0 b A n c L u := by
  obtain ⟨i, z, hi, hO⟩ := h
  refine ⟨i, z, hi, ?_⟩
  have h1 := (hO.perm (List.Perm.swap _ _ _)).unpackB
  exact h1.perm (List.perm_append_comm (l₂ := [_]))

theorem mk_bdB (n d : Int) : -999999999 ≤ (Nm.mk n d).1 ∧ (Nm.mk n d).1 ≤ 999999999 ∧ 0 ≤ (Nm.mk n d).2 ∧ (Nm.mk n d).2 ≤ 999999999 := by
  by_cases h : (Nm.mk n d).2 = 0
  · have : (Nm.mk n d).1 = 0 := by
      unfold Nm.mk at h ⊢
      by_cases h1 : d = 0 ∨ Nm.inL n = false ∨ Nm.inL d = false
      · rw [if_pos h1]
      · rw [if_neg h1] at h ⊢
        by_cases h2 : Nm.inM (Nm.red n d) = true
        · rw [if_pos h2] at h
          have := Nm.red_pos n d (fun e => h1 (.inl e))
          omega
        · rw [if_neg h2]
    omega
  · obtain ⟨_, h2, _⟩ := Nm.mk_ok h
    obtain ⟨a1, a2, a3, a4, _⟩ := Nm.isNum_facts h2
    omega

/-- an item that a reader hands back -/
def Itm (e : Ending) (n d : Int) (t : ByteArray) : Prop := e = .returned (.agg #[.int .i64 n, .int .i64 d, .string t]) ∧ (-9223372036854775808 ≤ n ∧ n ≤ 9223372036854775807) ∧ (-9223372036854775808 ≤ d ∧ d ≤ 9223372036854775807) ∧ t.size ≤ 1

theorem spec_numB (z : Int) (w : World) : Calls Tryz.prog 50 #[.int .i64 z] w fun e w' => e = .returned (.agg #[.int .i64 z, .int .i64 1, .string ⟨#[]⟩]) ∧ Below w.heap.size w w' := by
  go_enter Tryz.func50, Tryz.ntmps50
  have hO := Own.nil w
  go_wp2_with (first | ((with_reducible refine zac ?_); refine zal rfl hO rfl ?_; (refine nm 0 rfl ?_; clear hO; intro b0 u hO); simp only [zL, zK] at hO) | ((with_reducible refine zab ?_); refine zsb rfl hO rfl _ (by exact at0) rfl ?_; clear hO; intro u hO; simp only [zC, zB] at hO) | fail)
  exact zan rfl hO rfl 0 rfl rfl rfl ⟨rfl, hO.below⟩

def dnA : List Int := [999999999, -999999999, 999999998, 65537, 100000]

def dnB : List Int := [1, 1, 999999999, 999999937, 2]

theorem dnA_bd : ∀ y ∈ dnA, -999999999 ≤ y ∧ y ≤ 999999999 := by decide

theorem dnB_bd : ∀ y ∈ dnB, -999999999 ≤ y ∧ y ≤ 999999999 := by decide

set_option maxRecDepth 20000 in
set_option maxHeartbeats 2000000 in
theorem draw_l2DrawA {w0 w : World} {A : Option Addr} {n c b : Nat} {l : List Int} {r : Res} (h : Cod w0 A n l) (hR : Rd w0 b A n c [r] w) :
    Calls Tryz.prog 49 #[.pointer (some ⟨b, 0, none⟩)] w fun e w' => ∃ p q, Itm e p q ⟨#[]⟩ ∧ Rd w0 b A n c [r] w' := by
  skip
  obtain ⟨i, z, hi, hO⟩ := hR
  go_enter Tryz.func49, Tryz.ntmps49
  go_wp2_with (first | ((with_reducible refine zac ?_); refine zal rfl hO rfl ?_; (refine nm 2 rfl ?_; clear hO; intro b2 u hO); simp only [zL, zK] at hO) | fail)
  refine (zbg 12 (by decide) (by decide) h ⟨i, z, hi, hO⟩).mono ?_
  clear hO hi i z
  rintro e u ⟨x, rfl, hx, i, z, hi, hO⟩
  by_cases x0 : x = 0
  · subst x0
    go_wp2_with (first | ((with_reducible refine zab ?_); refine zsb rfl hO rfl _ (by exact at2) rfl ?_; clear hO; intro u hO; simp only [zC, zB] at hO) | fail)
    exact zan rfl hO rfl 2 at2 rfl rfl ⟨_, _, ⟨rfl, by omega, by omega, by decide⟩, i, z, hi, hO.pickB [0, 1] (by decide)⟩
  by_cases x3 : x = 3
  · subst x3
    go_wp2_with (first | ((with_reducible refine zao ?_); refine zaj (cs := [.int .i64 (999999999), .int .i64 (-999999999), .int .i64 (999999998), .int .i64 (65537), .int .i64 (100000)]) hO rfl (by rfl) [.int .i64 (999999999), .int .i64 (-999999999), .int .i64 (999999998), .int .i64 (65537), .int .i64 (100000)] (by rfl) (by rfl) rfl (zM rfl) (by rfl) rfl (fun b => by simp only [Act.put, zA, zB, zC]; rfl) ?_; clear hO; intro bb u hO; simp only [zL, zK] at hO) | fail)
    refine (draw_pickInt dnA 5 rfl (by decide) (by decide) 2 at2 h ⟨i, z, hi, hO⟩).mono ?_
    clear hO hi i z
    rintro e u ⟨y, hy, rfl, i, z, hi, hO⟩
    go_wp2_with (first | ((with_reducible refine zao ?_); refine zaj (cs := [.int .i64 (1), .int .i64 (1), .int .i64 (999999999), .int .i64 (999999937), .int .i64 (2)]) hO rfl (by rfl) [.int .i64 (1), .int .i64 (1), .int .i64 (999999999), .int .i64 (999999937), .int .i64 (2)] (by rfl) (by rfl) rfl (zM rfl) (by rfl) rfl (fun b => by simp only [Act.put, zA, zB, zC]; rfl) ?_; clear hO; intro bb u hO; simp only [zL, zK] at hO) | fail)
    refine (draw_pickInt dnB 5 rfl (by decide) (by decide) 3 at3 h ⟨i, z, hi, hO⟩).mono ?_
    clear hO hi i z
    rintro e u ⟨y', hy', rfl, i, z, hi, hO⟩
    have b1 := dnA_bd y hy
    have b2 := dnB_bd y' hy'
    have b3 := mk_bdB y y'
    clear hy hy' x0
    go_wp2_with (first | ((with_reducible refine (spec_make y y' _ (by omega) (by omega)).mono ?_); rintro e u ⟨rfl, hb⟩; (replace hO := hO.step hb; clear hb)) | ((with_reducible refine zab ?_); refine zsb rfl hO rfl _ (by exact at2) rfl ?_; clear hO; intro u hO; simp only [zC, zB] at hO) | fail)
    exact zan rfl hO rfl 2 at2 rfl rfl ⟨_, _, ⟨rfl, by omega, by omega, by decide⟩, i, z, hi, hO.pickB [0, 1] (by decide)⟩
  by_cases x12 : x = 1 ∨ x = 2
  · have q0 : ((x : Int) == 0) = false := by simp; omega
    have q1 : ((x : Int) == 1) = true ∨ (((x : Int) == 1) = false ∧ ((x : Int) == 2) = true) := by
      rcases x12 with rfl | rfl
      · exact .inl rfl
      · exact .inr ⟨rfl, rfl⟩
    rcases q1 with q1 | ⟨q1, q2⟩
    · go_wp2_with fail
      refine (zbg 13 (by decide) (by decide) h ⟨i, z, hi, hO⟩).mono ?_
      clear hO hi i z
      rintro e u ⟨y, rfl, hy, i, z, hi, hO⟩
      go_wp2_with fail
      refine (zbg 6 (by decide) (by decide) h ⟨i, z, hi, hO⟩).mono ?_
      clear hO hi i z
      rintro e u ⟨y', rfl, hy', i, z, hi, hO⟩
      have b3 := mk_bdB ((y : Int) - 6) (1 + (y' : Int))
      clear x0 x3 x12
      go_wp2_with (first | ((with_reducible refine (spec_make ((y : Int) - 6) (1 + (y' : Int)) _ (by omega) (by omega)).mono ?_); rintro e u ⟨rfl, hb⟩; (replace hO := hO.step hb; clear hb)) | ((with_reducible refine zab ?_); refine zsb rfl hO rfl _ (by exact at2) rfl ?_; clear hO; intro u hO; simp only [zC, zB] at hO) | fail)
      exact zan rfl hO rfl 2 at2 rfl rfl ⟨_, _, ⟨rfl, by omega, by omega, by decide⟩, i, z, hi, hO.pickB [0, 1] (by decide)⟩
    · go_wp2_with fail
      refine (zbg 13 (by decide) (by decide) h ⟨i, z, hi, hO⟩).mono ?_
      clear hO hi i z
      rintro e u ⟨y, rfl, hy, i, z, hi, hO⟩
      go_wp2_with fail
      refine (zbg 6 (by decide) (by decide) h ⟨i, z, hi, hO⟩).mono ?_
      clear hO hi i z
      rintro e u ⟨y', rfl, hy', i, z, hi, hO⟩
      have b3 := mk_bdB ((y : Int) - 6) (1 + (y' : Int))
      clear x0 x3 x12
      go_wp2_with (first | ((with_reducible refine (spec_make ((y : Int) - 6) (1 + (y' : Int)) _ (by omega) (by omega)).mono ?_); rintro e u ⟨rfl, hb⟩; (replace hO := hO.step hb; clear hb)) | ((with_reducible refine zab ?_); refine zsb rfl hO rfl _ (by exact at2) rfl ?_; clear hO; intro u hO; simp only [zC, zB] at hO) | fail)
      exact zan rfl hO rfl 2 at2 rfl rfl ⟨_, _, ⟨rfl, by omega, by omega, by decide⟩, i, z, hi, hO.pickB [0, 1] (by decide)⟩
  · have q0 : ((x : Int) == 0) = false := by simp; omega
    have q1 : ((x : Int) == 1) = false := by simp; omega
    have q2 : ((x : Int) == 2) = false := by simp; omega
    have q3 : ((x : Int) == 3) = false := by simp; omega
    clear x0 x3 x12 hx
    go_wp2_with fail
    refine (zbg 12 (by decide) (by decide) h ⟨i, z, hi, hO⟩).mono ?_
    clear hO hi i z q0 q1 q2 q3
    rintro e u ⟨y, rfl, hy, i, z, hi, hO⟩
    go_wp2_with (first | ((with_reducible refine (spec_numB _ _).mono ?_); rintro e u ⟨rfl, hb⟩; (replace hO := hO.step hb; clear hb)) | ((with_reducible refine zab ?_); refine zsb rfl hO rfl _ (by exact at2) rfl ?_; clear hO; intro u hO; simp only [zC, zB] at hO) | fail)
    exact zan rfl hO rfl 2 at2 rfl rfl ⟨_, _, ⟨rfl, by omega, by omega, by decide⟩, i, z, hi, hO.pickB [0, 1] (by decide)⟩

def dnC : List Int := [0, -1, 2, 1000000000, -9223372036854775808]

def dnD : List Int := [0, 1000000000, -9223372036854775808, 9223372036854775807]

theorem dnC_bd : ∀ y ∈ dnC, -9223372036854775808 ≤ y ∧ y ≤ 9223372036854775807 := by decide

theorem dnD_bd : ∀ y ∈ dnD, -9223372036854775808 ≤ y ∧ y ≤ 9223372036854775807 := by decide

set_option maxRecDepth 20000 in
set_option maxHeartbeats 2000000 in
theorem draw_l2AnyA {w0 w : World} {A : Option Addr} {n c b : Nat} {l : List Int} {r : Res} (h : Cod w0 A n l) (hR : Rd w0 b A n c [r] w) :
    Calls Tryz.prog 85 #[.pointer (some ⟨b, 0, none⟩)] w fun e w' => ∃ p q t, Itm e p q t ∧ Rd w0 b A n c [r] w' := by
  skip
  obtain ⟨i, z, hi, hO⟩ := hR
  go_enter Tryz.func85, Tryz.ntmps85
  go_wp2_with (first | ((with_reducible refine zac ?_); refine zal rfl hO rfl ?_; (refine nm 2 rfl ?_; clear hO; intro b2 u hO); simp only [zL, zK] at hO) | fail)
  refine (draw_l2DrawA h (r := packB [r, box b2 35 [.int .i64 0, .int .i64 0, .string ⟨#[]⟩]]) (Rd.pk (L := [_, _]) ⟨i, z, hi, hO⟩)).mono ?_
  clear hO hi i z
  rintro e u ⟨p, q, ⟨rfl, hp, hq, _⟩, hR⟩
  obtain ⟨i, z, hi, hO⟩ := hR.unpk
  clear hR
  go_wp2_with (first | ((with_reducible refine zac ?_); refine zal rfl hO rfl ?_; (refine nm 3 rfl ?_; clear hO; intro b3 u hO); simp only [zL, zK] at hO) | ((with_reducible refine zab ?_); refine zsb rfl hO rfl _ (by exact at3) rfl ?_; clear hO; intro u hO; simp only [zC, zB] at hO) | fail)
  refine (zbg 20 (by decide) (by decide) h ⟨i, z, hi, hO⟩).mono ?_
  clear hO hi i z
  rintro e u ⟨x, rfl, hx, i, z, hi, hO⟩
  by_cases x0 : x = 0
  · subst x0
    go_wp2_with (first | ((with_reducible refine zaa ?_); refine zlb rfl hO rfl _ (by exact at3) ?_) | ((with_reducible refine zab ?_); refine zsb rfl hO rfl _ (by exact at2) rfl ?_; clear hO; intro u hO; simp only [zC, zB] at hO) | ((with_reducible refine zab ?_); refine zsf rfl hO rfl _ (by exact at3) (zM rfl) ?_; clear hO; intro u hO; simp only [zC, zB] at hO) | fail)
    exact zan rfl hO rfl 2 at2 rfl rfl ⟨_, _, _, ⟨rfl, by omega, by omega, by decide⟩, i, z, hi, hO.pickB [0, 1] (by decide)⟩
  by_cases x1 : x = 1
  · subst x1
    go_wp2_with (first | ((with_reducible refine zao ?_); refine zaj (cs := [.int .i64 (0), .int .i64 (-1), .int .i64 (2), .int .i64 (1000000000), .int .i64 (-9223372036854775808)]) hO rfl (by rfl) [.int .i64 (0), .int .i64 (-1), .int .i64 (2), .int .i64 (1000000000), .int .i64 (-9223372036854775808)] (by rfl) (by rfl) rfl (zM rfl) (by rfl) rfl (fun b => by simp only [Act.put, zA, zB, zC]; rfl) ?_; clear hO; intro bb u hO; simp only [zL, zK] at hO) | fail)
    refine (draw_pickInt dnC 5 rfl (by decide) (by decide) 3 at3 h ⟨i, z, hi, hO⟩).mono ?_
    clear hO hi i z
    rintro e u ⟨y, hy, rfl, i, z, hi, hO⟩
    have b1 := dnC_bd y hy
    clear hy x0
    go_wp2_with (first | ((with_reducible refine zaa ?_); refine zlb rfl hO rfl _ (by exact at3) ?_) | ((with_reducible refine zab ?_); refine zsb rfl hO rfl _ (by exact at2) rfl ?_; clear hO; intro u hO; simp only [zC, zB] at hO) | ((with_reducible refine zab ?_); refine zsf rfl hO rfl _ (by exact at3) (zM rfl) ?_; clear hO; intro u hO; simp only [zC, zB] at hO) | fail)
    exact zan rfl hO rfl 2 at2 rfl rfl ⟨_, _, _, ⟨rfl, by omega, by omega, by decide⟩, i, z, hi, hO.pickB [0, 1] (by decide)⟩
  by_cases x2 : x = 2
  · subst x2
    go_wp2_with (first | ((with_reducible refine zao ?_); refine zaj (cs := [.int .i64 (0), .int .i64 (1000000000), .int .i64 (-9223372036854775808), .int .i64 (9223372036854775807)]) hO rfl (by rfl) [.int .i64 (0), .int .i64 (1000000000), .int .i64 (-9223372036854775808), .int .i64 (9223372036854775807)] (by rfl) (by rfl) rfl (zM rfl) (by rfl) rfl (fun b => by simp only [Act.put, zA, zB, zC]; rfl) ?_; clear hO; intro bb u hO; simp only [zL, zK] at hO) | fail)
    refine (draw_pickInt dnD 4 rfl (by decide) (by decide) 3 at3 h ⟨i, z, hi, hO⟩).mono ?_
    clear hO hi i z
    rintro e u ⟨y, hy, rfl, i, z, hi, hO⟩
    have b1 := dnD_bd y hy
    clear hy x0 x1
    go_wp2_with (first | ((with_reducible refine zaa ?_); refine zlb rfl hO rfl _ (by exact at3) ?_) | ((with_reducible refine zab ?_); refine zsb rfl hO rfl _ (by exact at2) rfl ?_; clear hO; intro u hO; simp only [zC, zB] at hO) | ((with_reducible refine zab ?_); refine zsf rfl hO rfl _ (by exact at3) (zM rfl) ?_; clear hO; intro u hO; simp only [zC, zB] at hO) | fail)
    exact zan rfl hO rfl 2 at2 rfl rfl ⟨_, _, _, ⟨rfl, by omega, by omega, by decide⟩, i, z, hi, hO.pickB [0, 1] (by decide)⟩
  · have q0 : ((x : Int) == 0) = false := by simp; omega
    have q1 : ((x : Int) == 1) = false := by simp; omega
    have q2 : ((x : Int) == 2) = false := by simp; omega
    clear x0 x1 x2
    go_wp2_with (first | ((with_reducible refine zaa ?_); refine zlb rfl hO rfl _ (by exact at3) ?_) | ((with_reducible refine zab ?_); refine zsb rfl hO rfl _ (by exact at2) rfl ?_; clear hO; intro u hO; simp only [zC, zB] at hO) | fail)
    exact zan rfl hO rfl 2 at2 rfl rfl ⟨_, _, _, ⟨rfl, by omega, by omega, by decide⟩, i, z, hi, hO.pickB [0, 1] (by decide)⟩

theorem draw_l2Any {w0 w : World} {A : Option Addr} {n c b : Nat} {l : List Int} {L : List Res} (h : Cod w0 A n l) (hR : Rd w0 b A n c L w) :
    Calls Tryz.prog 85 #[.pointer (some ⟨b, 0, none⟩)] w fun e w' => ∃ p q t, Itm e p q t ∧ Rd w0 b A n c L w' :=
  (draw_l2AnyA h hR.pk).mono fun e w' ⟨p, q, t, h1, h2⟩ => ⟨p, q, t, h1, h2.unpk⟩

/-- the end: two struct variables are handed back -/
theorem ret_boxes {P : Program} {w0 w : World} {L : List Res} {a : Act} {fn : Func} {R : Ending → World → Prop} {p q : Tmp} {ty ty' : TypeId} (hres : fn.results = #[.cell p ty, .cell q ty']) (hO : Own w0 L w) {b b' : Nat} (hp : a.tmps.getD p undef = .pointer (some ⟨b, 0, none⟩)) (hq : a.tmps.getD q undef = .pointer (some ⟨b', 0, none⟩))
    (k k' : Nat) {t t' : TypeId} {cs cs' : List Value} (hk : L[k]? = some (box b t cs)) (hk' : L[k']? = some (box b' t' cs')) {n n' : Nat} [hT : AggT P ty n] [hT' : AggT P ty' n'] (hn : cs.length = n) (hn' : cs'.length = n') (hd : a.defers = []) (hR : R (.returned (.tuple #[.agg cs.toArray, .agg cs'.toArray])) w) : bodyPost P fn R .ret a w := by
  obtain ⟨d, h1, h2, h3⟩ := hT.of
  obtain ⟨d', h1', h2', h3'⟩ := hT'.of
  subst hn hn'
  refine ⟨hd, _, ?_, hR⟩
  have hl := run_loadVar_mid (P := P) w b 0 ty cs d (hO.range k hk) h1 h2 h3
  have hl' := run_loadVar_mid (P := P) w b' 0 ty' cs' d' (hO.range k' hk') h1' h2' h3'
  have hp' : a.tmps[p]?.getD undef = .pointer (some ⟨b, 0, none⟩) := by rw [← Array.getD_eq_getD_getElem?]; exact hp
  have hq' : a.tmps[q]?.getD undef = .pointer (some ⟨b', 0, none⟩) := by rw [← Array.getD_eq_getD_getElem?]; exact hq
  simp [results, hres, hp', hq', asAddr, hl, hl']

end Go.Proofs.YtmofcbpabdbjlaaGreat

namespace Go.Proofs.YtmofcbpabdbjlaaGreat

set_option maxRecDepth 8000

open Go.RowKit Go.ChangeShapes Go.WideShapes Go.Deep

set_option linter.unusedVariables false

set_option linter.unusedSimpArgs false

def wordsL : List ByteArray := [⟨#[97]⟩, ⟨#[98]⟩, ⟨#[120]⟩, ⟨#[121]⟩, ⟨#[97, 108, 112, 104, 97]⟩, ⟨#[97, 108]⟩, ⟨#[]⟩, ⟨#[110, 32, 49]⟩, ⟨#[34]⟩, ⟨#[92]⟩, ⟨#[10]⟩, ⟨#[128]⟩, ⟨#[102, 60, 45]⟩, ⟨#[105, 102]⟩, ⟨#[46, 46, 46]⟩, ⟨#[46, 49]⟩, ⟨#[95, 97]⟩, ⟨#[97, 46, 98]⟩, ⟨#[97, 114, 101, 97, 46, 115, 113, 117, 97, 114, 101]⟩, ⟨#[116, 119, 101, 110, 116, 121, 46, 98, 121, 116, 101, 115, 46, 105, 110, 46, 104, 101, 114, 101]⟩, ⟨#[116, 119, 101, 110, 116, 121, 49, 46, 98, 121, 116, 101, 115, 46, 105, 110, 46, 104, 101, 114, 101]⟩]

theorem words_bd : ∀ y ∈ wordsL, y.size ≤ 24 := by decide

set_option maxRecDepth 20000 in
set_option maxHeartbeats 1000000 in
theorem draw_word {w0 w : World} {A : Option Addr} {n c b : Nat} {l : List Int} {L : List Res} (h : Cod w0 A n l) (hR : Rd w0 b A n c L w) :
    Calls Tryz.prog 53 #[.pointer (some ⟨b, 0, none⟩)] w fun e w' => ∃ y : ByteArray, e = .returned (.string y) ∧ y.size ≤ 24 ∧ Rd w0 b A n c L w' := by
  obtain ⟨i, z, hi, hO⟩ := hR
  skip
  go_enter Tryz.func53, Tryz.ntmps53
  go_wp2_with (first | ((with_reducible refine zao ?_); refine zaj (cs := [.string ⟨#[97]⟩, .string ⟨#[98]⟩, .string ⟨#[120]⟩, .string ⟨#[121]⟩, .string ⟨#[97, 108, 112, 104, 97]⟩, .string ⟨#[97, 108]⟩, .string ⟨#[]⟩, .string ⟨#[110, 32, 49]⟩, .string ⟨#[34]⟩, .string ⟨#[92]⟩, .string ⟨#[10]⟩, .string ⟨#[128]⟩, .string ⟨#[102, 60, 45]⟩, .string ⟨#[105, 102]⟩, .string ⟨#[46, 46, 46]⟩, .string ⟨#[46, 49]⟩, .string ⟨#[95, 97]⟩, .string ⟨#[97, 46, 98]⟩, .string ⟨#[97, 114, 101, 97, 46, 115, 113, 117, 97, 114, 101]⟩, .string ⟨#[116, 119, 101, 110, 116, 121, 46, 98, 121, 116, 101, 115, 46, 105, 110, 46, 104, 101, 114, 101]⟩, .string ⟨#[116, 119, 101, 110, 116, 121, 49, 46, 98, 121, 116, 101, 115, 46, 105, 110, 46, 104, 101, 114, 101]⟩]) hO rfl (by rfl) [.string ⟨#[97]⟩, .string ⟨#[98]⟩, .string ⟨#[120]⟩, .string ⟨#[121]⟩, .string ⟨#[97, 108, 112, 104, 97]⟩, .string ⟨#[97, 108]⟩, .string ⟨#[]⟩, .string ⟨#[110, 32, 49]⟩, .string ⟨#[34]⟩, .string ⟨#[92]⟩, .string ⟨#[10]⟩, .string ⟨#[128]⟩, .string ⟨#[102, 60, 45]⟩, .string ⟨#[105, 102]⟩, .string ⟨#[46, 46, 46]⟩, .string ⟨#[46, 49]⟩, .string ⟨#[95, 97]⟩, .string ⟨#[97, 46, 98]⟩, .string ⟨#[97, 114, 101, 97, 46, 115, 113, 117, 97, 114, 101]⟩, .string ⟨#[116, 119, 101, 110, 116, 121, 46, 98, 121, 116, 101, 115, 46, 105, 110, 46, 104, 101, 114, 101]⟩, .string ⟨#[116, 119, 101, 110, 116, 121, 49, 46, 98, 121, 116, 101, 115, 46, 105, 110, 46, 104, 101, 114, 101]⟩] (by rfl) (by rfl) rfl (zM rfl) (by rfl) rfl (fun b => by simp only [Act.put, zA, zB, zC]; rfl) ?_; clear hO; intro bb u hO; simp only [zL, zK] at hO) | fail)
  refine (draw_pick wordsL 21 rfl (by decide) (by decide) L.length (last_at L _) h ⟨i, z, hi, hO⟩).mono ?_
  rintro e u ⟨y, hy, rfl, hR⟩
  have hs := words_bd y hy
  clear hy hO
  go_wp2_with fail
  go_ret
  exact ⟨y, rfl, hs, hR.drop⟩

end Go.Proofs.YtmofcbpabdbjlaaGreat

namespace Go.Proofs.YtmofcbpabdbjlaaGreat

set_option maxRecDepth 8000

set_option linter.unusedVariables false

set_option linter.unusedSimpArgs false

structure It where
  num : Int
  den : Int
  text : ByteArray

inductive VT where
  | mk (kind : Int) (items : List It) (parts : List VT) (names cls levels : List ByteArray) (code env : Int)

theorem VT.ind {P : VT → Prop} (h : ∀ k is ps ns cs ls c e, (∀ p ∈ ps, P p) → P (.mk k is ps ns cs ls c e)) : ∀ t, P t := fun t =>
  VT.rec (motive_1 := P) (motive_2 := fun l => ∀ p ∈ l, P p) (fun k is ps ns cs ls c e ih => h k is ps ns cs ls c e ih) (by simp) (fun p ps h1 h2 q hq => by
    rcases List.mem_cons.1 hq with rfl | hq
    · exact h1
    · exact h2 q hq) t

namespace VT

def kind : VT → Int | mk k _ _ _ _ _ _ _ => k

def items : VT → List It | mk _ x _ _ _ _ _ _ => x

def parts : VT → List VT | mk _ _ x _ _ _ _ _ => x

def names : VT → List ByteArray | mk _ _ _ x _ _ _ _ => x

def cls : VT → List ByteArray | mk _ _ _ _ x _ _ _ => x

def levels : VT → List ByteArray | mk _ _ _ _ _ x _ _ => x

def code : VT → Int | mk _ _ _ _ _ _ x _ => x

def env : VT → Int | mk _ _ _ _ _ _ _ x => x

end VT

def misB (x : It) : Bool := decide (x.num = 0) && decide (x.den = 0) && x.text.toList.isEmpty

def isNumI (x : It) : Bool := x.text.toList.isEmpty && Nm.isNum x.num x.den

def itemB (k : Int) (x : It) : Bool := misB x ||
  (if k = 1 then x.text.toList.isEmpty && decide (x.den = 1) && (decide (x.num = 0) || decide (x.num = 1))
   else if k = 2 then isNumI x
   else if k = 3 then decide (x.num = 0) && decide (x.den = 1) && decide (x.text.size ≤ 60) else false)

def emptyB (s : ByteArray) : Bool := s.toList.isEmpty

def okAt (l : List ByteArray) (k : Nat) : Bool := !emptyB (l.getD k ⟨#[]⟩) && decide ((l.getD k ⟨#[]⟩).size ≤ 60) && !((l.take k).any fun x => x.toList == (l.getD k ⟨#[]⟩).toList)

def goodN (l : List ByteArray) (k : Nat) : Bool := (List.range k).all (okAt l)

def labB (most : Nat) (l : List ByteArray) : Bool := decide (l.length ≤ most) && goodN l l.length

def allE (l : List ByteArray) : Bool := l.all emptyB

def zbk (l : List ByteArray) : Bool := l.all fun s => decide (s.size ≤ 60)

def lenV : VT → Nat
  | .mk k is ps _ _ _ _ _ => if k = 5 then 1 else is.length + ps.length

def levB (ls : List ByteArray) (x : It) : Bool := decide (ls.length = 0) || misB x || (decide (x.den = 1) && decide (1 ≤ x.num) && decide (x.num ≤ ls.length))

def itB (k : Int) (ls : List ByteArray) (x : It) : Bool := decide (1 ≤ k ∧ k ≤ 3) && itemB k x && levB ls x

def headB (n : Nat) (k : Int) (is : List It) (ps : List VT) (ns cs ls : List ByteArray) (c e : Int) : Bool :=
  decide (0 ≤ k ∧ k ≤ 5) && decide (n ≤ 40) && labB 3 cs && labB 20 ls &&
  (decide (ns.length = 0) || (decide (ns.length = n) && !allE ns)) && zbk ns &&
  (decide (ls.length = 0) || decide (k = 2)) && (decide (ps.length = 0) || decide (k = 4)) &&
  (decide (k = 5) || (decide (c = 0) && decide (e = 0))) &&
  (!decide (k = 5) || (decide (is.length = 0) && decide (ns.length = 0) && decide (-999 ≤ c ∧ c ≤ 99999) && decide (0 ≤ e ∧ e ≤ 99999))) &&
  (!decide (k = 0) || (decide (is.length = 0) && decide (cs.length = 0)))

def nodeB : VT → Bool
  | .mk k is ps ns cs ls c e => headB (lenV (.mk k is ps ns cs ls c e)) k is ps ns cs ls c e && is.all (itB k ls)

mutual
def cellsV : VT → Nat
  | .mk k is ps ns cs ls c e => lenV (.mk k is ps ns cs ls c e) + cellsL ps
def cellsL : List VT → Nat
  | [] => 0
  | p :: ps => cellsV p + cellsL ps
end

mutual
def nestV : VT → Nat → Nat
  | .mk _ _ ps _ _ _ _ _, r => if r = 0 then 1 else nestL ps (r - 1)
def nestL : List VT → Nat → Nat
  | [], _ => 0
  | p :: ps, r => max (1 + nestV p r) (nestL ps r)
end

mutual
def pvB : VT → Bool
  | .mk k is ps ns cs ls c e => nodeB (.mk k is ps ns cs ls c e) && pvL ps
def pvL : List VT → Bool
  | [] => true
  | p :: ps => pvB p && pvL ps
end

mutual
def lB : Nat → VT → Bool
  | n, .mk k is ps ns cs ls c e => nodeB (.mk k is ps ns cs ls c e) && lL n ps
def lL : Nat → List VT → Bool
  | _, [] => true
  | n, p :: ps => decide (n ≠ 0) && lB (n - 1) p && lL n ps
end

theorem cellsL_app (a b : List VT) : cellsL (a ++ b) = cellsL a + cellsL b := by
  induction a with
  | nil => simp [cellsL]
  | cons x a ih => simp [cellsL, ih, Nat.add_assoc]

theorem nestL_app (a b : List VT) (r : Nat) : nestL (a ++ b) r = max (nestL a r) (nestL b r) := by
  induction a with
  | nil => simp [nestL]
  | cons x a ih => simp [nestL, ih, Nat.max_assoc]

theorem pvL_app (a b : List VT) : pvL (a ++ b) = (pvL a && pvL b) := by
  induction a with
  | nil => simp [pvL]
  | cons x a ih => simp [pvL, ih, Bool.and_assoc]

theorem lL_app (n : Nat) (a b : List VT) : lL n (a ++ b) = (lL n a && lL n b) := by
  induction a with
  | nil => simp [lL]
  | cons x a ih => simp [lL, ih, Bool.and_assoc]

theorem za6 {α : Type} {l : List α} {k : Nat} (h : k < l.length) : l.take (k + 1) = l.take k ++ [l[k]] := List.take_succ_eq_append_getElem h

theorem cellsL_succ {l : List VT} {k : Nat} (h : k < l.length) : cellsL (l.take (k + 1)) = cellsL (l.take k) + cellsV l[k] := by rw [za6 h, cellsL_app]; simp [cellsL]

theorem nestL_succ {l : List VT} {k : Nat} (h : k < l.length) (r : Nat) : nestL (l.take (k + 1)) r = max (nestL (l.take k) r) (1 + nestV l[k] r) := by rw [za6 h, nestL_app]; simp [nestL]

theorem pvL_succ {l : List VT} {k : Nat} (h : k < l.length) : pvL (l.take (k + 1)) = (pvL (l.take k) && pvB l[k]) := by rw [za6 h, pvL_app]; simp [pvL]

theorem lL_succ {l : List VT} {k : Nat} (n : Nat) (h : k < l.length) : lL n (l.take (k + 1)) = (lL n (l.take k) && (decide (n ≠ 0) && lB (n - 1) l[k])) := by rw [za6 h, lL_app]; simp [lL]

theorem pvL_false {l : List VT} {k : Nat} (h : k < l.length) (hp : pvB l[k] = false) : pvL l = false := by
  rw [← List.take_append_drop (k + 1) l, pvL_app, pvL_succ h, hp]; simp

theorem lL_false {l : List VT} {k n : Nat} (h : k < l.length) (hp : n = 0 ∨ lB (n - 1) l[k] = false) : lL n l = false := by
  rw [← List.take_append_drop (k + 1) l, lL_app, lL_succ n h]
  rcases hp with hp | hp <;> simp [hp]

/-- the program's tests: nesting, parts, cells -/
def isVI (t : VT) : Bool := decide (nestV t 4 ≤ 3) && pvB t && decide (cellsV t ≤ 200)

/-- a valid vector (as the reference tests it) -/
def isV (t : VT) : Bool := lB 3 t && decide (cellsV t ≤ 200)

theorem nest_lL (ps : List VT) (hp : ∀ p ∈ ps, ∀ n, (decide (nestV p (n + 1) ≤ n) && pvB p) = lB n p) : ∀ n, (decide (nestL ps n ≤ n) && pvL ps) = lL n ps := by
  induction ps with
  | nil => intro n; simp [nestL, pvL, lL]
  | cons p ps ih =>
    intro n
    have ih' := ih (fun q hq => hp q (List.mem_cons_of_mem _ hq)) n
    have h1 := hp p (List.mem_cons_self)
    have e : decide (nestL (p :: ps) n ≤ n) = (decide (1 + nestV p n ≤ n) && decide (nestL ps n ≤ n)) := by
      rw [← Bool.decide_and]; exact decide_eq_decide.2 (by simp only [nestL]; exact Nat.max_le)
    rw [e]
    simp only [pvL, lL]
    rw [← ih']
    cases n with
    | zero => simp
    | succ n =>
      have h2 := h1 n
      have e2 : decide (1 + nestV p (n + 1) ≤ n + 1) = decide (nestV p (n + 1) ≤ n) := decide_eq_decide.2 (by omega)
      rw [e2, show n + 1 - 1 = n from rfl, ← h2]
      cases decide (nestV p (n + 1) ≤ n) <;> cases decide (nestL ps (n + 1) ≤ n + 1) <;> cases pvB p <;> simp

theorem nest_lB (t : VT) : ∀ n, (decide (nestV t (n + 1) ≤ n) && pvB t) = lB n t := by
  induction t using VT.ind with
  | _ k is ps ns cs ls c e ih =>
    intro n
    have := nest_lL ps ih n
    simp only [nestV, pvB, lB, Nat.add_one_ne_zero, if_false, Nat.add_sub_cancel]
    rw [← this]
    cases decide (nestL ps n ≤ n) <;> cases nodeB (.mk k is ps ns cs ls c e) <;> simp

theorem isVI_eq (t : VT) : isVI t = isV t := by unfold isVI isV; rw [← nest_lB t 3]

end Go.Proofs.YtmofcbpabdbjlaaGreat
