/-
  What is proved: QuoteString of the program returns the quoted text of every string, as the reference does; the statement on it.
  Condition: the string holds at most 33554432 bytes.
-/
import Derived.Test.YtmofcbpabdbjlaaQuote
import Derived.Deep.RegionHeldLaw
import Derived.Deep.AppendLies
import Derived.IntWalk
namespace Go.Proofs.Ytmofcbpabdbjlaa
set_option maxRecDepth 8000
open Go.RowKit
set_option linter.unusedVariables false
set_option linter.unusedSimpArgs false

theorem index_hex (x : Int) (d : Nat) (hx : x = d) (hd : d < 16) (w : World) :
    (Instr.index 9 (.string ⟨#[48, 49, 50, 51, 52, 53, 54, 55, 56, 57, 97, 98, 99, 100, 101, 102]⟩) (.int .u8 x)).run Try.prog w = .ok (.int .u8 ((hexc d).toNat : Int)) w := by
  subst hx
  rcases (show d = 0 ∨ d = 1 ∨ d = 2 ∨ d = 3 ∨ d = 4 ∨ d = 5 ∨ d = 6 ∨ d = 7 ∨ d = 8 ∨ d = 9 ∨ d = 10 ∨ d = 11 ∨ d = 12 ∨ d = 13 ∨ d = 14 ∨ d = 15 by omega) with rfl | rfl | rfl | rfl | rfl | rfl | rfl | rfl | rfl | rfl | rfl | rfl | rfl | rfl | rfl | rfl <;> kernel_rfl

set_option maxHeartbeats 1000000 in
theorem impl_quote (s : ByteArray) (w : World) (hs : s.size ≤ 33554432) : Calls Try.prog 213 #[.string s] w fun e w' => e = .returned (.string (bstr (quoL s.data.toList))) ∧ Below w.heap.size w w' := by
  obtain ⟨i0, hi, hz0, hz1, hz2⟩ := info_parts info_byte
  have hstart := World.ownsRow_lit (base := w.heap.size) (e := 5) (size := 1) w #[.int .u8 34] 1 (Nat.le_refl _) (by unfold maxLen; omega) rfl
  go_enter Try.func213, Try.ntmps213
  go_wp2_with fail
  go_loopw [3, 4] (fun v i wr => ∃ (k : Nat) (T : List UInt8), k ≤ s.size ∧ i = .int .i64 k ∧ wr.ownsRow w.heap.size 5 1 v T.length (bcs T) ∧ T.length ≤ 1 + 4 * k ∧ Hid (T = quoH (s.data.toList.take k)) ∧ Below w.heap.size w wr) (fun _ i _ => s.size - (intOf i).toNat)
  case atStart => exact ⟨0, [34], Nat.zero_le _, rfl, hstart, by decide, rfl, by go_grown⟩
  case round =>
    obtain ⟨k, T, hk, rfl, hown, hTl, hT, hbel⟩ := hrel
    clear hstart
    by_cases hlt : k < s.size
    · have hsucc := Lib.hid (quoH_succ s k hlt)
      rcases quo_cases s[k] with ⟨hq, (d1 | ⟨d1, d2⟩)⟩ | ⟨hq, d1, d2, d3⟩ | ⟨hq, d1, d2, d3, (d4 | ⟨d4, d5⟩)⟩ | ⟨hq, d1, d2, d3, d4, d5⟩
      all_goals
        have hb0 : (s[k].toNat : Int) ≤ 255 := by have := s[k].toNat_lt; omega
        have hs2 : Hid (T ++ quo s[k] = quoH (s.data.toList.take (k + 1))) := by rw [hsucc.out, hT.out]; rfl
        rw [hq] at hs2
        clear hq
      · have hbsa := hbel.size
        go_wp2_with (at_builtin; refine wpList_append_own _ rfl (.tmp 27) (.tmp 29) 58 rfl w.heap.size 5 i0 (.int .u8 0) 1 1 Try.underlying58 hi hz0 hz1 hz2 rfl (by decide) _ _ _ rfl (hown.alloc _) ⟨wr.heap.size, 0, none⟩ 2 2 [.int .u8 92, .int .u8 (s[k].toNat : Int)] rfl rfl ?a1 ?a2 ?a3 ?a4 ?a5 ?_)
        case a1 => exact news_cells _ _ _
        case a2 => intro u hu; simp at hu; (first | (subst hu; rfl) | (rcases hu with rfl | rfl <;> rfl) | (rcases hu with rfl | rfl | rfl | rfl <;> rfl))
        case a3 => unfold maxLen; omega
        case a4 => omega
        case a5 => simp; omega
        intro v1 w1 o1 hga _
        have hlta := hown.lt
        have b1 : Below w.heap.size w w1 := (hbel.alloc hbsa _).grown hga (by simp; omega) (fun k hk => (hlta k hk).1)
        clear hga hlta hbsa
        go_wp2_with fail
        go_roundw
        case rel => exact ⟨k + 1, T ++ [92, s[k]], by omega, by go_num, quo_own o1 rfl rfl, by simp; omega, hs2, b1⟩
        case measure => simp [intOf]; omega
      · have hbsb := hbel.size
        go_wp2_with (at_builtin; refine wpList_append_own _ rfl (.tmp 27) (.tmp 29) 58 rfl w.heap.size 5 i0 (.int .u8 0) 1 1 Try.underlying58 hi hz0 hz1 hz2 rfl (by decide) _ _ _ rfl (hown.alloc _) ⟨wr.heap.size, 0, none⟩ 2 2 [.int .u8 92, .int .u8 (s[k].toNat : Int)] rfl rfl ?b1 ?b2 ?b3 ?b4 ?b5 ?_)
        case b1 => exact news_cells _ _ _
        case b2 => intro u hu; simp at hu; (first | (subst hu; rfl) | (rcases hu with rfl | rfl <;> rfl) | (rcases hu with rfl | rfl | rfl | rfl <;> rfl))
        case b3 => unfold maxLen; omega
        case b4 => omega
        case b5 => simp; omega
        intro v1 w1 o1 hgb _
        have hltb := hown.lt
        have b1 : Below w.heap.size w w1 := (hbel.alloc hbsb _).grown hgb (by simp; omega) (fun k hk => (hltb k hk).1)
        clear hgb hltb hbsb
        go_wp2_with fail
        go_roundw
        case rel => exact ⟨k + 1, T ++ [92, s[k]], by omega, by go_num, quo_own o1 rfl rfl, by simp; omega, hs2, b1⟩
        case measure => simp [intOf]; omega
      · have hbsc := hbel.size
        go_wp2_with (at_builtin; refine wpList_append_own _ rfl (.tmp 34) (.tmp 35) 58 rfl w.heap.size 5 i0 (.int .u8 0) 1 1 Try.underlying58 hi hz0 hz1 hz2 rfl (by decide) _ _ _ rfl (hown.alloc _) ⟨wr.heap.size, 0, none⟩ 2 2 [.int .u8 92, .int .u8 110] rfl rfl ?c1 ?c2 ?c3 ?c4 ?c5 ?_)
        case c1 => exact news_cells _ _ _
        case c2 => intro u hu; simp at hu; (first | (subst hu; rfl) | (rcases hu with rfl | rfl <;> rfl) | (rcases hu with rfl | rfl | rfl | rfl <;> rfl))
        case c3 => unfold maxLen; omega
        case c4 => omega
        case c5 => simp; omega
        intro v1 w1 o1 hgc _
        have hltc := hown.lt
        have b1 : Below w.heap.size w w1 := (hbel.alloc hbsc _).grown hgc (by simp; omega) (fun k hk => (hltc k hk).1)
        clear hgc hltc hbsc
        go_wp2_with fail
        go_roundw
        case rel => exact ⟨k + 1, T ++ [92, 110], by omega, by go_num, quo_own o1 rfl rfl, by simp; omega, hs2, b1⟩
        case measure => simp [intOf]; omega
      · have hx1 := index_hex ((s[k].toNat : Int) / 16) (s[k].toNat / 16) (by omega) (by omega)
        have hx2 := index_hex ((s[k].toNat : Int) % 16) (s[k].toNat % 16) (by omega) (by omega)
        have e1 : ((s[k].toNat : Int)).tdiv 16 = (s[k].toNat : Int) / 16 := Int.tdiv_eq_ediv_of_nonneg (by omega)
        have e2 : ((s[k].toNat : Int)).tmod 16 = (s[k].toNat : Int) % 16 := Int.tmod_eq_emod_of_nonneg (by omega)
        have hw1 : IntKind.u8.wrap ((s[k].toNat : Int) / 16) = (s[k].toNat : Int) / 16 := IntWalk.u8_in _ (by omega)
        have hw2 : IntKind.u8.wrap ((s[k].toNat : Int) % 16) = (s[k].toNat : Int) % 16 := IntWalk.u8_in _ (by omega)
        have hbs := hbel.size
        go_wp2_with fail
        go_region_held_law (fun _ => True) (first | go_keep | trivial)
          ((refine step_append_lies _ (by rfl) _ _ _ (by rfl) w.heap.size 5 i0 _ 1 1 Try.underlying58 hi hz0 hz1 hz2 rfl (by omega) _ T.length (bcs T) (by rfl) ((hown.alloc _).drew) ⟨wr.heap.size, 0, none⟩ 4 4 [.int .u8 92, .int .u8 120, .int .u8 ((hexc (s[k].toNat / 16)).toNat : Int), .int .u8 ((hexc (s[k].toNat % 16)).toNat : Int)] (by rfl) (by rfl) (World.news_of_block (cs := #[.int .u8 92, .int .u8 120, .int .u8 ((hexc (s[k].toNat / 16)).toNat : Int), .int .u8 ((hexc (s[k].toNat % 16)).toNat : Int)]) (t := 5) (fr := (0, 0)) (heap_alloc_new wr _)) (by simp [Value.oneCell']) (by omega) (by unfold maxLen; omega) (by omega) (by simp; omega) (wr.heap.size + 1) (by simp) ?_; intro gg cap w1 hown1 hgrow hat hlt1))
        all_goals
          have hltb := hown.lt
          have b1 : Below w.heap.size w w1 := ((hbel.alloc hbs _).drew).grown hgrow (by simp; omega) (fun k hk => (hltb k hk).1)
          clear hgrow hltb hx1 hx2 e1 e2 hw1 hw2
          go_wp2_with fail
          go_roundw
          case rel => exact ⟨k + 1, T ++ [92, 120, hexc (s[k].toNat / 16), hexc (s[k].toNat % 16)], by omega, by go_num, quo_own hown1 rfl rfl, by simp; omega, hs2, b1⟩
          case measure => simp [intOf]; omega
      · have hx1 := index_hex ((s[k].toNat : Int) / 16) (s[k].toNat / 16) (by omega) (by omega)
        have hx2 := index_hex ((s[k].toNat : Int) % 16) (s[k].toNat % 16) (by omega) (by omega)
        have e1 : ((s[k].toNat : Int)).tdiv 16 = (s[k].toNat : Int) / 16 := Int.tdiv_eq_ediv_of_nonneg (by omega)
        have e2 : ((s[k].toNat : Int)).tmod 16 = (s[k].toNat : Int) % 16 := Int.tmod_eq_emod_of_nonneg (by omega)
        have hw1 : IntKind.u8.wrap ((s[k].toNat : Int) / 16) = (s[k].toNat : Int) / 16 := IntWalk.u8_in _ (by omega)
        have hw2 : IntKind.u8.wrap ((s[k].toNat : Int) % 16) = (s[k].toNat : Int) % 16 := IntWalk.u8_in _ (by omega)
        have hbs := hbel.size
        go_wp2_with fail
        go_region_held_law (fun _ => True) (first | go_keep | trivial)
          ((refine step_append_lies _ (by rfl) _ _ _ (by rfl) w.heap.size 5 i0 _ 1 1 Try.underlying58 hi hz0 hz1 hz2 rfl (by omega) _ T.length (bcs T) (by rfl) ((hown.alloc _).drew) ⟨wr.heap.size, 0, none⟩ 4 4 [.int .u8 92, .int .u8 120, .int .u8 ((hexc (s[k].toNat / 16)).toNat : Int), .int .u8 ((hexc (s[k].toNat % 16)).toNat : Int)] (by rfl) (by rfl) (World.news_of_block (cs := #[.int .u8 92, .int .u8 120, .int .u8 ((hexc (s[k].toNat / 16)).toNat : Int), .int .u8 ((hexc (s[k].toNat % 16)).toNat : Int)]) (t := 5) (fr := (0, 0)) (heap_alloc_new wr _)) (by simp [Value.oneCell']) (by omega) (by unfold maxLen; omega) (by omega) (by simp; omega) (wr.heap.size + 1) (by simp) ?_; intro gg cap w1 hown1 hgrow hat hlt1))
        all_goals
          have hltb := hown.lt
          have b1 : Below w.heap.size w w1 := ((hbel.alloc hbs _).drew).grown hgrow (by simp; omega) (fun k hk => (hltb k hk).1)
          clear hgrow hltb hx1 hx2 e1 e2 hw1 hw2
          go_wp2_with fail
          go_roundw
          case rel => exact ⟨k + 1, T ++ [92, 120, hexc (s[k].toNat / 16), hexc (s[k].toNat % 16)], by omega, by go_num, quo_own hown1 rfl rfl, by simp; omega, hs2, b1⟩
          case measure => simp [intOf]; omega
      · have hbsd := hbel.size
        go_wp2_with (at_builtin; refine wpList_append_own _ rfl (.tmp 16) (.tmp 18) 58 rfl w.heap.size 5 i0 (.int .u8 0) 1 1 Try.underlying58 hi hz0 hz1 hz2 rfl (by decide) _ _ _ rfl (hown.alloc _) ⟨wr.heap.size, 0, none⟩ 1 1 [.int .u8 (s[k].toNat : Int)] rfl rfl ?d1 ?d2 ?d3 ?d4 ?d5 ?_)
        case d1 => exact news_cells _ _ _
        case d2 => intro u hu; simp at hu; (first | (subst hu; rfl) | (rcases hu with rfl | rfl <;> rfl) | (rcases hu with rfl | rfl | rfl | rfl <;> rfl))
        case d3 => unfold maxLen; omega
        case d4 => omega
        case d5 => simp; omega
        intro v1 w1 o1 hgd _
        have hltd := hown.lt
        have b1 : Below w.heap.size w w1 := (hbel.alloc hbsd _).grown hgd (by simp; omega) (fun k hk => (hltd k hk).1)
        clear hgd hltd hbsd
        go_wp2_with fail
        go_roundw
        case rel => exact ⟨k + 1, T ++ [s[k]], by omega, by go_num, quo_own o1 rfl rfl, by simp; omega, hs2, b1⟩
        case measure => simp [intOf]; omega
    · have fin : Hid (T ++ [34] = quoL s.data.toList) := by
        have h1 := hT.out
        rw [List.take_of_length_le (by simp; omega)] at h1
        rw [h1]; rfl
      have hbsf := hbel.size
      go_wp2_with (at_builtin; refine wpList_append_own _ rfl (.tmp 53) (.tmp 54) 58 rfl w.heap.size 5 i0 (.int .u8 0) 1 1 Try.underlying58 hi hz0 hz1 hz2 rfl (by decide) _ _ _ rfl (hown.alloc _) ⟨wr.heap.size, 0, none⟩ 1 1 [.int .u8 34] rfl rfl ?f1 ?f2 ?f3 ?f4 ?f5 ?_)
      case f1 => exact news_cells _ _ _
      case f2 => intro u hu; simp at hu; (first | (subst hu; rfl) | (rcases hu with rfl | rfl <;> rfl) | (rcases hu with rfl | rfl | rfl | rfl <;> rfl))
      case f3 => unfold maxLen; omega
      case f4 => omega
      case f5 => simp; omega
      intro v1 w1 o1 hgf _
      have hltf := hown.lt
      have b1 : Below w.heap.size w w1 := (hbel.alloc hbsf _).grown hgf (by simp; omega) (fun k hk => (hltf k hk).1)
      clear hgf hltf hbsf
      have o2 := quo_own (N := [34]) o1 rfl rfl
      rw [fin.out] at o2
      obtain ⟨L, hL⟩ : ∃ L, L = quoL s.data.toList := ⟨_, rfl⟩
      have hl0 : 0 < L.length := by rw [hL]; simp [quoL]
      have HL := Lib.hid hL
      rw [← hL] at o2
      clear hL o1 hown
      obtain ⟨g, c, hv, hgB, hgl⟩ := own_form o2 hl0
      subst hv
      have hcv := conv_own o2
      go_wp2_with fail
      go_ret
      exact ⟨ret_str (by rw [← HL.out]; rfl), b1⟩

end Go.Proofs.Ytmofcbpabdbjlaa
