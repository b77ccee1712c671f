/-
  What is proved: what the reference's CombineVectors returns.
  Condition: arguments of size at most 1048576.
-/
import Derived.Test.YtmofcbpabdbjlaaVz6
import Derived.Test.YtmofcbpabdbjlaaVz34
namespace Go.Proofs.Ytmofcbpabdbjlaa

set_option maxRecDepth 8000

open Go.RowKit Go.ChangeShapes Go.WideShapes Go.Deep

set_option linter.unusedVariables false

set_option linter.unusedSimpArgs false

set_option maxRecDepth 20000 in
set_option maxHeartbeats 8000000 in
theorem spec_cb (A B : Option Addr) (c d : Nat) (ps : List VT) (pvs0 : List (List Value)) (ls : List ByteArray) (w : World) (h : RdL w A ps pvs0) (h2 : Sl w 1 B ls.length (stc ls)) (hz : szL ps + szS ls ≤ 1048576) :
    Calls Try.prog 49 #[.slice A ps.length c, .slice B ls.length d] w (RetVS (cbT ps ls) (cbS ps ls) w) := by
  have z1 : szL ps ≤ 1048576 := by omega
  have z2 : ls.length ≤ 1048576 := by unfold szS at hz; omega
  have z3 : ps.length ≤ 1048576 := by have := szL_eq ps; omega
  have HZ := Lib.hid hz
  have HZ1 := Lib.hid z1
  have HLS : Hid (∀ s ∈ ls, s.size ≤ 1048576) := Lib.hid (fun s hs => by
    have := stz_in hs
    unfold szS at hz
    omega)
  have HT : Hid (cbT ps ls = if ps.all isV then (if cbB ps ls then (if cbG (cbK ps ps.length) ps then (if isV (cbV (cbK ps ps.length) ps ls) then cbV (cbK ps ps.length) ps ls else vecI 0 []) else vecI 0 []) else vecI 0 []) else vecI 0 []) := Lib.hid rfl
  have HS : Hid (cbS ps ls = if ps.all isV then (if cbB ps ls then (if cbG (cbK ps ps.length) ps then (if isV (cbV (cbK ps ps.length) ps ls) then ⟨#[]⟩ else bigS) else bigS) else labS) else badS) := Lib.hid rfl
  obtain ⟨X, hX⟩ : ∃ X, cbT ps ls = X := ⟨_, rfl⟩
  obtain ⟨Y, hY⟩ : ∃ Y, cbS ps ls = Y := ⟨_, rfl⟩
  rw [hX] at HT
  rw [hY] at HS
  rw [hX, hY]
  clear hX hY hz z1
  have HL0 : Hid (∀ p ∈ ps, isV p = true → lenV p ≤ 40) := Lib.hid (fun p _ h => isV_ln h)
  go_enter Try.func49, Try.ntmps49
  have hO := Own.nil w
  go_wp2_with (first | ((with_reducible refine zac ?_); refine zal rfl hO rfl ?_; (refine nm 0 rfl ?_; clear hO; intro b0 u hO); simp only [zL, zK] at hO) | fail)
  go_loopw [6, 7, 8] (fun s n i u => ∃ (m : Nat), m ≤ ps.length ∧ i = .int .i64 m ∧ s = .int .i64 (cbK ps m) ∧ n = .int .i64 (cbL ps m : Nat) ∧ Hid (∀ p ∈ ps.take m, isV p = true) ∧ Hid (cbL ps m ≤ 40 * m) ∧ Own w [box b0 29 [.int .i64 0, .slice none 0 0, .slice none 0 0, .slice none 0 0, .slice none 0 0, .slice none 0 0, .int .i64 0, .int .i64 0]] u) (fun _ _ i _ => ps.length - (intOf i).toNat)
  case atStart => exact ⟨0, Nat.zero_le _, rfl, rfl, rfl, Lib.hid (by simp), Lib.hid (Nat.le_refl _), hO⟩
  case round =>
    clear hO
    obtain ⟨m, hm, rfl, rfl, rfl, hall, hlm, hO⟩ := hrel
    by_cases hlt : m < ps.length
    · have hsz := szL_mem HZ1.out hlt
      have HTK := Lib.hid (zat hlt)
      have i1 : (m : Int) < (ps.length : Int) := by omega
      have HK : Hid (cbK ps (m + 1) = max (cbK ps m) (lkI (ps[m]'hlt).kind)) := Lib.hid (by
        show max (cbK ps m) (lkI (ps.getD m vz).kind) = _
        rw [za6 hlt])
      have HN1 : Hid (cbL ps (m + 1) = cbL ps m + lenV (ps[m]'hlt)) := Lib.hid (by
        show cbL ps m + lenV (ps.getD m vz) = _
        rw [za6 hlt])
      have HALL := Lib.hid (fun (hc : isV (ps[m]'hlt) = false) => (show ps.all isV = false from List.all_eq_false.2 ⟨_, List.getElem_mem hlt, by simp [hc]⟩))
      have HKD := Lib.hid (fun (hc : isV (ps[m]'hlt) = true) => isV_kd hc)
      have HLN := Lib.hid (fun (hc : isV (ps[m]'hlt) = true) => isV_ln hc)
      obtain ⟨x, hx⟩ : ∃ x, ps[m]'hlt = x := ⟨_, rfl⟩
      obtain ⟨xk, xi, xp, xn, xc, xl, xo, xe⟩ := x
      obtain ⟨b, off, rfl, hb, Bi, Bp, Bn, Bc, Bl, di, dp, dn, dc, dl, hrd, d0, d1, d2, d3, d4, d5, d6, d7⟩ := h.ptc (Below.refl _ _) hlt hx
      rw [hx] at hsz HTK HK HN1 HALL HKD HLN
      have CI := fun u (hb : Below w.heap.size w u) => spec_isVec _ _ u (hrd.grow hb) hsz
      have xlen : (xi.length : Int) + xp.length ≤ 9223372036854775807 := by
        have h1 := szL_eq xp
        have h2 : szV (.mk xk xi xp xn xc xl xo xe) = szI xi + szL xp + szS xn + szS xc + szS xl := rfl
        unfold szI at h2
        omega
      have LA := fun u => spec_len xk Bi Bp xi.length xp.length di dp (.slice Bn xn.length dn) (.slice Bc xc.length dc) (.slice Bl xl.length dl) (.int .i64 xo) (.int .i64 xe) u xlen
      replace HN1 : Hid (cbL ps (m + 1) = cbL ps m + lenN xk xi.length xp.length) := HN1
      replace HLN : Hid (isV (.mk xk xi xp xn xc xl xo xe) = true → lenN xk xi.length xp.length ≤ 40) := HLN
      obtain ⟨n, hn⟩ : ∃ n, lenN xk xi.length xp.length = n := ⟨_, rfl⟩
      rw [hn] at LA HN1 HLN
      clear hx hsz hn xlen
      go_upto_region 6 with fail
      have e0 := (hO.old hb).trans d0
      have e1 := (hO.old hb).trans d1
      have e2 := (hO.old hb).trans d2
      have e3 := (hO.old hb).trans d3
      have e4 := (hO.old hb).trans d4
      have e5 := (hO.old hb).trans d5
      have e6 := (hO.old hb).trans d6
      have e7 := (hO.old hb).trans d7
      cases hq : isV (.mk xk xi xp xn xc xl xo xe) with
      | false =>
        rw [hq] at CI
        have HF : Hid (X = vecI 0 []) := Lib.hid (by rw [HT.out, HALL.out hq]; rfl)
        have HG : Hid (Y = badS) := Lib.hid (by rw [HS.out, HALL.out hq]; rfl)
        clear hq HALL HK HTK HN1 HKD HLN
        go_wp2_with (first | ((with_reducible refine (CI _ hO.below).mono ?_); rintro e u ⟨rfl, hb⟩; (replace hO := hO.step hb; clear hb)) | ((with_reducible refine (spec_bad _).mono ?_); rintro e u ⟨rfl, hb⟩; (replace hO := hO.step hb; clear hb)) | (with_reducible refine zao ?_) | ((with_reducible refine zab ?_); refine zsc rfl hO rfl _ (by exact at0) ?_; clear hO; intro u hO; simp only [zC, zB] at hO) | fail)
        obtain ⟨F0, hvo0, hF⟩ := Own.vec0 u 0
        exact ⟨zap rfl hO rfl 0 at0 rfl rfl rfl ⟨_, _, by rw [HG.out]; rfl, by rw [HF.out]; exact hvo0, (hO.call hF).pick [0] (by decide)⟩⟩
      | true =>
        rw [hq] at CI
        have HA : Hid (∀ p ∈ ps.take (m + 1), isV p = true) := Lib.hid (by
          rw [HTK.out]
          intro p hp
          rcases List.mem_append.1 hp with hp | hp
          · exact hall.out p hp
          · rw [List.mem_singleton.1 hp]; exact hq)
        have hkd := HKD.out hq
        have hkd : 0 ≤ xk ∧ xk ≤ 5 := hkd
        have hn40 := HLN.out hq
        obtain ⟨kk, hkk⟩ : ∃ q, (if 4 < xk then (4 : Int) else xk) = q := ⟨_, rfl⟩
        obtain ⟨ka, hka⟩ : ∃ q, cbK ps m = q := ⟨_, rfl⟩
        rw [hka] at HK
        rw [hka]
        obtain ⟨mk, hmk⟩ : ∃ q, (if ka < kk then kk else ka) = q := ⟨_, rfl⟩
        have HK2 : Hid (cbK ps (m + 1) = mk) := Lib.hid (by
          rw [HK.out, ← hmk, ← hkk]
          show max ka (if xk = 5 then 4 else xk) = _
          repeat' split
          all_goals omega)
        have hll := hlm.out
        have HM1 : Hid (cbL ps (m + 1) ≤ 40 * (m + 1)) := Lib.hid (by rw [HN1.out]; omega)
        obtain ⟨a, ha⟩ : ∃ a, cbL ps m = a := ⟨_, rfl⟩
        rw [ha] at HN1 hll
        rw [ha]
        clear hka hq HALL HTK HK HKD HLN ha
        go_upto_region 8 with (first | ((with_reducible refine (CI _ hO.below).mono ?_); rintro e u ⟨rfl, hb⟩; (replace hO := hO.step hb; clear hb)) | fail)
        clear e0 e1 e2 e3 e4 e5 e6 e7
        have e0 := (hO.old hb).trans d0
        have e1 := (hO.old hb).trans d1
        have e2 := (hO.old hb).trans d2
        have e3 := (hO.old hb).trans d3
        have e4 := (hO.old hb).trans d4
        have e5 := (hO.old hb).trans d5
        have e6 := (hO.old hb).trans d6
        have e7 := (hO.old hb).trans d7
        go_wp2_with (first | ((with_reducible refine (LA _).mono ?_); rintro e u ⟨rfl, hb⟩; (replace hO := hO.step hb; clear hb)) | fail)
        go_roundw
        case rel => exact ⟨m + 1, by omega, by go_num, by rw [HK2.out], by rw [HN1.out]; exact congrArg (Value.int .i64) (by omega), HA, HM1, hO⟩
        case measure => simp [intOf]; omega
    · have hmn : m = ps.length := by omega
      subst hmn
      rw [List.take_length] at hall
      have HALL : ps.all isV = true := List.all_eq_true.2 hall.out
      have hKr := cbK_rng hall.out ps.length
      have hll := hlm.out
      obtain ⟨K, hK⟩ : ∃ q, cbK ps ps.length = q := ⟨_, rfl⟩
      rw [hK] at HT HS hKr
      rw [hK]
      rw [HALL] at HT HS
      obtain ⟨T, hT⟩ : ∃ q, cbL ps ps.length = q := ⟨_, rfl⟩
      have HTT := Lib.hid hT
      rw [hT] at hll
      rw [hT]
      clear hK HALL hlt hm hT hlm HL0
      obtain ⟨k0, k4⟩ := hKr
      obtain ⟨qB, hqB⟩ : ∃ q, cbB ps ls = q := ⟨_, rfl⟩
      rw [hqB] at HT HS
      have HB : Hid ((decide (ls.length = 0) || decide (ls.length = ps.length)) = qB) := Lib.hid hqB
      clear hqB
      cases qB with
      | false =>
        have HF : Hid (X = vecI 0 []) := Lib.hid (by rw [HT.out]; rfl)
        have HG : Hid (Y = labS) := Lib.hid (by rw [HS.out]; rfl)
        have hb := HB.out
        rw [Bool.or_eq_false_iff, decide_eq_false_iff_not, decide_eq_false_iff_not] at hb
        obtain ⟨hb1, hb2⟩ := hb
        have f1 : ((ls.length : Int) != 0) = true := by simp; intro h; exact hb1 (by rw [h]; rfl)
        have f2 : ((ls.length : Int) != (ps.length : Int)) = true := by simp; omega
        clear HT HS HB hb1 hb2
        go_wp2_with (first | (with_reducible refine zao ?_) | ((with_reducible refine zab ?_); refine zsc rfl hO rfl _ (by exact at0) ?_; clear hO; intro u hO; simp only [zC, zB] at hO) | fail)
        obtain ⟨F0, hvo0, hF⟩ := Own.vec0 u 0
        exact ⟨zap rfl hO rfl 0 at0 rfl rfl rfl ⟨_, _, by rw [HG.out]; rfl, by rw [HF.out]; exact hvo0, (hO.call hF).pick [0] (by decide)⟩⟩
      | true =>
        have HT' : Hid (X = if cbG K ps then (if isV (cbV K ps ls) then cbV K ps ls else vecI 0 []) else vecI 0 []) := Lib.hid (by rw [HT.out]; rfl)
        have HS' : Hid (Y = if cbG K ps then (if isV (cbV K ps ls) then ⟨#[]⟩ else bigS) else bigS) := Lib.hid (by rw [HS.out]; rfl)
        have HLB : Hid (ls.length = 0 ∨ ls.length = ps.length) := Lib.hid (by
          have hb := HB.out
          rw [Bool.or_eq_true, decide_eq_true_eq, decide_eq_true_eq] at hb
          exact hb)
        clear HT HS HB
        go_upto_region 10 with fail
        go_cut [56] from 47 to 56 (fun s u => s = .bool false ∧ Own w [box b0 29 [.int .i64 0, .slice none 0 0, .slice none 0 0, .slice none 0 0, .slice none 0 0, .slice none 0 0, .int .i64 0, .int .i64 0]] u)
        case first =>
          by_cases f0 : ls.length = 0
          · have f1 : ((ls.length : Int) != 0) = false := by simp; exact List.length_eq_zero_iff.1 f0
            clear f0
            go_wp2_with fail
            go_meet
            case rel => exact ⟨rfl, hO⟩
          · have f1 : ((ls.length : Int) != 0) = true := by simp; intro h; exact f0 (by rw [h]; rfl)
            have f2 : ((ls.length : Int) != (ps.length : Int)) = false := by rcases HLB.out with h | h <;> simp <;> omega
            clear f0
            go_wp2_with fail
            go_meet
            case rel => exact ⟨rfl, hO⟩
        case rest =>
          clear hO
          obtain ⟨rfl, hO⟩ := hcut
          by_cases g40 : 40 < T
          · have hG : cbG K ps = false := by
              unfold cbG
              rw [HTT.out, decide_eq_false (by omega), Bool.false_and]
            have HF : Hid (X = vecI 0 []) := Lib.hid (by rw [HT'.out, hG]; rfl)
            have HG : Hid (Y = bigS) := Lib.hid (by rw [HS'.out, hG]; rfl)
            have g2 : (40 : Int) < (T : Int) := by omega
            clear HT' HS' hG
            go_wp2_with (first | (with_reducible refine zao ?_) | ((with_reducible refine zab ?_); refine zsc rfl hO rfl _ (by exact at0) ?_; clear hO; intro u hO; simp only [zC, zB] at hO) | fail)
            obtain ⟨F0, hvo0, hF⟩ := Own.vec0 u 0
            exact ⟨zap rfl hO rfl 0 at0 rfl rfl rfl ⟨_, _, by rw [HG.out]; rfl, by rw [HF.out]; exact hvo0, (hO.call hF).pick [0] (by decide)⟩⟩
          · have g2 : ¬ (40 : Int) < (T : Int) := by omega
            go_wp2_with (first | ((with_reducible refine zac ?_); refine zal rfl hO rfl ?_; (refine nm 1 rfl ?_; clear hO; intro b1 u hO); simp only [zL, zK] at hO) | ((with_reducible refine zab ?_); refine zsc rfl hO rfl _ (by exact at1) ?_; clear hO; intro u hO; simp only [zC, zB] at hO) | fail)
            replace hO := ((hO.addNil 83 3).addNil 29 8).addNil 9 1
            simp only [List.cons_append, List.nil_append] at hO
            replace hO := Own.pack (F := []) hO
            replace hO := hO.pick [0, 3, 4, 5, 1, 2] (by decide)
            simp only [zN, zO, zE, zD] at hO
            skip
            go_loopw [10] (fun i u => ∃ (m : Nat) (A1 A2 A3 : Option Addr) (c1 c2 c3 : Nat) (pvs : List (List Value)) (Ls : List (List Res)), m ≤ ps.length ∧ i = .int .i64 m ∧ Hid (∀ p ∈ ps.take m, coB K p = true) ∧ Hid (cbL ps m ≤ 40) ∧ VL (cbP K ps m) pvs Ls ∧ Own w [pack Ls.flatten, row 83 3 (.slice A1 (cbI K ps m).length c1) (cbI K ps m).length (itc (cbI K ps m)), row 29 8 (.slice A2 (cbP K ps m).length c2) (cbP K ps m).length pvs.flatten, row 9 1 (.slice A3 (cbN ls ps m).length c3) (cbN ls ps m).length (stc (cbN ls ps m)), box b0 29 [.int .i64 0, .slice none 0 0, .slice none 0 0, .slice none 0 0, .slice none 0 0, .slice none 0 0, .int .i64 0, .int .i64 0], box b1 29 [.int .i64 K, .slice A1 (cbI K ps m).length c1, .slice A2 (cbP K ps m).length c2, .slice A3 (cbN ls ps m).length c3, .slice none 0 0, .slice none 0 0, .int .i64 0, .int .i64 0]] u) (fun i _ => ps.length - (intOf i).toNat)
            case atStart => exact ⟨0, none, none, none, 0, 0, 0, [], [], Nat.zero_le _, rfl, Lib.hid (by simp), Lib.hid (Nat.zero_le _), VL.nil, hO⟩
            case round =>
              clear hO
              obtain ⟨m, A1, A2, A3, c1, c2, c3, pvs, Ls, hm, rfl, hco, h40, hvl, hO⟩ := hrel
              have HLN := Lib.hid (cb_lens (K := K) (ls := ls) m hm hco.out)
              by_cases hlt : m < ps.length
              · have hsz := szL_mem HZ1.out hlt
                have hxv := hall.out _ (List.getElem_mem hlt)
                have HTK := Lib.hid (zat hlt)
                have HN1 : Hid (cbL ps (m + 1) = cbL ps m + lenV (ps[m]'hlt)) := Lib.hid (by
                  show cbL ps m + lenV (ps.getD m vz) = _
                  rw [za6 hlt])
                have S1 : Hid (cbI K ps (m + 1) = cbI K ps m ++ (cvT K (ps[m]'hlt)).items) := Lib.hid (by
                  show cbI K ps m ++ (cvT K (ps.getD m vz)).items = _
                  rw [za6 hlt])
                have S2 : Hid (cbP K ps (m + 1) = cbP K ps m ++ (cvT K (ps[m]'hlt)).parts) := Lib.hid (by
                  show cbP K ps m ++ (cvT K (ps.getD m vz)).parts = _
                  rw [za6 hlt])
                have S3 : Hid (cbN ls ps (m + 1) = cbN ls ps m ++ cbM (ls.getD m ⟨#[]⟩) (ps[m]'hlt).names (lenV (ps[m]'hlt)) (lenV (ps[m]'hlt))) := Lib.hid (by
                  show cbN ls ps m ++ cbM _ (ps.getD m vz).names _ _ = _
                  rw [za6 hlt])
                have HNO := Lib.hid (fun hc => cbG_no (K := K) hlt hc)
                have HLO := Lib.hid (fun hc => cbG_long (K := K) hlt hc)
                have HNS := Lib.hid (names_short hxv)
                have HX40 := Lib.hid (isV_ln hxv)
                have CO := fun u hb vs (hr : RdV w (ps[m]'hlt) vs) => spec_co K (ps[m]'hlt) vs u (hr.grow (w' := u) hb) hsz
                have HCV := Lib.hid (fun hc => cv_form (K := K) (t := ps[m]'hlt) hc)
                have HCN := Lib.hid (fun hc => co_no (kind := K) (t := ps[m]'hlt) hc)
                have HCY := Lib.hid (fun hc => co_yes (kind := K) (t := ps[m]'hlt) hc)
                obtain ⟨x, hx⟩ : ∃ x, ps[m]'hlt = x := ⟨_, rfl⟩
                obtain ⟨xk, xi, xp, xn, xc, xl, xo, xe⟩ := x
                obtain ⟨b, off, rfl, hb, Bi, Bp, Bn, Bc, Bl, di, dp, dn, dc, dl, hrd, e0, e1, e2, e3, e4, e5, e6, e7⟩ := h.ptc hO.below hlt hx
                rw [hx] at hsz HTK HN1 S1 S2 S3 HNO HLO HNS HX40 CO HCV HCN HCY hxv
                replace CO := fun u hb => CO u hb _ hrd
                clear hx
                have xlen : (xi.length : Int) + xp.length ≤ 9223372036854775807 := by
                  have h1 := szL_eq xp
                  have h2 : szV (.mk xk xi xp xn xc xl xo xe) = szI xi + szL xp + szS xn + szS xc + szS xl := rfl
                  unfold szI at h2
                  omega
                have HL1 : Hid (lenN xk xi.length xp.length = lenV (.mk xk xi xp xn xc xl xo xe)) := Lib.hid rfl
                have HXN : Hid (xn.length = 0 ∨ xn.length = lenV (.mk xk xi xp xn xc xl xo xe)) := Lib.hid (isV_facts hxv).2.2.1
                have hxn : xn.length ≤ 1048576 := by
                  have h2 : szV (.mk xk xi xp xn xc xl xo xe) = szI xi + szL xp + szS xn + szS xc + szS xl := rfl
                  unfold szS at h2
                  omega
                replace HNS : Hid (∀ s ∈ xn, s.size ≤ 60) := HNS
                replace S3 : Hid (cbN ls ps (m + 1) = cbN ls ps m ++ cbM (ls.getD m ⟨#[]⟩) xn (lenV (.mk xk xi xp xn xc xl xo xe)) (lenV (.mk xk xi xp xn xc xl xo xe))) := S3
                obtain ⟨n, hn⟩ : ∃ n, lenV (.mk xk xi xp xn xc xl xo xe) = n := ⟨_, rfl⟩
                rw [hn] at HN1 S3 HLO HX40 HCV HL1 HXN
                have n40 := HX40.out
                have HLAB := Lib.hid (getD_len (ns := ls) (k := m) HLS.out)
                have HLZ : Hid (ls.length = 0 → ls.getD m ⟨#[]⟩ = ⟨#[]⟩) := Lib.hid (fun h => by simp [List.getD_eq_getElem?_getD, h])
                have HLT : Hid (0 < ls.length → ∃ bl ol, B = some ⟨bl, ol, none⟩ ∧ bl < w.heap.size ∧ w.cell? ⟨bl, ol + m, none⟩ = some (.string (ls.getD m ⟨#[]⟩)) ∧ m < ls.length) := Lib.hid (fun hi => by
                  have hml : m < ls.length := by rcases HLB.out with h | h <;> omega
                  obtain ⟨b, off, e, hb, hc⟩ := h2.tx (Below.refl _ _) hml rfl
                  exact ⟨b, off, e, hb, by rw [hc]; simp [List.getD_eq_getElem?_getD, hml], hml⟩)
                obtain ⟨lab, hlab⟩ : ∃ q, ls.getD m ⟨#[]⟩ = q := ⟨_, rfl⟩
                rw [hlab] at HLAB HLZ HLT S3
                have hlabz := HLAB.out
                obtain ⟨I, hI⟩ : ∃ I, cbI K ps m = I := ⟨_, rfl⟩
                obtain ⟨P, hP⟩ : ∃ P, cbP K ps m = P := ⟨_, rfl⟩
                obtain ⟨N, hN⟩ : ∃ N, cbN ls ps m = N := ⟨_, rfl⟩
                obtain ⟨a, ha⟩ : ∃ a, cbL ps m = a := ⟨_, rfl⟩
                rw [hI] at hO S1 HLN
                rw [hP] at hO S2 HLN hvl
                rw [hN] at hO S3 HLN
                rw [ha] at h40 HN1 HLO HLN
                clear hI hP hN ha hlab hn hxv hsz HX40 HLAB
                have HLN' := HLN
                have a40 := h40.out
                clear HLN
                have lIPN := HLN'.out
                have HNM : Hid (xn.length = 0 ∨ xn.length = n) := HXN
                cases hq : coB K (.mk xk xi xp xn xc xl xo xe) with
                | false =>
                  have hG := HNO.out hq
                  have HF : Hid (X = vecI 0 []) := Lib.hid (by rw [HT'.out, hG]; rfl)
                  have HG : Hid (Y = bigS) := Lib.hid (by rw [HS'.out, hG]; rfl)
                  have hcn := HCN.out hq
                  rw [hcn, hq] at CO
                  replace CO := fun u hb => (CO u hb).mono fun e' w' h => RetVB.exC (xk := 0) (xi := []) (xp := []) (xn := []) (xc := []) (xl := []) (xo := 0) (xe := 0) h
                  clear HT' HS' hG hcn hq HNO HCN HCY HCV HLO HTK HN1 S1 S2 S3 HNS lIPN HNM HXN
                  go_wp2_with fail
                  refine (CO _ hO.below).mono ?_
                  rintro e u ⟨C1, C2, C3, C4, C5, d1, d2, d3, d4, d5, F, rfl, hvo, hb⟩
                  replace hO := hO.call hb
                  clear hb
                  simp only [zK, zL] at hO
                  go_wp2_with (first | (with_reducible refine zao ?_) | ((with_reducible refine zac ?_); refine zal rfl hO rfl ?_; (refine nm 7 rfl ?_; clear hO; intro b7 u hO); simp only [zL, zK] at hO) | ((with_reducible refine zab ?_); refine zsc rfl hO rfl _ (by (first | exact at5 | exact at7 | fail)) ?_; clear hO; intro u hO; simp only [zC, zB] at hO) | fail)
                  obtain ⟨F0, hvo0, hF⟩ := Own.vec0 u 0
                  exact ⟨zap rfl hO rfl 5 at5 rfl rfl rfl ⟨_, _, by rw [HG.out]; rfl, by rw [HF.out]; exact hvo0, (hO.call hF).pick [0] (by decide)⟩⟩
                | true =>
                  have hcy := HCY.out hq
                  obtain ⟨hcf, hcl⟩ := HCV.out hq
                  rw [hcy, hq] at CO
                  obtain ⟨CI, hCI⟩ : ∃ q, (cvT K (.mk xk xi xp xn xc xl xo xe)).items = q := ⟨_, rfl⟩
                  obtain ⟨CP, hCP⟩ : ∃ q, (cvT K (.mk xk xi xp xn xc xl xo xe)).parts = q := ⟨_, rfl⟩
                  rw [hCI, hCP] at hcf hcl
                  rw [hCI] at S1
                  rw [hCP] at S2
                  rw [hcf] at CO
                  replace CO := fun u hb => (CO u hb).mono fun e' w' h => RetVB.exC (xk := K) (xi := CI) (xp := CP) (xn := xn) (xc := []) (xl := []) (xo := 0) (xe := 0) h
                  have HCO : Hid (∀ p ∈ ps.take (m + 1), coB K p = true) := Lib.hid (by
                    rw [HTK.out]
                    intro p hp
                    rcases List.mem_append.1 hp with hp | hp
                    · exact hco.out p hp
                    · rw [List.mem_singleton.1 hp]; exact hq)
                  have hLK : lenN K CI.length CP.length = n := by unfold lenN; rw [if_neg (by omega)]; exact hcl
                  have HLK := Lib.hid hLK
                  have LA2 := fun (C1 C2 C3 C4 C5 : Option Addr) (d1 d2 d3 d4 d5 : Nat) u => spec_len K C1 C2 CI.length CP.length d1 d2 (.slice C3 xn.length d3) (.slice C4 0 d4) (.slice C5 0 d5) (.int .i64 0) (.int .i64 0) u (by omega)
                  rw [hLK] at LA2
                  have HL41 : Hid (cbL ps (m + 1) ≤ 40) := Lib.hid (Nat.le_trans (cbL_mono ps (show m + 1 ≤ ps.length from hlt)) (by rw [HTT.out]; omega))
                  have l1 : I.length ≤ 100 := by omega
                  have l2 : P.length ≤ 100 := by omega
                  have l3 : CI.length ≤ 100 := by omega
                  have l4 : CP.length ≤ 100 := by omega
                  clear hcy hcf hCI hCP hq HNO HCN HCY HCV HTK HLO hcl hLK lIPN HXN
                  go_wp2_with fail
                  refine (CO _ hO.below).mono ?_
                  rintro e u ⟨C1, C2, C3, C4, C5, d1, d2, d3, d4, d5, F, rfl, hvo, hb⟩
                  replace hO := hO.call hb
                  clear hb
                  simp only [zK, zL] at hO
                  replace LA2 := LA2 C1 C2 C3 C4 C5 d1 d2 d3 d4 d5
                  have hX := hO.openV hvo
                  clear hO hvo
                  obtain ⟨pvs1, Ls1, hvl1, hO⟩ := hX
                  replace hO := hO.pick [6, 5, 0, 1, 2, 7, 8, 9, 10, 11] (by decide)
                  simp only [zN, zO, zE, zD] at hO
                  replace hO := hO.merge
                  go_wp2_with (first | ((with_reducible refine zac ?_); refine zal rfl hO rfl ?_; (refine nm 9 rfl ?_; clear hO; intro b9 u hO); simp only [zL, zK] at hO) | ((with_reducible refine zaa ?_); refine zlf rfl hO rfl _ (by (first | exact at8 | exact at9 | fail)) ?_) | ((with_reducible refine zab ?_); refine zsc rfl hO rfl _ (by exact at9) ?_; clear hO; intro u hO; simp only [zC, zB] at hO) | ((with_reducible refine zab ?_); refine zsf rfl hO rfl _ (by exact at8) (zM rfl) ?_; clear hO; intro u hO; simp only [zC, zB] at hO) | ((with_reducible refine zaq ?_); refine zar hO rfl (by rfl) rfl rfl _ (by (first | exact at4 | exact at5 | fail)) ((hO.row_sl 1 rfl)) (itc_one _) (by omega) (by omega) rfl (fun A' c' => by simp only [Act.put, zA, zB, zC]; rfl) ?_; clear hO; intro A' c' u hO; simp only [zC, zB, Nat.zero_add, zL] at hO; (try simp only [Nat.zero_add])) | ((with_reducible refine zaq ?_); refine zar hO rfl (by rfl) rfl rfl _ (by exact at5) ((hO.row_sl 2 rfl)) (hvl1.oneC) (by omega) (by omega) rfl (fun A' c' => by simp only [Act.put, zA, zB, zC]; rfl) ?_; clear hO; intro A' c' u hO; simp only [zC, zB, Nat.zero_add, zL] at hO; (try simp only [Nat.zero_add])) | fail)
                  have e00 : N ++ cbM lab xn n 0 = N := by simp [cbM]
                  go_loopw [13] (fun i u => ∃ (j : Nat) (A1' A2' A3' : Option Addr) (c1' c2' c3' : Nat), j ≤ n ∧ i = .int .i64 j ∧ Own w [pack (Ls.flatten ++ Ls1.flatten), row 83 3 (.slice C1 CI.length d1) CI.length (itc CI), row 29 8 (.slice C2 CP.length d2) CP.length pvs1.flatten, row 9 1 (.slice C3 xn.length d3) xn.length (stc xn), row 83 3 (.slice A1' (I.length + CI.length) c1') (I.length + CI.length) (itc I ++ itc CI), row 29 8 (.slice A2' (P.length + CP.length) c2') (P.length + CP.length) (pvs.flatten ++ pvs1.flatten), row 9 1 (.slice A3' (N ++ cbM lab xn n j).length c3') (N ++ cbM lab xn n j).length (stc (N ++ cbM lab xn n j)), box b0 29 [.int .i64 0, .slice none 0 0, .slice none 0 0, .slice none 0 0, .slice none 0 0, .slice none 0 0, .int .i64 0, .int .i64 0], box b1 29 [.int .i64 K, .slice A1' (I.length + CI.length) c1', .slice A2' (P.length + CP.length) c2', .slice A3' (N ++ cbM lab xn n j).length c3', .slice none 0 0, .slice none 0 0, .int .i64 0, .int .i64 0], box b9 29 [.int .i64 K, .slice C1 CI.length d1, .slice C2 CP.length d2, .slice C3 xn.length d3, .slice C4 0 d4, .slice C5 0 d5, .int .i64 0, .int .i64 0]] u) (fun i _ => n - (intOf i).toNat)
                  case atStart => exact ⟨0, _, _, A3, _, _, c3, Nat.zero_le _, rfl, by rw [e00]; exact hO⟩
                  case round =>
                    clear hO e00
                    obtain ⟨j, A1', A2', A3', c1', c2', c3', hj, rfl, hO⟩ := hrel
                    have HML : Hid ((N ++ cbM lab xn n j).length ≤ 100) := Lib.hid (by rw [List.length_append, cbM_len]; have := HLN'.out.2; omega)
                    by_cases hjn : j < n
                    · have i1 : (j : Int) < (n : Int) := by omega
                      have HM : Hid (N ++ cbM lab xn n (j + 1) = N ++ cbM lab xn n j ++ [nmC lab xn n j]) := Lib.hid (by rw [cbM_succ, List.append_assoc])
                      have CN := fun u (hs : Sl u 1 C3 xn.length (stc xn)) => spec_name K C1 C2 C3 CI.length CP.length d1 d2 d3 (.slice C4 0 d4) (.slice C5 0 d5) (.int .i64 0) (.int .i64 0) xn lab j n u hs hxn (getD_len (fun s hs => Nat.le_trans (HNS.out s hs) (by decide))) hlabz (by omega) HLK.out (by omega) (by rcases HNM.out with h | h; exact .inl h; exact .inr (by omega))
                      obtain ⟨nm, hnm⟩ : ∃ q, nmC lab xn n j = q := ⟨_, rfl⟩
                      rw [hnm] at CN HM
                      obtain ⟨M, hM⟩ : ∃ q, N ++ cbM lab xn n j = q := ⟨_, rfl⟩
                      rw [hM] at hO HM HML
                      have lM := HML.out
                      clear hM hnm
                      by_cases f1 : 0 < ls.length
                      · obtain ⟨bl, ol, rfl, hbl, g0, hml⟩ := HLT.out f1
                        have i2 : (m : Int) < (ls.length : Int) := by omega
                        go_upto_region 28 with (first | ((with_reducible refine (LA2 _).mono ?_); rintro e u ⟨rfl, hb⟩; (replace hO := hO.step hb; clear hb)) | ((with_reducible refine zaa ?_); refine zlb rfl hO rfl _ (by exact at9) ?_) | fail)
                        have e0 := (hO.old hbl).trans g0
                        clear hml hbl g0
                        go_wp2_with fail
                        clear e0
                        refine J.wp_region_c (n := 123) [0, 1, 2, 3, 4, 5] [6] (deps := fun i => [[], [0], [], [], [], [2, 3, 4], [2, 3, 4, 5], [], [], []].getD i []) (fun _ _ => (J.freshS 9 [.string nm])) (r := 3) (lst := #[true, true, true, true, true, true, true, false, false, false]) (by kernel_rfl) (by kernel_rfl) (by kernel_rfl) rfl (by decide) (by kernel_rfl) hO ?_
                        refine zcp (h := ?_)
                        refine zcc (f := fun M u hO K hK => by (exact zad hO rfl rfl _ (by exact at8) (by rfl) (by rfl) (hK _ hO))) (h := ?_)
                        refine zcp (h := ?_)
                        refine zcc (f := fun M u hO K hK => by (exact zah hO rfl rfl _ (by exact at9) (by rfl) (by rfl) (hK _ hO))) (h := ?_)
                        refine zcp (h := ?_)
                        refine zcc (f := fun M u hO K hK => by (simp only [wp_at_zero, wp_at_succ]; go_step; refine (CN _ (hO.row_sl 3 rfl)).mono ?_; rintro e u ⟨rfl, hb⟩; exact hK _ (hO.step hb))) (h := ?_)
                        refine J.Chain.nil ⟨?_, ?_⟩
                        · refine J.Each.cons (by rfl) ?_ ?_; exact ⟨rfl, fun vs M u hO _ K hK => by (refine zax (cs := [.string nm]) hO rfl (by simp only [Act.eval, zJ, zP, J.putL, zI, zG, zH, J.dstOf, zF, zD, zE, zS, zQ, zR, Act.put, zA, zB, zC]; rfl) rfl rfl (zM rfl) rfl fun b u hO => ?_; exact hK _ _ _ (show (J.freshS 9 [.string nm]) _ from ⟨b, rfl⟩) hO)⟩; exact J.Each.nil
                        intro vs u hO hF
                        obtain ⟨b3, h6⟩ : J.freshS _ _ (vs 6) := hF 6 (by decide)
                        clear hF
                        simp only [List.flatMap_cons, List.flatMap_nil, h6, List.append_nil, zL, zK] at hO
                        simp only [h6, J.putL, zI, zG, zH, J.dstOf, zF, zD, zE, zS, zQ, zR, Act.put, zA, zB, zC]
                        clear h6 vs
                        refine J.wpAny_one (i := 7) (by kernel_rfl) (by rfl) rfl fun K hK => ?_
                        refine zaw hO rfl rfl rfl _ (by exact at6) _ (by exact at10) (by rfl) (by simp [Value.oneCell']) (by omega) (by omega) rfl ?_
                        clear hO
                        intro A' c' u hO
                        simp only [zC, zB] at hO
                        simp only [Act.put, zA, zB, zC]
                        refine hK _ _ ?_
                        clear hK K
                        refine J.wpAny_one (i := 8) (by kernel_rfl) (by rfl) rfl fun K hK => ?_
                        simp only [wp_at_zero, wp_at_succ]
                        go_step
                        refine hK _ _ ?_
                        clear hK K
                        refine J.wpAny_one (i := 9) (by kernel_rfl) (by rfl) rfl fun K hK => ?_
                        (refine zau hO rfl rfl _ (by exact at8) (zM rfl) (by simp only [Act.eval, zJ, zF, zD, zE, zP]; rfl) (by rfl) (by rfl) (by rfl) ?_; clear hO; intro u hO; simp only [zC, zB] at hO; refine hK _ _ ?_; clear hK K)
                        refine wpAny_done (by kernel_rfl) ?_ _
                        go_wp2_with fail
                        replace hO := hO.pick [0, 1, 2, 3, 4, 5, 6, 7, 8, 9] (by decide)
                        simp only [zN, zO, zE, zD] at hO
                        have L1 : (N ++ cbM lab xn n (j + 1)).length = M.length + 1 := by rw [HM.out, List.length_append]; rfl
                        have E1 : stc (N ++ cbM lab xn n (j + 1)) = stc M ++ [.string nm] := by rw [HM.out, stc_app]; rfl
                        rw [← L1, ← E1] at hO
                        go_roundw
                        case rel => exact ⟨j + 1, _, _, _, _, _, _, by omega, by go_num, hO⟩
                        case measure => simp [intOf]; omega
                      · have e := HLZ.out (by omega)
                        subst e
                        go_wp2_with (first | ((with_reducible refine (LA2 _).mono ?_); rintro e u ⟨rfl, hb⟩; (replace hO := hO.step hb; clear hb)) | ((with_reducible refine zaa ?_); refine zlb rfl hO rfl _ (by exact at9) ?_) | fail)
                        refine J.wp_region_c (n := 123) [0, 1, 2, 3, 4, 5] [6] (deps := fun i => [[], [0], [], [], [], [2, 3, 4], [2, 3, 4, 5], [], [], []].getD i []) (fun _ _ => (J.freshS 9 [.string nm])) (r := 3) (lst := #[true, true, true, true, true, true, true, false, false, false]) (by kernel_rfl) (by kernel_rfl) (by kernel_rfl) rfl (by decide) (by kernel_rfl) hO ?_
                        refine zcp (h := ?_)
                        refine zcc (f := fun M u hO K hK => by (exact zad hO rfl rfl _ (by exact at8) (by rfl) (by rfl) (hK _ hO))) (h := ?_)
                        refine zcp (h := ?_)
                        refine zcc (f := fun M u hO K hK => by (exact zah hO rfl rfl _ (by exact at9) (by rfl) (by rfl) (hK _ hO))) (h := ?_)
                        refine zcp (h := ?_)
                        refine zcc (f := fun M u hO K hK => by (simp only [wp_at_zero, wp_at_succ]; go_step; refine (CN _ (hO.row_sl 3 rfl)).mono ?_; rintro e u ⟨rfl, hb⟩; exact hK _ (hO.step hb))) (h := ?_)
                        refine J.Chain.nil ⟨?_, ?_⟩
                        · refine J.Each.cons (by rfl) ?_ ?_; exact ⟨rfl, fun vs M u hO _ K hK => by (refine zax (cs := [.string nm]) hO rfl (by simp only [Act.eval, zJ, zP, J.putL, zI, zG, zH, J.dstOf, zF, zD, zE, zS, zQ, zR, Act.put, zA, zB, zC]; rfl) rfl rfl (zM rfl) rfl fun b u hO => ?_; exact hK _ _ _ (show (J.freshS 9 [.string nm]) _ from ⟨b, rfl⟩) hO)⟩; exact J.Each.nil
                        intro vs u hO hF
                        obtain ⟨b3, h6⟩ : J.freshS _ _ (vs 6) := hF 6 (by decide)
                        clear hF
                        simp only [List.flatMap_cons, List.flatMap_nil, h6, List.append_nil, zL, zK] at hO
                        simp only [h6, J.putL, zI, zG, zH, J.dstOf, zF, zD, zE, zS, zQ, zR, Act.put, zA, zB, zC]
                        clear h6 vs
                        refine J.wpAny_one (i := 7) (by kernel_rfl) (by rfl) rfl fun K hK => ?_
                        refine zaw hO rfl rfl rfl _ (by exact at6) _ (by exact at10) (by rfl) (by simp [Value.oneCell']) (by omega) (by omega) rfl ?_
                        clear hO
                        intro A' c' u hO
                        simp only [zC, zB] at hO
                        simp only [Act.put, zA, zB, zC]
                        refine hK _ _ ?_
                        clear hK K
                        refine J.wpAny_one (i := 8) (by kernel_rfl) (by rfl) rfl fun K hK => ?_
                        simp only [wp_at_zero, wp_at_succ]
                        go_step
                        refine hK _ _ ?_
                        clear hK K
                        refine J.wpAny_one (i := 9) (by kernel_rfl) (by rfl) rfl fun K hK => ?_
                        (refine zau hO rfl rfl _ (by exact at8) (zM rfl) (by simp only [Act.eval, zJ, zF, zD, zE, zP]; rfl) (by rfl) (by rfl) (by rfl) ?_; clear hO; intro u hO; simp only [zC, zB] at hO; refine hK _ _ ?_; clear hK K)
                        refine wpAny_done (by kernel_rfl) ?_ _
                        go_wp2_with fail
                        replace hO := hO.pick [0, 1, 2, 3, 4, 5, 6, 7, 8, 9] (by decide)
                        simp only [zN, zO, zE, zD] at hO
                        have L1 : (N ++ cbM ⟨#[]⟩ xn n (j + 1)).length = M.length + 1 := by rw [HM.out, List.length_append]; rfl
                        have E1 : stc (N ++ cbM ⟨#[]⟩ xn n (j + 1)) = stc M ++ [.string nm] := by rw [HM.out, stc_app]; rfl
                        rw [← L1, ← E1] at hO
                        go_roundw
                        case rel => exact ⟨j + 1, _, _, _, _, _, _, by omega, by go_num, hO⟩
                        case measure => simp [intOf]; omega
                    · have hjn2 : j = n := by omega
                      subst hjn2
                      obtain ⟨M, hM⟩ : ∃ q, N ++ cbM lab xn j j = q := ⟨_, rfl⟩
                      rw [hM] at hO S3
                      clear hM
                      go_wp2_with (first | ((with_reducible refine (LA2 _).mono ?_); rintro e u ⟨rfl, hb⟩; (replace hO := hO.step hb; clear hb)) | ((with_reducible refine zaa ?_); refine zlb rfl hO rfl _ (by exact at9) ?_) | fail)
                      replace hO := hO.pick [0, 4, 5, 6, 7, 8] (by decide)
                      simp only [zN, zO, zE, zD] at hO
                      have L1 : (cbI K ps (m + 1)).length = I.length + CI.length := by rw [S1.out, List.length_append]
                      have L2 : (cbP K ps (m + 1)).length = P.length + CP.length := by rw [S2.out, List.length_append]
                      rw [← L1, ← L2, ← List.flatten_append, ← List.flatten_append, ← itc_app, ← S1.out, ← S3.out] at hO
                      go_roundw
                      case rel => exact ⟨m + 1, _, _, _, _, _, _, _, _, by omega, by go_num, HCO, HL41, by rw [S2.out]; exact hvl.appC hvl1, hO⟩
                      case measure => simp [intOf]; omega
              · have hmn : m = ps.length := by omega
                subst hmn
                rw [List.take_length] at hco
                have HGy : cbG K ps = true := cbG_yes h40.out hco.out
                have hsz : szV (cbV K ps ls) ≤ 268435456 := cbV_sz hco.out h40.out HZ.out
                have HX : Hid (X = if isV (cbV K ps ls) then cbV K ps ls else vecI 0 []) := Lib.hid (by rw [HT'.out, HGy]; rfl)
                have HY : Hid (Y = if isV (cbV K ps ls) then ⟨#[]⟩ else bigS) := Lib.hid (by rw [HS'.out, HGy]; rfl)
                have CF : ∀ (vs : List Value) (u : World), RdV u (cbV K ps ls) vs → Calls Try.prog 61 #[.agg vs.toArray] u fun e' w' => e' = .returned (.tuple #[.agg (if isV (cbV K ps ls) then vs else zero8).toArray, .string (if isV (cbV K ps ls) then ⟨#[]⟩ else bigS)]) ∧ Below u.heap.size u w' := fun vs u h => spec_fitG (cbV K ps ls) vs u h hsz
                have HV : Hid (cbV K ps ls = .mk K (cbI K ps ps.length) (cbP K ps ps.length) (tdN (cbN ls ps ps.length)) [] [] 0 0) := Lib.hid rfl
                have hln := HLN.out.2
                have hl40 := h40.out
                obtain ⟨q, hq⟩ : ∃ q, isV (cbV K ps ls) = q := ⟨_, rfl⟩
                rw [hq] at CF HX HY
                rw [HV.out] at CF HX
                obtain ⟨I, hI⟩ : ∃ I, cbI K ps ps.length = I := ⟨_, rfl⟩
                obtain ⟨P, hP⟩ : ∃ P, cbP K ps ps.length = P := ⟨_, rfl⟩
                obtain ⟨N, hN⟩ : ∃ N, cbN ls ps ps.length = N := ⟨_, rfl⟩
                rw [hI] at hO CF HX
                rw [hP] at hO CF HX hvl
                rw [hN] at hO CF HX hln
                have lN : N.length ≤ 1048576 := by omega
                clear hI hP hN hln hl40 hq HV HGy hsz HT' HS' HLN h40 hco hlt hm HLB HLS
                go_wp2_with (first | ((with_reducible refine zaa ?_); refine zlb rfl hO rfl _ (by exact at5) ?_) | fail)
                refine (spec_clean K A1 A2 A3 none none I.length c1 P.length c2 c3 0 0 0 0 0 0 N _ (hO.row_sl 3 rfl) lN).mono ?_
                rintro e9 u ⟨T', t', rfl, hb⟩
                replace hO := hO.front 3 rfl
                simp only [List.eraseIdx_cons_zero, List.eraseIdx_cons_succ] at hO
                replace hO := hO.tidy hb
                clear hb
                replace hO := (hO.addNil 9 1).addNil 9 1
                simp only [List.cons_append, List.nil_append] at hO
                replace hO := hO.pick [2, 3, 0, 6, 7, 1, 4, 5] (by decide)
                simp only [zN, zO, zE, zD] at hO
                have hX : ∃ F, VO (.mk K I P (tdN N) [] [] 0 0) [.int .i64 K, .slice A1 I.length c1, .slice A2 P.length c2, .slice T' (tdN N).length t', .slice none 0 0, .slice none 0 0, .int .i64 0, .int .i64 0] F ∧ Own w (pack F :: [box b0 29 [.int .i64 0, .slice none 0 0, .slice none 0 0, .slice none 0 0, .slice none 0 0, .slice none 0 0, .int .i64 0, .int .i64 0], box b1 29 [.int .i64 K, .slice A1 I.length c1, .slice A2 P.length c2, .slice A3 N.length c3, .slice none 0 0, .slice none 0 0, .int .i64 0, .int .i64 0]]) u := ⟨_, VO.close (cs := []) (ls := []) hvl, Own.packs' [_, _, _, _, _] hO⟩
                clear hO hvl
                obtain ⟨F, hvo, hO⟩ := hX
                cases q with
                | true =>
                  have HF : Hid (X = .mk K I P (tdN N) [] [] 0 0) := Lib.hid (by rw [HX.out, if_pos rfl])
                  have HG : Hid (Y = ⟨#[]⟩) := Lib.hid (by rw [HY.out, if_pos rfl])
                  simp only [if_true] at CF
                  clear HX HY
                  go_wp2_with (first | ((with_reducible refine (CF _ _ (hO.rdp 0 rfl hvo)).mono ?_); rintro e u ⟨rfl, hb⟩; (replace hO := hO.step hb; clear hb)) | (with_reducible refine zao ?_) | ((with_reducible refine zac ?_); refine zal rfl hO rfl ?_; (refine nm 3 rfl ?_; clear hO; intro b3 u hO); simp only [zL, zK] at hO) | ((with_reducible refine zaa ?_); refine zlb rfl hO rfl _ (by exact at3) ?_) | ((with_reducible refine zab ?_); refine zsc rfl hO rfl _ (by (first | exact at1 | exact at3 | fail)) ?_; clear hO; intro u hO; simp only [zC, zB] at hO) | fail)
                  exact ⟨zap rfl hO rfl 1 at1 rfl rfl rfl ⟨_, _, by rw [HG.out]; rfl, by rw [HF.out]; exact hvo, hO.pick [0] (by decide)⟩⟩
                | false =>
                  have HF : Hid (X = vecI 0 []) := Lib.hid (by rw [HX.out]; rfl)
                  have HG : Hid (Y = bigS) := Lib.hid (by rw [HY.out]; rfl)
                  simp only [Bool.false_eq_true, if_false] at CF
                  clear HX HY
                  go_wp2_with (first | ((with_reducible refine (CF _ _ (hO.rdp 0 rfl hvo)).mono ?_); rintro e u ⟨rfl, hb⟩; (replace hO := hO.step hb; clear hb)) | (with_reducible refine zao ?_) | ((with_reducible refine zac ?_); refine zal rfl hO rfl ?_; (refine nm 3 rfl ?_; clear hO; intro b3 u hO); simp only [zL, zK] at hO) | ((with_reducible refine zaa ?_); refine zlb rfl hO rfl _ (by exact at3) ?_) | ((with_reducible refine zab ?_); refine zsc rfl hO rfl _ (by (first | exact at1 | exact at3 | fail)) ?_; clear hO; intro u hO; simp only [zC, zB] at hO) | fail)
                  obtain ⟨F0, hvo0, hF⟩ := Own.vec0 u 0
                  exact ⟨zap rfl hO rfl 1 at1 rfl rfl rfl ⟨_, _, by rw [HG.out]; rfl, by rw [HF.out]; exact hvo0, (hO.call hF).pick [0] (by decide)⟩⟩

end Go.Proofs.Ytmofcbpabdbjlaa
