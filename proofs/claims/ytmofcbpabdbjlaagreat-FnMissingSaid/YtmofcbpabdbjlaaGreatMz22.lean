/-
  What is proved: what pairwise returns, for any function value that computes an item from two; what LogicOf says of two vectors, in plain Lean; the function that it computes each element with; vectors of items whose names are laid anew; plain facts on the operations on numbers.
  Condition: at most 40 items on each side; items of 64-bit ints.
-/
import Derived.Deep.Cut
import Derived.Test.YtmofcbpabdbjlaaGreatMz4
import Derived.Test.YtmofcbpabdbjlaaGreatMz5
import Derived.Test.YtmofcbpabdbjlaaGreatMz9
import Derived.Test.YtmofcbpabdbjlaaGreatMz21
namespace Go.Proofs.YtmofcbpabdbjlaaGreat

set_option maxRecDepth 8000

open Go.RowKit Go.ChangeShapes Go.WideShapes Go.Deep

set_option linter.unusedVariables false

set_option linter.unusedSimpArgs false

def pwT (kind : Int) (ia ib : List It) (G : It → It → It) : VT := if recB ia.length ib.length then vecI kind (pwL (atI ia) (atI ib) G (recN ia.length ib.length)) else vecI 0 []

def pwS (ia ib : List It) : ByteArray := if recB ia.length ib.length then ⟨#[]⟩ else difS

/-- a function value of this program is entered as it is called by name -/
def Enters (f : Nat) : Prop := ∀ (args : Array Value) (u : World), Sem.run Tryz.prog (callFunc f args) u = .ok (.enter f args) u

theorem Enters.of {f : Nat} {fn : Func} {c : Code} (hf : Tryz.prog.funcs[f]? = some fn) (hname : (fn.name == "runtime.NumGoroutine") = false) (hb : fn.body = some c) : Enters f := fun args u => by
  have h1 : fn.name ≠ "runtime.NumGoroutine" := by simpa using hname
  simp [callFunc, hf, h1, hb]

set_option maxRecDepth 20000 in
set_option maxHeartbeats 4000000 in
theorem impl_pairwise (kind k k' : Int) (Ai Bi : Option Addr) (ci ci' : Nat) (ia ib : List It) (v2 v3 v4 v5 v6 v7 u2 u3 u4 u5 u6 u7 : Value) (f : Nat) (caps : Array Value) (G : It → It → It) (w : World) (ha : Sl w 3 Ai ia.length (itc ia)) (hb : Sl w 3 Bi ib.length (itc ib)) (hla : ia.length ≤ 40) (hlb : ib.length ≤ 40) (hE : Enters f)
    (hG : ∀ x ∈ ia, ∀ y ∈ ib, ∀ u, Below w.heap.size w u → Calls Tryz.prog f (#[.agg #[.int .i64 x.num, .int .i64 x.den, .string x.text], .agg #[.int .i64 y.num, .int .i64 y.den, .string y.text]] ++ caps) u fun e w' => e = .returned (.agg #[.int .i64 (G x y).num, .int .i64 (G x y).den, .string (G x y).text]) ∧ Below u.heap.size u w') :
    Calls Tryz.prog 21 #[.int .i64 kind, .agg #[.int .i64 k, .slice Ai ia.length ci, v2, v3, v4, v5, v6, v7], .agg #[.int .i64 k', .slice Bi ib.length ci', u2, u3, u4, u5, u6, u7], .func (.func f) #[] caps] w (RetVS (pwT kind ia ib G) (pwS ia ib) w) := by
  have hE' : ∀ (args : Array Value) (u : World), Sem.run Tryz.prog (callFunc f args) u = .ok (.enter f args) u := hE
  have HE : Hid (pwT kind ia ib G = if recB ia.length ib.length then vecI kind (pwL (atI ia) (atI ib) G (recN ia.length ib.length)) else vecI 0 []) := Lib.hid rfl
  have HS : Hid (pwS ia ib = if recB ia.length ib.length then ⟨#[]⟩ else difS) := Lib.hid rfl
  have hN40 := recN_le hla hlb
  have HNZ : Hid (0 < recN ia.length ib.length → 0 < ia.length ∧ 0 < ib.length) := Lib.hid (by unfold recN; intro h; split at h <;> omega)
  have CR := fun u => impl_recycled ia.length ib.length u (by omega) (by omega)
  obtain ⟨q, hq⟩ : ∃ q, recB ia.length ib.length = q := ⟨_, rfl⟩
  rw [hq] at HE HS CR
  obtain ⟨N, hN⟩ : ∃ N, recN ia.length ib.length = N := ⟨_, rfl⟩
  rw [hN] at HE CR hN40 HNZ
  clear hq hN
  cases q with
  | false =>
    have HF : Hid (pwT kind ia ib G = vecI 0 []) := Lib.hid (by rw [HE.out]; rfl)
    have HG : Hid (pwS ia ib = difS) := Lib.hid (by rw [HS.out]; rfl)
    clear HE HS ha hb hG
    go_enter Tryz.func21, Tryz.ntmps21
    have hO := Own.nil w
    go_wp2_with (first | ((with_reducible refine zac ?_); refine zal rfl hO rfl ?_; (refine nm 2 rfl ?_; clear hO; intro b2 u hO); simp only [zL, zK] at hO) | ((with_reducible refine zad ?_); refine zbx rfl hO rfl rfl ?_; (first | (refine nm 0 rfl ?_; clear hO; intro b0 u hO) | (refine nm 1 rfl ?_; clear hO; intro b1 u hO) | fail); simp only [zL, zK] at hO) | ((with_reducible refine zaa ?_); refine zlf rfl hO rfl _ (by (first | exact at0 | exact at1 | fail)) ?_) | fail)
    refine (CR _).mono ?_
    rintro e u ⟨r, rfl, _, hb⟩
    replace hO := hO.step hb
    clear hb CR
    go_wp2_with (first | ((with_reducible refine zab ?_); refine zsb rfl hO rfl _ (by exact at2) rfl ?_; clear hO; intro u hO; simp only [zC, zB] at hO) | fail)
    obtain ⟨F, hvo, hF⟩ := Own.vec0 u 0
    exact zau rfl hO rfl 2 at2 rfl rfl rfl ⟨_, _, by rw [HG.out]; rfl, by rw [HF.out]; exact hvo, (hO.call hF).pick [0] (by decide)⟩
  | true =>
    have HF : Hid (pwT kind ia ib G = vecI kind (pwL (atI ia) (atI ib) G N)) := Lib.hid (by rw [HE.out]; rfl)
    have HG : Hid (pwS ia ib = ⟨#[]⟩) := Lib.hid (by rw [HS.out]; rfl)
    clear HE HS
    go_enter Tryz.func21, Tryz.ntmps21
    have hO := Own.nil w
    go_wp2_with (first | ((with_reducible refine zac ?_); refine zal rfl hO rfl ?_; (refine nm 2 rfl ?_; clear hO; intro b2 u hO); simp only [zL, zK] at hO) | ((with_reducible refine zad ?_); refine zbx rfl hO rfl rfl ?_; (first | (refine nm 0 rfl ?_; clear hO; intro b0 u hO) | (refine nm 1 rfl ?_; clear hO; intro b1 u hO) | fail); simp only [zL, zK] at hO) | ((with_reducible refine zaa ?_); refine zlf rfl hO rfl _ (by (first | exact at0 | exact at1 | fail)) ?_) | fail)
    refine (CR _).mono ?_
    rintro e u ⟨r, rfl, hr, hb2⟩
    have hr : r = N := by simpa using hr
    subst hr
    replace hO := hO.step hb2
    clear hb2 CR
    go_wp2_with (first | ((with_reducible refine zac ?_); refine zal rfl hO rfl ?_; (refine nm 3 rfl ?_; clear hO; intro b3 u hO); simp only [zL, zK] at hO) | ((with_reducible refine zab ?_); refine zsb rfl hO rfl _ (by exact at3) rfl ?_; clear hO; intro u hO; simp only [zC, zB] at hO) | fail)
    replace hO := hO.addNil 35 3
    simp only [List.cons_append, List.nil_append] at hO
    go_loopw [13] (fun i u => ∃ (m : Nat) (A' : Option Addr) (c' : Nat), m ≤ r ∧ i = .int .i64 m ∧ Own w [box b0 28 [.int .i64 k, .slice Ai ia.length ci, v2, v3, v4, v5, v6, v7], box b1 28 [.int .i64 k', .slice Bi ib.length ci', u2, u3, u4, u5, u6, u7], box b2 28 [.int .i64 0, .slice none 0 0, .slice none 0 0, .slice none 0 0, .slice none 0 0, .slice none 0 0, .int .i64 0, .int .i64 0], box b3 28 [.int .i64 kind, .slice A' m c', .slice none 0 0, .slice none 0 0, .slice none 0 0, .slice none 0 0, .int .i64 0, .int .i64 0], row 35 3 (.slice A' m c') m (itc (pwL (atI ia) (atI ib) G m))] u) (fun i _ => r - (intOf i).toNat)
    case atStart => exact ⟨0, none, 0, Nat.zero_le _, rfl, hO⟩
    case round =>
      clear hO
      obtain ⟨m, A', c', hm, rfl, hO⟩ := hrel
      by_cases hlt : m < r
      · obtain ⟨p1, p2⟩ := HNZ.out (by omega)
        have n1 : ¬ ia.length = 0 := by omega
        have n2 : ¬ ib.length = 0 := by omega
        have i1 : (m : Int) < (r : Int) := by omega
        obtain ⟨ja, hja⟩ : ∃ j, m % ia.length = j := ⟨_, rfl⟩
        obtain ⟨jb, hjb⟩ : ∃ j, m % ib.length = j := ⟨_, rfl⟩
        have a1 : ja < ia.length := by rw [← hja]; exact Nat.mod_lt _ p1
        have a2 : jb < ib.length := by rw [← hjb]; exact Nat.mod_lt _ p2
        have m1 : (m : Int) % (ia.length : Int) = (ja : Int) := by rw [← Int.natCast_emod, hja]
        have m2 : (m : Int) % (ib.length : Int) = (jb : Int) := by rw [← Int.natCast_emod, hjb]
        have c1 : (ja : Int) < (ia.length : Int) := by omega
        have c2 : (jb : Int) < (ib.length : Int) := by omega
        have HSS : Hid (itc (pwL (atI ia) (atI ib) G (m + 1)) = itc (pwL (atI ia) (atI ib) G m) ++ itc1 (G ia[ja] ib[jb])) := Lib.hid (by
          rw [pwL_succ, itc_app, atI_eq hja a1, atI_eq hjb a2]
          simp [itc])
        have CG := hG _ (List.getElem_mem a1) _ (List.getElem_mem a2)
        obtain ⟨x, hx⟩ : ∃ x, ia[ja] = x := ⟨_, rfl⟩
        obtain ⟨y, hy⟩ : ∃ y, ib[jb] = y := ⟨_, rfl⟩
        obtain ⟨ba, oa, rfl, hba, d0, d1, d2⟩ := ha.it (Below.refl _ _) a1 hx
        obtain ⟨bc, oc, rfl, hbc, f0, f1, f2⟩ := hb.it (Below.refl _ _) a2 hy
        rw [hx, hy] at HSS CG
        obtain ⟨g, hg⟩ : ∃ g, G x y = g := ⟨_, rfl⟩
        rw [hg] at HSS CG
        clear hx hy hg hja hjb p1 p2
        obtain ⟨xn, xd, xt⟩ := x
        obtain ⟨yn, yd, yt⟩ := y
        obtain ⟨gn, gd, gt⟩ := g
        simp only at d0 d1 d2 f0 f1 f2
        simp only [itc1] at HSS
        go_wp2_with fail
        refine J.wp_region_t (n := 60) [0, 1, 2, 3, 4, 5, 6, 7, 8, 9, 10, 11, 12, 13, 14, 15, 16, 17, 18, 19, 20, 21] [22] [0, 1, 0, 0, 8, 0, 0, 64, 192, 480, 1016, 2040, 0, 4096, 0, 0, 32768, 98304, 245760, 520192, 1044480, 2097148, 4194300, 8388607, 16777215, 33554431] (deps := fun i => [[], [0], [], [], [3], [], [], [6], [6, 7], [5, 6, 7, 8], [3, 4, 5, 6, 7, 8, 9], [3, 4, 5, 6, 7, 8, 9, 10], [], [12], [], [], [15], [15, 16], [14, 15, 16, 17], [12, 13, 14, 15, 16, 17, 18], [12, 13, 14, 15, 16, 17, 18, 19], [2, 3, 4, 5, 6, 7, 8, 9, 10, 11, 12, 13, 14, 15, 16, 17, 18, 19, 20], [2, 3, 4, 5, 6, 7, 8, 9, 10, 11, 12, 13, 14, 15, 16, 17, 18, 19, 20, 21], [], [], []].getD i []) (fun _ _ => (J.freshS 35 [.int .i64 gn, .int .i64 gd, .string gt])) (r := 3) (lst := #[true, true, true, true, true, true, true, true, true, true, true, true, true, true, true, true, true, true, true, true, true, true, true, false, false, false]) (by kernel_rfl) (by kernel_rfl) (by kernel_rfl) rfl (by decide) (by kernel_rfl) hO ?_
        refine zcp (h := ?_)
        refine zcc (f := fun M u hO K hK => by (exact zae hO rfl rfl _ (by exact at3) (by rfl) (by rfl) (hK _ hO))) (h := ?_)
        refine zcp (h := ?_)
        refine zcp (h := ?_)
        refine zcc (f := fun M u hO K hK => by (exact zae hO rfl rfl _ (by exact at0) (by rfl) (by rfl) (hK _ hO))) (h := ?_)
        refine zcp (h := ?_)
        refine zcp (h := ?_)
        refine zcc (f := fun M u hO K hK => by (exact zae hO rfl rfl _ (by exact at0) (by rfl) (by rfl) (hK _ hO))) (h := ?_)
        refine zcp (h := ?_)
        refine zcp (h := ?_)
        refine zcp (h := ?_)
        refine zcc (f := fun M u hO K hK => by ((have e0 := (hO.old hba).trans d0; have e1 := (hO.old hba).trans d1; have e2 := (hO.old hba).trans d2; have e3 := (hO.old hbc).trans f0; have e4 := (hO.old hbc).trans f1; have e5 := (hO.old hbc).trans f2; simp only [wp_at_zero, wp_at_succ]; go_step; exact hK _ hO))) (h := ?_)
        refine zcp (h := ?_)
        refine zcc (f := fun M u hO K hK => by (exact zae hO rfl rfl _ (by exact at1) (by rfl) (by rfl) (hK _ hO))) (h := ?_)
        refine zcp (h := ?_)
        refine zcp (h := ?_)
        refine zcc (f := fun M u hO K hK => by (exact zae hO rfl rfl _ (by exact at1) (by rfl) (by rfl) (hK _ hO))) (h := ?_)
        refine zcp (h := ?_)
        refine zcp (h := ?_)
        refine zcp (h := ?_)
        refine zcc (f := fun M u hO K hK => by ((have e0 := (hO.old hba).trans d0; have e1 := (hO.old hba).trans d1; have e2 := (hO.old hba).trans d2; have e3 := (hO.old hbc).trans f0; have e4 := (hO.old hbc).trans f1; have e5 := (hO.old hbc).trans f2; simp only [wp_at_zero, wp_at_succ]; go_step; exact hK _ hO))) (h := ?_)
        refine zcc (f := fun M u hO K hK => by (simp only [wp_at_zero, wp_at_succ]; go_step; refine (CG _ hO.below).mono ?_; rintro e u ⟨rfl, hb⟩; exact hK _ (hO.step hb))) (h := ?_)
        refine J.Chain.nil ⟨?_, ?_⟩
        · refine J.Each.cons (by rfl) ?_ ?_; exact ⟨rfl, fun vs M u hO _ K hK => by (refine za4 (cs := [.int .i64 gn, .int .i64 gd, .string gt]) hO rfl (by simp only [Act.eval, zJ, zP, J.putL, zI, zG, zH, J.dstOf, zF, zD, zE, zS, zQ, zR, Act.put, zA, zB, zC]; rfl) rfl rfl (zM rfl) rfl fun b u hO => ?_; exact hK _ _ _ (show (J.freshS 35 [.int .i64 gn, .int .i64 gd, .string gt]) _ from ⟨b, rfl⟩) hO)⟩; exact J.Each.nil
        intro vs u hO hF
        obtain ⟨b4, h22⟩ : J.freshS _ _ (vs 22) := hF 22 (by decide)
        clear hF
        simp only [List.flatMap_cons, List.flatMap_nil, h22, List.append_nil, zL, zK] at hO
        simp only [h22, J.putL, zI, zG, zH, J.dstOf, zF, zD, zE, zS, zQ, zR, Act.put, zA, zB, zC]
        clear h22 vs
        refine J.wpAny_one (i := 23) (by kernel_rfl) (by rfl) rfl fun K hK => ?_
        refine za3 hO rfl rfl rfl _ (by exact at4) _ (by exact at5) (by rfl) (by simp [Value.oneCell']) (by omega) (by omega) rfl ?_
        clear hO
        intro A' c' u hO
        simp only [zC, zB] at hO
        simp only [Act.put, zA, zB, zC]
        refine hK _ _ ?_
        clear hK K
        refine J.wpAny_one (i := 24) (by kernel_rfl) (by rfl) rfl fun K hK => ?_
        simp only [wp_at_zero, wp_at_succ]
        go_step
        refine hK _ _ ?_
        clear hK K
        refine J.wpAny_one (i := 25) (by kernel_rfl) (by rfl) rfl fun K hK => ?_
        (refine za1 hO rfl rfl _ (by exact at3) (zM rfl) (by simp only [Act.eval, zJ, zF, zD, zE, zP]; rfl) (by rfl) (by rfl) (by rfl) ?_; clear hO; intro u hO; simp only [zC, zB] at hO; refine hK _ _ ?_; clear hK K)
        refine wpAny_done (by kernel_rfl) ?_ _
        go_wp2_with fail
        replace hO := hO.pick [0, 1, 2, 3, 4] (by decide)
        simp only [zN, zO, zE, zD] at hO
        rw [← HSS.out] at hO
        go_roundw
        case rel => exact ⟨m + 1, _, _, by omega, by go_num, hO⟩
        case measure => simp [intOf]; omega
      · have hmn : m = r := by omega
        subst hmn
        have HN : Hid (m = (pwL (atI ia) (atI ib) G m).length) := Lib.hid (pwL_len _ _ _ _).symm
        go_wp2_with (first | ((with_reducible refine zaa ?_); refine zlb rfl hO rfl _ (by exact at3) ?_) | ((with_reducible refine zab ?_); refine zsb rfl hO rfl _ (by exact at2) rfl ?_; clear hO; intro u hO; simp only [zC, zB] at hO) | fail)
        have hR := hO.pick [4] (by decide)
        simp only [List.filterMap_cons, List.filterMap_nil, List.getElem?_cons_zero, List.getElem?_cons_succ] at hR
        have hq := HN.out
        refine zau rfl hO rfl 2 at2 rfl rfl rfl ?_
        clear hO
        obtain ⟨X, hX⟩ : ∃ X, pwL (atI ia) (atI ib) G m = X := ⟨_, rfl⟩
        rw [hX] at hR hq HF
        subst hq
        obtain ⟨F, hvo, hF⟩ := Own.vecI hR kind
        exact ⟨_, _, by rw [HG.out]; rfl, by rw [HF.out]; exact hvo, hF⟩

end Go.Proofs.YtmofcbpabdbjlaaGreat

namespace Go.Proofs.YtmofcbpabdbjlaaGreat

set_option maxRecDepth 8000

open Go.RowKit Go.ChangeShapes Go.WideShapes Go.Deep

set_option linter.unusedVariables false

set_option linter.unusedSimpArgs false

def unkS : ByteArray := ⟨#[117, 110, 107, 110, 111, 119, 110, 32, 111, 112, 101, 114, 97, 116, 111, 114]⟩

/-- the vector of a result computed from two operands -/
def twoT (kind : Int) (G : It → It → It) (a b : VT) : VT := vecN kind (pwL (atI a.items) (atI b.items) G (recN a.items.length b.items.length)) (nmQ (recN a.items.length b.items.length) (lenV a) a.names (lenV b) b.names)

/-- an owned vector of items, cell by cell, and a string -/
theorem RetVS.exI {k : Int} {is : List It} {s : ByteArray} {u w' : World} {e : Ending} (h : RetVS (vecI k is) s u e w') :
    ∃ (Q1 Q2 Q3 Q4 Q5 : Option Addr) (m1 m2 m3 m4 m5 : Nat) (F : List Res), e = .returned (.tuple #[.agg #[.int .i64 k, .slice Q1 is.length m1, .slice Q2 0 m2, .slice Q3 0 m3, .slice Q4 0 m4, .slice Q5 0 m5, .int .i64 0, .int .i64 0], .string s]) ∧
      VO (vecI k is) [.int .i64 k, .slice Q1 is.length m1, .slice Q2 0 m2, .slice Q3 0 m3, .slice Q4 0 m4, .slice Q5 0 m5, .int .i64 0, .int .i64 0] F ∧ Own u [pack F] w' := by
  obtain ⟨vs, F, rfl, hvo, hO⟩ := h
  obtain ⟨Q1, Q2, Q3, Q4, Q5, m1, m2, m3, m4, m5, rfl⟩ := hvo.ex
  exact ⟨Q1, Q2, Q3, Q4, Q5, m1, m2, m3, m4, m5, F, rfl, hvo, hO⟩

end Go.Proofs.YtmofcbpabdbjlaaGreat

namespace Go.Proofs.YtmofcbpabdbjlaaGreat

set_option maxRecDepth 8000

open Go.RowKit

set_option linter.unusedVariables false

set_option linter.unusedSimpArgs false

/-- what is known of a number -/
theorem zaz {n d : Int} {t : ByteArray} (h : zas n d t = true) : 1 ≤ d ∧ d ≤ 999999999 ∧ -999999999 ≤ n ∧ n ≤ 999999999 := by
  unfold zas Nm.isNum at h
  simp only [Bool.and_eq_true, decide_eq_true_eq] at h
  exact ⟨h.2.1, h.2.2.1, h.2.2.2.1, h.2.2.2.2.1⟩

theorem mul_bd {a b A B : Int} (ha : -A ≤ a ∧ a ≤ A) (hb : -B ≤ b ∧ b ≤ B) : -(A * B) ≤ a * b ∧ a * b ≤ A * B := by
  have h1 : (a * b).natAbs ≤ (A * B).natAbs := by
    rw [Int.natAbs_mul, Int.natAbs_mul]
    exact Nat.mul_le_mul (by omega) (by omega)
  have h2 : 0 ≤ A * B := Int.mul_nonneg (by omega) (by omega)
  omega

theorem zax {a b : Int} (ha : -999999999 ≤ a ∧ a ≤ 999999999) (hb : -999999999 ≤ b ∧ b ≤ 999999999) : -999999998000000001 ≤ a * b ∧ a * b ≤ 999999998000000001 := mul_bd ha hb

/-- the value of an operation on two items: the missing one if an operand is no number -/
def op2 (n1 d1 : Int) (t1 : ByteArray) (n2 d2 : Int) (t2 : ByteArray) (r : Int × Int) : Int × Int := if zas n1 d1 t1 && zas n2 d2 t2 then r else (0, 0)

def addI (n1 d1 : Int) (t1 : ByteArray) (n2 d2 : Int) (t2 : ByteArray) : Int × Int := op2 n1 d1 t1 n2 d2 t2 (Nm.mk (n1 * d2 + n2 * d1) (d1 * d2))

def mulI (n1 d1 : Int) (t1 : ByteArray) (n2 d2 : Int) (t2 : ByteArray) : Int × Int := op2 n1 d1 t1 n2 d2 t2 (Nm.mk (n1 * n2) (d1 * d2))

def divI (n1 d1 : Int) (t1 : ByteArray) (n2 d2 : Int) (t2 : ByteArray) : Int × Int := op2 n1 d1 t1 n2 d2 t2 (Nm.mk (n1 * d2) (d1 * n2))

theorem op2_no1 {n1 d1 : Int} {t1 : ByteArray} {n2 d2 : Int} {t2 : ByteArray} {r : Int × Int} (h : zas n1 d1 t1 = false) : op2 n1 d1 t1 n2 d2 t2 r = (0, 0) := by simp [op2, h]

theorem zbl {n1 d1 : Int} {t1 : ByteArray} {n2 d2 : Int} {t2 : ByteArray} {r : Int × Int} (h : zas n2 d2 t2 = false) : op2 n1 d1 t1 n2 d2 t2 r = (0, 0) := by simp [op2, h]

theorem op2_yes {n1 d1 : Int} {t1 : ByteArray} {n2 d2 : Int} {t2 : ByteArray} {r : Int × Int} (h : zas n1 d1 t1 = true) (h' : zas n2 d2 t2 = true) : op2 n1 d1 t1 n2 d2 t2 r = r := by simp [op2, h, h']

end Go.Proofs.YtmofcbpabdbjlaaGreat
