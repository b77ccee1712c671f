/-
  What is proved: plain facts on arithmetic of vectors: results are valid vectors, the shorter operand is repeated. No program in sight; what a function that hands back an owned vector and one more value returns, cell by cell; more places of a list.
  Condition: valid vectors.
-/
import Derived.Test.YtmofcbpabdbjlaaRq6
import Derived.Test.YtmofcbpabdbjlaaRq14
import Derived.Test.YtmofcbpabdbjlaaRq22
import Derived.Test.YtmofcbpabdbjlaaRq31
namespace Go.Proofs.Ytmofcbpabdbjlaa

set_option maxRecDepth 8000

set_option linter.unusedVariables false

set_option linter.unusedSimpArgs false

/-- a number, or none -/
def NzB (r : Int × Int) : Prop := r = (0, 0) ∨ Nm.isNum r.1 r.2 = true

theorem nz_mk (n d : Int) : NzB (Nm.mk n d) := by
  by_cases h : (Nm.mk n d).2 = 0
  · refine .inl ?_
    unfold Nm.mk at h ⊢
    by_cases h1 : d = 0 ∨ Nm.inL n = false ∨ Nm.inL d = false
    · rw [if_pos h1]
    · rw [if_neg h1] at h ⊢
      by_cases h2 : Nm.inM (Nm.red n d) = true
      · rw [if_pos h2] at h
        have := Nm.red_pos n d (fun e => h1 (.inl e))
        omega
      · rw [if_neg h2]
  · exact .inr (Nm.mk_ok h).2.1

theorem nz_op2 {n1 d1 n2 d2 : Int} {t1 t2 : ByteArray} {r : Int × Int} (h : NzB r) : NzB (op2 n1 d1 t1 n2 d2 t2 r) := by
  unfold op2
  split
  · exact h
  · exact .inl rfl

theorem nz_pow (n d : Int) (t : ByteArray) : ∀ k, NzB (powN n d t k)
  | 0 => .inr (show Nm.isNum 1 1 = true by decide)
  | k + 1 => nz_op2 (nz_mk _ _)

theorem nz_ar (k : Nat) (n1 d1 : Int) (t1 : ByteArray) (n2 d2 : Int) (t2 : ByteArray) : NzB (arV k n1 d1 t1 n2 d2 t2) := by
  unfold arV
  split
  · exact nz_op2 (nz_mk _ _)
  · exact nz_op2 (nz_mk _ _)
  · exact nz_op2 (nz_mk _ _)
  · exact nz_op2 (nz_mk _ _)
  · refine nz_op2 ?_
    split
    · unfold powV
      split
      · exact nz_op2 (nz_mk _ _)
      · exact nz_pow _ _ _ _
    · exact .inl rfl
  · refine nz_op2 ?_
    unfold remV
    split
    · exact .inl rfl
    · exact nz_mk _ _
  · refine nz_op2 ?_
    unfold quotV
    split
    · exact .inl rfl
    · exact nz_mk _ _

theorem arF_ok (op : ByteArray) (x y : It) : itemB 2 (arF op x y) = true := by
  have h := nz_ar (opK op) x.num x.den x.text y.num y.den y.text
  unfold itemB
  rw [if_neg (by decide), if_pos rfl]
  unfold arF
  rcases h with h | h
  · rw [h]
    simp [misB]
  · rw [Bool.or_eq_true]
    refine .inr ?_
    unfold isNumI
    simp only [h, Bool.and_true]
    simp

/-- what arithmetic knows when it answers -/
structure ArOk (op : ByteArray) (a b : VT) : Prop where
  va : isV a = true
  vb : isV b = true
  ko : opK op < 7
  ka : cntK a.kind a.levels.length = true
  kb : cntK b.kind b.levels.length = true
  rb : recB a.items.length b.items.length = true

theorem ar_ok {op : ByteArray} {a b : VT} (h : arS op a b = ⟨#[]⟩) : ArOk op a b ∧ arT op a b = twoT 2 (arF op) a b := by
  unfold arS at h
  split at h
  · rename_i h1
    rw [Bool.and_eq_true] at h1
    split at h
    · rename_i h2
      split at h
      · rename_i h3
        rw [Bool.and_eq_true] at h3
        split at h
        · rename_i h4
          refine ⟨⟨h1.1, h1.2, h2, h3.1, h3.2, h4⟩, ?_⟩
          unfold arT
          rw [h1.1, h1.2, h3.1, h3.2, h4, if_pos h2]
          rfl
        · exact absurd h (by decide)
      · exact absurd h (by decide)
    · exact absurd h (by decide)
  · exact absurd h (by decide)

theorem ar_back {op : ByteArray} {a b : VT} (h : ArOk op a b) : arS op a b = ⟨#[]⟩ := by
  unfold arS
  rw [h.va, h.vb, h.ka, h.kb, h.rb, if_pos h.ko]
  rfl

theorem cnt_form {t : VT} (hv : isV t = true) (hc : cntK t.kind t.levels.length = true) : (t.kind = 0 ∨ t.kind = 1 ∨ t.kind = 2) ∧ t.levels = [] ∧ t.parts = [] ∧ lenV t = t.items.length ∧ t.items.length ≤ 40 ∧ (t.names = [] ∨ t.names.length = t.items.length ∧ allE t.names = false) ∧ zbi t.names = true ∧ (∀ x ∈ t.items, itemB t.kind x = true) ∧ (t.kind = 0 → t.items = []) := by
  obtain ⟨k, is, ps, ns, cs, ls, c, e⟩ := t
  have hc : cntK k ls.length = true := hc
  have hk : k = 0 ∨ k = 1 ∨ (k = 2 ∧ ls.length = 0) := by
    unfold cntK at hc
    simp only [Bool.or_eq_true, Bool.and_eq_true, decide_eq_true_eq] at hc
    rcases hc with (h | h) | h
    · exact .inl h
    · exact .inr (.inl h)
    · exact .inr (.inr h)
  have hf := node_facts (isV_node hv)
  have hi : ∀ x ∈ is, itemB k x = true := fun x hx => by
    have h3 := hf.2.2.2.2.2.2.1 x hx
    unfold itB at h3
    simp only [Bool.and_eq_true] at h3
    exact h3.1.2
  have hp : ps = [] := by
    rcases hf.2.2.2.2.2.2.2.1 with h | h
    · exact List.length_eq_zero_iff.1 h
    · omega
  have hl : ls = [] := by
    rcases hf.2.2.2.2.2.2.2.2.2.1 with h | h
    · exact List.length_eq_zero_iff.1 h
    · rcases hk with h' | h' | h'
      · omega
      · omega
      · exact List.length_eq_zero_iff.1 h'.2
  subst hp hl
  have e1 : lenN k is.length 0 = is.length := by unfold lenN; rw [if_neg (by omega)]; rfl
  rw [show ([] : List VT).length = 0 from rfl, e1] at hf
  refine ⟨by show k = 0 ∨ k = 1 ∨ k = 2; omega, rfl, rfl, e1, hf.2.1, ?_, hf.2.2.2.2.2.1, hi, fun h0 => List.length_eq_zero_iff.1 (hf.2.2.2.2.2.2.2.2.2.2.2 h0).1⟩
  rcases hf.2.2.1 with h | h
  · exact .inl (List.length_eq_zero_iff.1 h)
  · exact .inr h

theorem two_items (k : Int) (G : It → It → It) (a b : VT) : (twoT k G a b).items = pwL (atI a.items) (atI b.items) G (recN a.items.length b.items.length) := rfl

theorem two_len (k : Int) (G : It → It → It) (a b : VT) : (twoT k G a b).items.length = recN a.items.length b.items.length := by rw [two_items, pwL_len]

theorem two_ok {op : ByteArray} {a b : VT} (h : ArOk op a b) : isV (twoT 2 (arF op) a b) = true := by
  have fa := cnt_form h.va h.ka
  have fb := cnt_form h.vb h.kb
  have hn := recN_le (m := a.items.length) (n := b.items.length) (k := 40) fa.2.2.2.2.1 fb.2.2.2.2.1
  unfold twoT
  refine isV_vecN (by decide) (by decide) (by rw [pwL_len]; exact hn) ?_ ?_ ?_
  · intro x hx
    unfold pwL at hx
    obtain ⟨i, _, rfl⟩ := List.mem_map.1 hx
    exact arF_ok _ _ _
  · rw [pwL_len]
    unfold nmQ
    split
    · rename_i hq
      rcases fa.2.2.2.2.2.1 with hz | hz
      · exact .inl hz
      · refine .inr ⟨?_, hz.2⟩
        rw [hz.1]
        exact fa.2.2.2.1.symm.trans hq.1
    · split
      · rename_i hq
        rcases fb.2.2.2.2.2.1 with hz | hz
        · exact .inl hz
        · refine .inr ⟨?_, hz.2⟩
          rw [hz.1]
          exact fb.2.2.2.1.symm.trans hq
      · exact .inl rfl
  · unfold nmQ
    split
    · exact fa.2.2.2.2.2.2.1
    · split
      · exact fb.2.2.2.2.2.2.1
      · rfl

theorem arT_ok (op : ByteArray) (a b : VT) : isV (arT op a b) = true := by
  by_cases h : arS op a b = ⟨#[]⟩
  · obtain ⟨h1, h2⟩ := ar_ok h
    rw [h2]
    exact two_ok h1
  · have : arT op a b = vecI 0 [] := by
      unfold arS at h
      unfold arT
      repeat' split
      all_goals first | rfl | (exfalso; apply h; simp_all; done)
    rw [this]
    decide

end Go.Proofs.Ytmofcbpabdbjlaa

namespace Go.Proofs.Ytmofcbpabdbjlaa

set_option maxRecDepth 8000

open Go.RowKit Go.ChangeShapes Go.WideShapes Go.Deep

set_option linter.unusedVariables false

set_option linter.unusedSimpArgs false

theorem at12 {α : Type} {x0 x1 x2 x3 x4 x5 x6 x7 x8 x9 x10 x11 x12 : α} {l : List α} : (x0 :: x1 :: x2 :: x3 :: x4 :: x5 :: x6 :: x7 :: x8 :: x9 :: x10 :: x11 :: x12 :: l)[12]? = some x12 := rfl

theorem at13 {α : Type} {x0 x1 x2 x3 x4 x5 x6 x7 x8 x9 x10 x11 x12 x13 : α} {l : List α} : (x0 :: x1 :: x2 :: x3 :: x4 :: x5 :: x6 :: x7 :: x8 :: x9 :: x10 :: x11 :: x12 :: x13 :: l)[13]? = some x13 := rfl

theorem at14 {α : Type} {x0 x1 x2 x3 x4 x5 x6 x7 x8 x9 x10 x11 x12 x13 x14 : α} {l : List α} : (x0 :: x1 :: x2 :: x3 :: x4 :: x5 :: x6 :: x7 :: x8 :: x9 :: x10 :: x11 :: x12 :: x13 :: x14 :: l)[14]? = some x14 := rfl

theorem at15 {α : Type} {x0 x1 x2 x3 x4 x5 x6 x7 x8 x9 x10 x11 x12 x13 x14 x15 : α} {l : List α} : (x0 :: x1 :: x2 :: x3 :: x4 :: x5 :: x6 :: x7 :: x8 :: x9 :: x10 :: x11 :: x12 :: x13 :: x14 :: x15 :: l)[15]? = some x15 := rfl

/-- hands back an owned vector, cell by cell, and a value -/
def RetVE (t : VT) (y : Value) (w : World) (e : Ending) (w' : World) : Prop := ∃ (Q1 Q2 Q3 Q4 Q5 : Option Addr) (m1 m2 m3 m4 m5 : Nat) (F : List Res), e = .returned (.tuple #[.agg #[.int .i64 t.kind, .slice Q1 t.items.length m1, .slice Q2 t.parts.length m2, .slice Q3 t.names.length m3, .slice Q4 t.cls.length m4, .slice Q5 t.levels.length m5, .int .i64 t.code, .int .i64 t.env], y]) ∧ VO t [.int .i64 t.kind, .slice Q1 t.items.length m1, .slice Q2 t.parts.length m2, .slice Q3 t.names.length m3, .slice Q4 t.cls.length m4, .slice Q5 t.levels.length m5, .int .i64 t.code, .int .i64 t.env] F ∧ Own w [pack F] w'

theorem RetVE.ofS {P : Program} {f : Nat} {args : Array Value} {u : World} {t : VT} {s : ByteArray} (h : Calls P f args u (RetVS t s u)) : Calls P f args u (RetVE t (.string s) u) := h.mono fun e w' ⟨vs, F, he, hvo, hO⟩ => by
  obtain ⟨Q1, Q2, Q3, Q4, Q5, m1, m2, m3, m4, m5, rfl⟩ := hvo.ex
  exact ⟨Q1, Q2, Q3, Q4, Q5, m1, m2, m3, m4, m5, F, he, hvo, hO⟩

def J.freshVE (t : VT) (y : Value) : Value × List Res → Prop := fun x => ∃ (Q1 Q2 Q3 Q4 Q5 : Option Addr) (m1 m2 m3 m4 m5 : Nat) (F : List Res), x = (.tuple #[.agg #[.int .i64 t.kind, .slice Q1 t.items.length m1, .slice Q2 t.parts.length m2, .slice Q3 t.names.length m3, .slice Q4 t.cls.length m4, .slice Q5 t.levels.length m5, .int .i64 t.code, .int .i64 t.env], y], [pack F]) ∧ VO t [.int .i64 t.kind, .slice Q1 t.items.length m1, .slice Q2 t.parts.length m2, .slice Q3 t.names.length m3, .slice Q4 t.cls.length m4, .slice Q5 t.levels.length m5, .int .i64 t.code, .int .i64 t.env] F

/-- the value is a pair's first, its second -/
def J.isFst (p : Value) : Value × List Res → Prop := fun x => ∃ y, p = .tuple #[x.1, y] ∧ x.2 = []

def J.isSnd (p : Value) : Value × List Res → Prop := fun x => ∃ y, p = .tuple #[y, x.1] ∧ x.2 = []

theorem J.isFst_of {a b : Value} : J.isFst (.tuple #[a, b]) (a, []) := ⟨b, rfl, rfl⟩

theorem J.isSnd_of {a b : Value} : J.isSnd (.tuple #[a, b]) (b, []) := ⟨a, rfl, rfl⟩

theorem J.isFst_eq {a b : Value} {x : Value × List Res} (h : J.isFst (.tuple #[a, b]) x) : x = (a, []) := by
  obtain ⟨y, h1, h2⟩ := h
  obtain ⟨x1, x2⟩ := x
  simp at h1 h2
  rw [h1.1, h2]

theorem J.isSnd_eq {a b : Value} {x : Value × List Res} (h : J.isSnd (.tuple #[a, b]) x) : x = (b, []) := by
  obtain ⟨y, h1, h2⟩ := h
  obtain ⟨x1, x2⟩ := x
  simp at h1 h2
  rw [h1.2, h2]

end Go.Proofs.Ytmofcbpabdbjlaa
