/-
  What is proved: single statements of the reference's test of a vector, each by itself. how deep and how large a vector is, and whether it is valid: what the program's functions return. whether a vector is valid: what the reference's functions return.
  Condition: none beyond those of the theorems.
-/
import Derived.Deep.Cut
import Derived.Test.YtmofcbpabdbjlaaGreatMz4
import Derived.Test.YtmofcbpabdbjlaaGreatMz10
import Derived.Test.YtmofcbpabdbjlaaGreatMz11
namespace Go.Proofs.YtmofcbpabdbjlaaGreat

set_option maxRecDepth 8000

section

open Go.RowKit Go.ChangeShapes Go.WideShapes

set_option linter.unusedVariables false

set_option linter.unusedSimpArgs false

set_option maxRecDepth 100000 in
set_option maxHeartbeats 4000000 in
theorem lis_r2 {u0 u1 u3 u4 u6 u7 u8 u9 u10 u11 u12 u13 u14 u15 u16 u17 u18 u19 u20 u21 u22 u23 u24 u25 u26 u27 u28 u29 u30 u31 u32 u33 u34 u35 u36 u37 u38 u39 u40 u41 u42 u43 u44 u45 u46 u47 u48 u49 u50 u51 u52 u53 u54 u55 u56 u57 u58 u59 u60 u61 u62 u63 u64 u65 u66 u67 u68 u69 u70 u71 u72 u73 u74 u75 u76 u77 u78 u79 u80 u81 u82 u83 u84 u85 u86 u87 u88 u89 u90 u91 u92 u93 u94 u95 u96 u97 u98 u99 u100 u101 u102 u103 u104 u105 u106 u107 u108 u109 u110 u111 u112 u113 u114 u115 u116 u117 u118 u119 u120 u121 u122 u123 u124 u125 u126 u127 u128 u129 u130 u131 u132 u133 u134 u135 u136 u137 u138 u139 u140 u141 u142 u143 u144 u145 u146 u147 u148 u149 u150 u151 u152 u153 u154 u155 u156 u157 u158 u159 u160 u161 u162 u163 u164 u165 u166 u167 u168 u169 u170 u171 u172 u173 u174 u175 u176 u177 u178 u179 u180 u181 u182 u183 u184 u185 u186 u187 u188 u189 : Value} {w0 wc : World} {b0 n nn cn : Nat} {k : Int} {b3 b20 bn : Bool} {nc nl cc cl : Nat} {An Ac Al : Option Addr} {v1 v2 v6 v7 : Value} (C4 : ∀ u, Below w0.heap.size w0 u → Calls Tryz.prog 96 #[.slice Ac nc cc, .int .i64 3] u fun e w' => e = .returned (.bool b3) ∧ u = w') (C5 : ∀ u, Below w0.heap.size w0 u → Calls Tryz.prog 96 #[.slice Al nl cl, .int .i64 20] u fun e w' => e = .returned (.bool b20) ∧ u = w') (C3 : ∀ u, Below w0.heap.size w0 u → Calls Tryz.prog 95 #[.slice An nn cn] u fun e w' => e = .returned (.bool bn) ∧ u = w') (hn : n ≤ 9223372036854775807) (hO : Own w0 [box b0 28 [.int .i64 k, v1, v2, .slice An nn cn, .slice Ac nc cc, .slice Al nl cl, v6, v7]] wc) {J : Act → World → Prop} {Q' : Exit → Act → World → Prop}
    (hJ : ∀ (c' : Bool) (x11 x12 x13 x14 x15 x16 x17 x18 x19 x20 x21 x22 x23 x24 x25 x26 x27 x28 x29 x30 x31 x32 x33 x34 x35 x36 x37 x38 x39 x40 x41 x42 x43 x44 x45 x46 x47 x48 : Value) (wx : World), c' = (!(inI k 0 5 && decide (n ≤ 40) && (decide (nn = 0) || decide (nn = n)) && bn && b3 && b20)) → Own w0 [box b0 28 [.int .i64 k, v1, v2, .slice An nn cn, .slice Ac nc cc, .slice Al nl cl, v6, v7]] wx → J ⟨(u0 :: u1 :: .pointer (some ⟨b0, 0, none⟩) :: u3 :: u4 :: .int .i64 (n : Int) :: u6 :: u7 :: u8 :: u9 :: u10 :: x11 :: x12 :: x13 :: x14 :: x15 :: x16 :: x17 :: x18 :: x19 :: x20 :: x21 :: x22 :: x23 :: x24 :: x25 :: x26 :: x27 :: x28 :: x29 :: x30 :: x31 :: x32 :: x33 :: x34 :: x35 :: x36 :: x37 :: x38 :: x39 :: x40 :: x41 :: x42 :: x43 :: x44 :: x45 :: x46 :: x47 :: x48 :: .bool c' :: u50 :: u51 :: u52 :: u53 :: u54 :: u55 :: u56 :: u57 :: u58 :: u59 :: u60 :: u61 :: u62 :: u63 :: u64 :: u65 :: u66 :: u67 :: u68 :: u69 :: u70 :: u71 :: u72 :: u73 :: u74 :: u75 :: u76 :: u77 :: u78 :: u79 :: u80 :: u81 :: u82 :: u83 :: u84 :: u85 :: u86 :: u87 :: u88 :: u89 :: u90 :: u91 :: u92 :: u93 :: u94 :: u95 :: u96 :: u97 :: u98 :: u99 :: u100 :: u101 :: u102 :: u103 :: u104 :: u105 :: u106 :: u107 :: u108 :: u109 :: u110 :: u111 :: u112 :: u113 :: u114 :: u115 :: u116 :: u117 :: u118 :: u119 :: u120 :: u121 :: u122 :: u123 :: u124 :: u125 :: u126 :: u127 :: u128 :: u129 :: u130 :: u131 :: u132 :: u133 :: u134 :: u135 :: u136 :: u137 :: u138 :: u139 :: u140 :: u141 :: u142 :: u143 :: u144 :: u145 :: u146 :: u147 :: u148 :: u149 :: u150 :: u151 :: u152 :: u153 :: u154 :: u155 :: u156 :: u157 :: u158 :: u159 :: u160 :: u161 :: u162 :: u163 :: u164 :: u165 :: u166 :: u167 :: u168 :: u169 :: u170 :: u171 :: u172 :: u173 :: u174 :: u175 :: u176 :: u177 :: u178 :: u179 :: u180 :: u181 :: u182 :: u183 :: u184 :: u185 :: u186 :: u187 :: u188 :: u189 :: []).toArray, []⟩ wx) :
    Code.wp Tryz.prog (((Tryz.f71.body).bind (zbb 2)).getD .skip) (Exit.then J Q') ⟨(u0 :: u1 :: .pointer (some ⟨b0, 0, none⟩) :: u3 :: u4 :: .int .i64 (n : Int) :: u6 :: u7 :: u8 :: u9 :: u10 :: u11 :: u12 :: u13 :: u14 :: u15 :: u16 :: u17 :: u18 :: u19 :: u20 :: u21 :: u22 :: u23 :: u24 :: u25 :: u26 :: u27 :: u28 :: u29 :: u30 :: u31 :: u32 :: u33 :: u34 :: u35 :: u36 :: u37 :: u38 :: u39 :: u40 :: u41 :: u42 :: u43 :: u44 :: u45 :: u46 :: u47 :: u48 :: u49 :: u50 :: u51 :: u52 :: u53 :: u54 :: u55 :: u56 :: u57 :: u58 :: u59 :: u60 :: u61 :: u62 :: u63 :: u64 :: u65 :: u66 :: u67 :: u68 :: u69 :: u70 :: u71 :: u72 :: u73 :: u74 :: u75 :: u76 :: u77 :: u78 :: u79 :: u80 :: u81 :: u82 :: u83 :: u84 :: u85 :: u86 :: u87 :: u88 :: u89 :: u90 :: u91 :: u92 :: u93 :: u94 :: u95 :: u96 :: u97 :: u98 :: u99 :: u100 :: u101 :: u102 :: u103 :: u104 :: u105 :: u106 :: u107 :: u108 :: u109 :: u110 :: u111 :: u112 :: u113 :: u114 :: u115 :: u116 :: u117 :: u118 :: u119 :: u120 :: u121 :: u122 :: u123 :: u124 :: u125 :: u126 :: u127 :: u128 :: u129 :: u130 :: u131 :: u132 :: u133 :: u134 :: u135 :: u136 :: u137 :: u138 :: u139 :: u140 :: u141 :: u142 :: u143 :: u144 :: u145 :: u146 :: u147 :: u148 :: u149 :: u150 :: u151 :: u152 :: u153 :: u154 :: u155 :: u156 :: u157 :: u158 :: u159 :: u160 :: u161 :: u162 :: u163 :: u164 :: u165 :: u166 :: u167 :: u168 :: u169 :: u170 :: u171 :: u172 :: u173 :: u174 :: u175 :: u176 :: u177 :: u178 :: u179 :: u180 :: u181 :: u182 :: u183 :: u184 :: u185 :: u186 :: u187 :: u188 :: u189 :: []).toArray, []⟩ wc := by
  conv => arg 2; whnf
  skip
  have CK := fun u => zbj k 0 5 u
  obtain ⟨qk, hqk⟩ : ∃ q, inI k 0 5 = q := ⟨_, rfl⟩
  rw [hqk] at CK hJ
  clear hqk
  cases qk with
  | false =>
    go_wp2_with (first | ((with_reducible refine (CK _).mono ?_); rintro e u ⟨rfl, hb⟩; subst hb) | ((with_reducible refine zaa ?_); refine zlf rfl hO rfl _ (by exact at0) ?_) | fail)
    exact hJ _ _ _ _ _ _ _ _ _ _ _ _ _ _ _ _ _ _ _ _ _ _ _ _ _ _ _ _ _ _ _ _ _ _ _ _ _ _ _ _ (by (simp; done)) hO
  | true =>
  by_cases g2 : 40 < n
  · go_wp2_with (first | ((with_reducible refine (CK _).mono ?_); rintro e u ⟨rfl, hb⟩; subst hb) | ((with_reducible refine zaa ?_); refine zlf rfl hO rfl _ (by exact at0) ?_) | fail)
    exact hJ _ _ _ _ _ _ _ _ _ _ _ _ _ _ _ _ _ _ _ _ _ _ _ _ _ _ _ _ _ _ _ _ _ _ _ _ _ _ _ _ (by (simp; omega)) hO
  have g2' : n ≤ 40 := by omega
  have D2 := Lib.hid (decide_eq_true g2')
  clear g2
  by_cases g3 : nn = 0
  · subst g3
    cases bn with
    | false =>
      go_wp2_with (first | ((with_reducible refine (CK _).mono ?_); rintro e u ⟨rfl, hb⟩; subst hb) | ((with_reducible refine (C3 _ hO.below).mono ?_); rintro e u ⟨rfl, hb⟩; subst hb) | ((with_reducible refine zaa ?_); refine zag rfl (by (first | rfl | (simp only [Region.wanted, yielded, *]; go_simp; done) | fail)) hO rfl _ (by exact at0) (by rfl) (by simp only [Act.put, zA, zB, zC]; rfl) ?_) | fail)
      exact hJ _ _ _ _ _ _ _ _ _ _ _ _ _ _ _ _ _ _ _ _ _ _ _ _ _ _ _ _ _ _ _ _ _ _ _ _ _ _ _ _ (by (simp; done)) hO
    | true =>
    cases b3 with
    | false =>
      go_wp2_with (first | ((with_reducible refine (CK _).mono ?_); rintro e u ⟨rfl, hb⟩; subst hb) | ((with_reducible refine (C3 _ hO.below).mono ?_); rintro e u ⟨rfl, hb⟩; subst hb) | ((with_reducible refine (C4 _ hO.below).mono ?_); rintro e u ⟨rfl, hb⟩; subst hb) | ((with_reducible refine zaa ?_); refine zag rfl (by (first | rfl | (simp only [Region.wanted, yielded, *]; go_simp; done) | fail)) hO rfl _ (by exact at0) (by rfl) (by simp only [Act.put, zA, zB, zC]; rfl) ?_) | fail)
      exact hJ _ _ _ _ _ _ _ _ _ _ _ _ _ _ _ _ _ _ _ _ _ _ _ _ _ _ _ _ _ _ _ _ _ _ _ _ _ _ _ _ (by (simp; done)) hO
    | true =>
    cases b20 with
    | false =>
      go_wp2_with (first | ((with_reducible refine (CK _).mono ?_); rintro e u ⟨rfl, hb⟩; subst hb) | ((with_reducible refine (C3 _ hO.below).mono ?_); rintro e u ⟨rfl, hb⟩; subst hb) | ((with_reducible refine (C4 _ hO.below).mono ?_); rintro e u ⟨rfl, hb⟩; subst hb) | ((with_reducible refine (C5 _ hO.below).mono ?_); rintro e u ⟨rfl, hb⟩; subst hb) | ((with_reducible refine zaa ?_); refine zag rfl (by (first | rfl | (simp only [Region.wanted, yielded, *]; go_simp; done) | fail)) hO rfl _ (by exact at0) (by rfl) (by simp only [Act.put, zA, zB, zC]; rfl) ?_) | fail)
      exact hJ _ _ _ _ _ _ _ _ _ _ _ _ _ _ _ _ _ _ _ _ _ _ _ _ _ _ _ _ _ _ _ _ _ _ _ _ _ _ _ _ (by (simp; done)) hO
    | true =>
      go_wp2_with (first | ((with_reducible refine (CK _).mono ?_); rintro e u ⟨rfl, hb⟩; subst hb) | ((with_reducible refine (C3 _ hO.below).mono ?_); rintro e u ⟨rfl, hb⟩; subst hb) | ((with_reducible refine (C4 _ hO.below).mono ?_); rintro e u ⟨rfl, hb⟩; subst hb) | ((with_reducible refine (C5 _ hO.below).mono ?_); rintro e u ⟨rfl, hb⟩; subst hb) | ((with_reducible refine zaa ?_); refine zag rfl (by (first | rfl | (simp only [Region.wanted, yielded, *]; go_simp; done) | fail)) hO rfl _ (by exact at0) (by rfl) (by simp only [Act.put, zA, zB, zC]; rfl) ?_) | fail)
      exact hJ _ _ _ _ _ _ _ _ _ _ _ _ _ _ _ _ _ _ _ _ _ _ _ _ _ _ _ _ _ _ _ _ _ _ _ _ _ _ _ _ (by (simp_all; done)) hO
  · have g4 : ((nn : Int) != 0) = true := by rw [bne_iff_ne]; omega
    by_cases g5 : nn = n
    · have g6 : ((nn : Int) != n) = false := by simp [g5]
      have G5 := Lib.hid g5
      clear g5 g3
      cases bn with
      | false =>
        go_wp2_with (first | ((with_reducible refine (CK _).mono ?_); rintro e u ⟨rfl, hb⟩; subst hb) | ((with_reducible refine (C3 _ hO.below).mono ?_); rintro e u ⟨rfl, hb⟩; subst hb) | ((with_reducible refine zaa ?_); refine zag rfl (by (first | rfl | (simp only [Region.wanted, yielded, *]; go_simp; done) | fail)) hO rfl _ (by exact at0) (by rfl) (by simp only [Act.put, zA, zB, zC]; rfl) ?_) | fail)
        exact hJ _ _ _ _ _ _ _ _ _ _ _ _ _ _ _ _ _ _ _ _ _ _ _ _ _ _ _ _ _ _ _ _ _ _ _ _ _ _ _ _ (by (simp; done)) hO
      | true =>
      cases b3 with
      | false =>
        go_wp2_with (first | ((with_reducible refine (CK _).mono ?_); rintro e u ⟨rfl, hb⟩; subst hb) | ((with_reducible refine (C3 _ hO.below).mono ?_); rintro e u ⟨rfl, hb⟩; subst hb) | ((with_reducible refine (C4 _ hO.below).mono ?_); rintro e u ⟨rfl, hb⟩; subst hb) | ((with_reducible refine zaa ?_); refine zag rfl (by (first | rfl | (simp only [Region.wanted, yielded, *]; go_simp; done) | fail)) hO rfl _ (by exact at0) (by rfl) (by simp only [Act.put, zA, zB, zC]; rfl) ?_) | fail)
        exact hJ _ _ _ _ _ _ _ _ _ _ _ _ _ _ _ _ _ _ _ _ _ _ _ _ _ _ _ _ _ _ _ _ _ _ _ _ _ _ _ _ (by (simp; done)) hO
      | true =>
      cases b20 with
      | false =>
        go_wp2_with (first | ((with_reducible refine (CK _).mono ?_); rintro e u ⟨rfl, hb⟩; subst hb) | ((with_reducible refine (C3 _ hO.below).mono ?_); rintro e u ⟨rfl, hb⟩; subst hb) | ((with_reducible refine (C4 _ hO.below).mono ?_); rintro e u ⟨rfl, hb⟩; subst hb) | ((with_reducible refine (C5 _ hO.below).mono ?_); rintro e u ⟨rfl, hb⟩; subst hb) | ((with_reducible refine zaa ?_); refine zag rfl (by (first | rfl | (simp only [Region.wanted, yielded, *]; go_simp; done) | fail)) hO rfl _ (by exact at0) (by rfl) (by simp only [Act.put, zA, zB, zC]; rfl) ?_) | fail)
        exact hJ _ _ _ _ _ _ _ _ _ _ _ _ _ _ _ _ _ _ _ _ _ _ _ _ _ _ _ _ _ _ _ _ _ _ _ _ _ _ _ _ (by (simp; done)) hO
      | true =>
        go_wp2_with (first | ((with_reducible refine (CK _).mono ?_); rintro e u ⟨rfl, hb⟩; subst hb) | ((with_reducible refine (C3 _ hO.below).mono ?_); rintro e u ⟨rfl, hb⟩; subst hb) | ((with_reducible refine (C4 _ hO.below).mono ?_); rintro e u ⟨rfl, hb⟩; subst hb) | ((with_reducible refine (C5 _ hO.below).mono ?_); rintro e u ⟨rfl, hb⟩; subst hb) | ((with_reducible refine zaa ?_); refine zag rfl (by (first | rfl | (simp only [Region.wanted, yielded, *]; go_simp; done) | fail)) hO rfl _ (by exact at0) (by rfl) (by simp only [Act.put, zA, zB, zC]; rfl) ?_) | fail)
        exact hJ _ _ _ _ _ _ _ _ _ _ _ _ _ _ _ _ _ _ _ _ _ _ _ _ _ _ _ _ _ _ _ _ _ _ _ _ _ _ _ _ (by rw [G5.out, D2.out]; first | (simp; done) | (simp; omega) | (simp; assumption)) hO
    · have g6 : ((nn : Int) != n) = true := by rw [bne_iff_ne]; omega
      have G3 := Lib.hid g3
      have G5 := Lib.hid g5
      clear g3 g5
      go_wp2_with (first | ((with_reducible refine (CK _).mono ?_); rintro e u ⟨rfl, hb⟩; subst hb) | ((with_reducible refine zaa ?_); refine zag rfl (by (first | rfl | (simp only [Region.wanted, yielded, *]; go_simp; done) | fail)) hO rfl _ (by exact at0) (by rfl) (by simp only [Act.put, zA, zB, zC]; rfl) ?_) | fail)
      exact hJ _ _ _ _ _ _ _ _ _ _ _ _ _ _ _ _ _ _ _ _ _ _ _ _ _ _ _ _ _ _ _ _ _ _ _ _ _ _ _ _ (by rw [decide_eq_false G3.out, decide_eq_false G5.out]; simp) hO

set_option maxRecDepth 100000 in
set_option maxHeartbeats 4000000 in
theorem lis_r4 {u0 u1 u3 u4 u5 u6 u7 u8 u9 u10 u11 u12 u13 u14 u15 u16 u17 u18 u19 u20 u21 u22 u23 u24 u25 u26 u27 u28 u29 u30 u31 u32 u33 u34 u35 u36 u37 u38 u39 u40 u41 u42 u43 u44 u45 u46 u47 u48 u49 u50 u51 u52 u53 u54 u55 u56 u57 u58 u59 u60 u61 u62 u63 u64 u65 u66 u67 u68 u69 u70 u71 u72 u73 u74 u75 u76 u77 u78 u79 u80 u81 u82 u83 u84 u85 u86 u87 u88 u89 u90 u91 u92 u93 u94 u95 u96 u97 u98 u99 u100 u101 u102 u103 u104 u105 u106 u107 u108 u109 u110 u111 u112 u113 u114 u115 u116 u117 u118 u119 u120 u121 u122 u123 u124 u125 u126 u127 u128 u129 u130 u131 u132 u133 u134 u135 u136 u137 u138 u139 u140 u141 u142 u143 u144 u145 u146 u147 u148 u149 u150 u151 u152 u153 u154 u155 u156 u157 u158 u159 u160 u161 u162 u163 u164 u165 u166 u167 u168 u169 u170 u171 u172 u173 u174 u175 u176 u177 u178 u179 u180 u181 u182 u183 u184 u185 u186 u187 u188 u189 : Value} {w0 wc : World} {b0 : Nat} {k c e : Int} {np nl cp cl : Nat} {Ap Al : Option Addr} {v1 v3 v4 : Value} (hO : Own w0 [box b0 28 [.int .i64 k, v1, .slice Ap np cp, v3, v4, .slice Al nl cl, .int .i64 c, .int .i64 e]] wc) {J : Act → World → Prop} {Q' : Exit → Act → World → Prop}
    (hJ : ∀ (c' : Bool) (x50 x51 x52 x53 x54 x55 x56 x57 x58 x59 x60 x61 x62 x63 x64 x65 x66 x67 x68 x69 x70 x71 x72 x73 x74 x75 x76 x77 x78 x79 x80 x81 x82 x83 : Value) (wx : World), c' = ((!decide (k = 5) && (!decide (c = 0) || !decide (e = 0))) || ((!decide (k = 2) && decide (0 < nl)) || (!decide (k = 4) && decide (0 < np)))) → Own w0 [box b0 28 [.int .i64 k, v1, .slice Ap np cp, v3, v4, .slice Al nl cl, .int .i64 c, .int .i64 e]] wx → J ⟨(u0 :: u1 :: .pointer (some ⟨b0, 0, none⟩) :: u3 :: u4 :: u5 :: u6 :: u7 :: u8 :: u9 :: u10 :: u11 :: u12 :: u13 :: u14 :: u15 :: u16 :: u17 :: u18 :: u19 :: u20 :: u21 :: u22 :: u23 :: u24 :: u25 :: u26 :: u27 :: u28 :: u29 :: u30 :: u31 :: u32 :: u33 :: u34 :: u35 :: u36 :: u37 :: u38 :: u39 :: u40 :: u41 :: u42 :: u43 :: u44 :: u45 :: u46 :: u47 :: u48 :: u49 :: x50 :: x51 :: x52 :: x53 :: x54 :: x55 :: x56 :: x57 :: x58 :: x59 :: x60 :: x61 :: x62 :: x63 :: x64 :: x65 :: x66 :: x67 :: x68 :: x69 :: x70 :: x71 :: x72 :: x73 :: x74 :: x75 :: x76 :: x77 :: x78 :: x79 :: x80 :: x81 :: x82 :: x83 :: .bool c' :: u85 :: u86 :: u87 :: u88 :: u89 :: u90 :: u91 :: u92 :: u93 :: u94 :: u95 :: u96 :: u97 :: u98 :: u99 :: u100 :: u101 :: u102 :: u103 :: u104 :: u105 :: u106 :: u107 :: u108 :: u109 :: u110 :: u111 :: u112 :: u113 :: u114 :: u115 :: u116 :: u117 :: u118 :: u119 :: u120 :: u121 :: u122 :: u123 :: u124 :: u125 :: u126 :: u127 :: u128 :: u129 :: u130 :: u131 :: u132 :: u133 :: u134 :: u135 :: u136 :: u137 :: u138 :: u139 :: u140 :: u141 :: u142 :: u143 :: u144 :: u145 :: u146 :: u147 :: u148 :: u149 :: u150 :: u151 :: u152 :: u153 :: u154 :: u155 :: u156 :: u157 :: u158 :: u159 :: u160 :: u161 :: u162 :: u163 :: u164 :: u165 :: u166 :: u167 :: u168 :: u169 :: u170 :: u171 :: u172 :: u173 :: u174 :: u175 :: u176 :: u177 :: u178 :: u179 :: u180 :: u181 :: u182 :: u183 :: u184 :: u185 :: u186 :: u187 :: u188 :: u189 :: []).toArray, []⟩ wx) :
    Code.wp Tryz.prog (((Tryz.f71.body).bind (zbb 4)).getD .skip) (Exit.then J Q') ⟨(u0 :: u1 :: .pointer (some ⟨b0, 0, none⟩) :: u3 :: u4 :: u5 :: u6 :: u7 :: u8 :: u9 :: u10 :: u11 :: u12 :: u13 :: u14 :: u15 :: u16 :: u17 :: u18 :: u19 :: u20 :: u21 :: u22 :: u23 :: u24 :: u25 :: u26 :: u27 :: u28 :: u29 :: u30 :: u31 :: u32 :: u33 :: u34 :: u35 :: u36 :: u37 :: u38 :: u39 :: u40 :: u41 :: u42 :: u43 :: u44 :: u45 :: u46 :: u47 :: u48 :: u49 :: u50 :: u51 :: u52 :: u53 :: u54 :: u55 :: u56 :: u57 :: u58 :: u59 :: u60 :: u61 :: u62 :: u63 :: u64 :: u65 :: u66 :: u67 :: u68 :: u69 :: u70 :: u71 :: u72 :: u73 :: u74 :: u75 :: u76 :: u77 :: u78 :: u79 :: u80 :: u81 :: u82 :: u83 :: u84 :: u85 :: u86 :: u87 :: u88 :: u89 :: u90 :: u91 :: u92 :: u93 :: u94 :: u95 :: u96 :: u97 :: u98 :: u99 :: u100 :: u101 :: u102 :: u103 :: u104 :: u105 :: u106 :: u107 :: u108 :: u109 :: u110 :: u111 :: u112 :: u113 :: u114 :: u115 :: u116 :: u117 :: u118 :: u119 :: u120 :: u121 :: u122 :: u123 :: u124 :: u125 :: u126 :: u127 :: u128 :: u129 :: u130 :: u131 :: u132 :: u133 :: u134 :: u135 :: u136 :: u137 :: u138 :: u139 :: u140 :: u141 :: u142 :: u143 :: u144 :: u145 :: u146 :: u147 :: u148 :: u149 :: u150 :: u151 :: u152 :: u153 :: u154 :: u155 :: u156 :: u157 :: u158 :: u159 :: u160 :: u161 :: u162 :: u163 :: u164 :: u165 :: u166 :: u167 :: u168 :: u169 :: u170 :: u171 :: u172 :: u173 :: u174 :: u175 :: u176 :: u177 :: u178 :: u179 :: u180 :: u181 :: u182 :: u183 :: u184 :: u185 :: u186 :: u187 :: u188 :: u189 :: []).toArray, []⟩ wc := by
  conv => arg 2; whnf
  skip
  by_cases p5 : k = 5
  · subst p5
    by_cases r1 : 0 < nl
    · go_wp2_with (first | ((with_reducible refine zaa ?_); refine zlf rfl hO rfl _ (by exact at0) ?_) | fail)
      exact hJ _ _ _ _ _ _ _ _ _ _ _ _ _ _ _ _ _ _ _ _ _ _ _ _ _ _ _ _ _ _ _ _ _ _ _ _ (by (simp; omega)) hO
    by_cases r2 : 0 < np
    · go_wp2_with (first | ((with_reducible refine zaa ?_); refine zlf rfl hO rfl _ (by exact at0) ?_) | fail)
      exact hJ _ _ _ _ _ _ _ _ _ _ _ _ _ _ _ _ _ _ _ _ _ _ _ _ _ _ _ _ _ _ _ _ _ _ _ _ (by (simp; omega)) hO
    · go_wp2_with (first | ((with_reducible refine zaa ?_); refine zlf rfl hO rfl _ (by exact at0) ?_) | fail)
      exact hJ _ _ _ _ _ _ _ _ _ _ _ _ _ _ _ _ _ _ _ _ _ _ _ _ _ _ _ _ _ _ _ _ _ _ _ _ (by (simp; omega)) hO
  · have q5 : (k != 5) = true := by simp [p5]
    by_cases p6 : c = 0
    · subst p6
      by_cases p7 : e = 0
      · subst p7
        by_cases p2 : k = 2
        · subst p2
          by_cases r2 : 0 < np
          · go_wp2_with (first | ((with_reducible refine zaa ?_); refine zlf rfl hO rfl _ (by exact at0) ?_) | fail)
            exact hJ _ _ _ _ _ _ _ _ _ _ _ _ _ _ _ _ _ _ _ _ _ _ _ _ _ _ _ _ _ _ _ _ _ _ _ _ (by (simp; omega)) hO
          · go_wp2_with (first | ((with_reducible refine zaa ?_); refine zlf rfl hO rfl _ (by exact at0) ?_) | fail)
            exact hJ _ _ _ _ _ _ _ _ _ _ _ _ _ _ _ _ _ _ _ _ _ _ _ _ _ _ _ _ _ _ _ _ _ _ _ _ (by (simp; omega)) hO
        · have q2 : (k != 2) = true := by simp [p2]
          by_cases r1 : 0 < nl
          · go_wp2_with (first | ((with_reducible refine zaa ?_); refine zlf rfl hO rfl _ (by exact at0) ?_) | fail)
            exact hJ _ _ _ _ _ _ _ _ _ _ _ _ _ _ _ _ _ _ _ _ _ _ _ _ _ _ _ _ _ _ _ _ _ _ _ _ (by (simp; omega)) hO
          by_cases p4 : k = 4
          · subst p4
            go_wp2_with (first | ((with_reducible refine zaa ?_); refine zlf rfl hO rfl _ (by exact at0) ?_) | fail)
            exact hJ _ _ _ _ _ _ _ _ _ _ _ _ _ _ _ _ _ _ _ _ _ _ _ _ _ _ _ _ _ _ _ _ _ _ _ _ (by (simp; omega)) hO
          · have q4 : (k != 4) = true := by simp [p4]
            by_cases r2 : 0 < np
            · go_wp2_with (first | ((with_reducible refine zaa ?_); refine zlf rfl hO rfl _ (by exact at0) ?_) | fail)
              exact hJ _ _ _ _ _ _ _ _ _ _ _ _ _ _ _ _ _ _ _ _ _ _ _ _ _ _ _ _ _ _ _ _ _ _ _ _ (by (simp; omega)) hO
            · go_wp2_with (first | ((with_reducible refine zaa ?_); refine zlf rfl hO rfl _ (by exact at0) ?_) | fail)
              exact hJ _ _ _ _ _ _ _ _ _ _ _ _ _ _ _ _ _ _ _ _ _ _ _ _ _ _ _ _ _ _ _ _ _ _ _ _ (by (simp; omega)) hO
      · have q7 : (e != 0) = true := by simp [p7]
        go_wp2_with (first | ((with_reducible refine zaa ?_); refine zlf rfl hO rfl _ (by exact at0) ?_) | fail)
        exact hJ _ _ _ _ _ _ _ _ _ _ _ _ _ _ _ _ _ _ _ _ _ _ _ _ _ _ _ _ _ _ _ _ _ _ _ _ (by (simp; omega)) hO
    · have q6 : (c != 0) = true := by simp [p6]
      go_wp2_with (first | ((with_reducible refine zaa ?_); refine zlf rfl hO rfl _ (by exact at0) ?_) | fail)
      exact hJ _ _ _ _ _ _ _ _ _ _ _ _ _ _ _ _ _ _ _ _ _ _ _ _ _ _ _ _ _ _ _ _ _ _ _ _ (by (simp; omega)) hO

set_option maxRecDepth 100000 in
set_option maxHeartbeats 4000000 in
theorem lis_r7 {u0 u1 u3 u4 u5 u6 u7 u8 u9 u10 u11 u12 u13 u14 u15 u16 u17 u18 u19 u20 u21 u22 u23 u24 u25 u26 u27 u28 u29 u30 u31 u32 u33 u34 u35 u36 u37 u38 u39 u40 u41 u42 u43 u44 u45 u46 u47 u48 u49 u50 u51 u52 u53 u54 u55 u56 u57 u58 u59 u60 u61 u62 u63 u64 u65 u66 u67 u68 u69 u70 u71 u72 u73 u74 u75 u76 u77 u78 u79 u80 u81 u82 u83 u84 u85 u86 u87 u88 u89 u90 u91 u92 u93 u94 u95 u96 u97 u98 u99 u100 u101 u102 u103 u104 u105 u106 u107 u108 u109 u110 u111 u112 u113 u114 u115 u116 u117 u118 u119 u120 u121 u122 u123 u124 u125 u126 u127 u128 u129 u130 u131 u132 u133 u134 u135 u136 u137 u138 u139 u140 u141 u142 u143 u144 u145 u146 u147 u148 u149 u150 u151 u152 u153 u154 u155 u156 u157 u158 u159 u160 u161 u162 u163 u164 u165 u166 u167 u168 u169 u170 u171 u172 u173 u174 u175 u176 u177 u178 u179 u180 u181 u182 u183 u184 u185 u186 u187 u188 u189 : Value} {w0 wc : World} {b0 : Nat} {c e : Int} {ni nn ci cn : Nat} {Ai An : Option Addr} {v0 v2 v4 v5 : Value} (hO : Own w0 [box b0 28 [v0, .slice Ai ni ci, v2, .slice An nn cn, v4, v5, .int .i64 c, .int .i64 e]] wc) {J : Act → World → Prop} {Q' : Exit → Act → World → Prop}
    (hJ : ∀ (c' : Bool) (x88 x89 x90 x91 x92 x93 x94 x95 x96 x97 x98 x99 x100 x101 x102 x103 x104 x105 x106 x107 : Value) (wx : World), c' = (decide (ni = 0) && decide (nn = 0) && inI c (-999) 99999 && inI e 0 99999) → Own w0 [box b0 28 [v0, .slice Ai ni ci, v2, .slice An nn cn, v4, v5, .int .i64 c, .int .i64 e]] wx → J ⟨(u0 :: u1 :: .pointer (some ⟨b0, 0, none⟩) :: u3 :: .bool c' :: u5 :: u6 :: u7 :: u8 :: u9 :: u10 :: u11 :: u12 :: u13 :: u14 :: u15 :: u16 :: u17 :: u18 :: u19 :: u20 :: u21 :: u22 :: u23 :: u24 :: u25 :: u26 :: u27 :: u28 :: u29 :: u30 :: u31 :: u32 :: u33 :: u34 :: u35 :: u36 :: u37 :: u38 :: u39 :: u40 :: u41 :: u42 :: u43 :: u44 :: u45 :: u46 :: u47 :: u48 :: u49 :: u50 :: u51 :: u52 :: u53 :: u54 :: u55 :: u56 :: u57 :: u58 :: u59 :: u60 :: u61 :: u62 :: u63 :: u64 :: u65 :: u66 :: u67 :: u68 :: u69 :: u70 :: u71 :: u72 :: u73 :: u74 :: u75 :: u76 :: u77 :: u78 :: u79 :: u80 :: u81 :: u82 :: u83 :: u84 :: u85 :: u86 :: u87 :: x88 :: x89 :: x90 :: x91 :: x92 :: x93 :: x94 :: x95 :: x96 :: x97 :: x98 :: x99 :: x100 :: x101 :: x102 :: x103 :: x104 :: x105 :: x106 :: x107 :: u108 :: u109 :: u110 :: u111 :: u112 :: u113 :: u114 :: u115 :: u116 :: u117 :: u118 :: u119 :: u120 :: u121 :: u122 :: u123 :: u124 :: u125 :: u126 :: u127 :: u128 :: u129 :: u130 :: u131 :: u132 :: u133 :: u134 :: u135 :: u136 :: u137 :: u138 :: u139 :: u140 :: u141 :: u142 :: u143 :: u144 :: u145 :: u146 :: u147 :: u148 :: u149 :: u150 :: u151 :: u152 :: u153 :: u154 :: u155 :: u156 :: u157 :: u158 :: u159 :: u160 :: u161 :: u162 :: u163 :: u164 :: u165 :: u166 :: u167 :: u168 :: u169 :: u170 :: u171 :: u172 :: u173 :: u174 :: u175 :: u176 :: u177 :: u178 :: u179 :: u180 :: u181 :: u182 :: u183 :: u184 :: u185 :: u186 :: u187 :: u188 :: u189 :: []).toArray, []⟩ wx) :
    Code.wp Tryz.prog (((Tryz.f71.body).bind (zbb 7)).getD .skip) (Exit.then J Q') ⟨(u0 :: u1 :: .pointer (some ⟨b0, 0, none⟩) :: u3 :: u4 :: u5 :: u6 :: u7 :: u8 :: u9 :: u10 :: u11 :: u12 :: u13 :: u14 :: u15 :: u16 :: u17 :: u18 :: u19 :: u20 :: u21 :: u22 :: u23 :: u24 :: u25 :: u26 :: u27 :: u28 :: u29 :: u30 :: u31 :: u32 :: u33 :: u34 :: u35 :: u36 :: u37 :: u38 :: u39 :: u40 :: u41 :: u42 :: u43 :: u44 :: u45 :: u46 :: u47 :: u48 :: u49 :: u50 :: u51 :: u52 :: u53 :: u54 :: u55 :: u56 :: u57 :: u58 :: u59 :: u60 :: u61 :: u62 :: u63 :: u64 :: u65 :: u66 :: u67 :: u68 :: u69 :: u70 :: u71 :: u72 :: u73 :: u74 :: u75 :: u76 :: u77 :: u78 :: u79 :: u80 :: u81 :: u82 :: u83 :: u84 :: u85 :: u86 :: u87 :: u88 :: u89 :: u90 :: u91 :: u92 :: u93 :: u94 :: u95 :: u96 :: u97 :: u98 :: u99 :: u100 :: u101 :: u102 :: u103 :: u104 :: u105 :: u106 :: u107 :: u108 :: u109 :: u110 :: u111 :: u112 :: u113 :: u114 :: u115 :: u116 :: u117 :: u118 :: u119 :: u120 :: u121 :: u122 :: u123 :: u124 :: u125 :: u126 :: u127 :: u128 :: u129 :: u130 :: u131 :: u132 :: u133 :: u134 :: u135 :: u136 :: u137 :: u138 :: u139 :: u140 :: u141 :: u142 :: u143 :: u144 :: u145 :: u146 :: u147 :: u148 :: u149 :: u150 :: u151 :: u152 :: u153 :: u154 :: u155 :: u156 :: u157 :: u158 :: u159 :: u160 :: u161 :: u162 :: u163 :: u164 :: u165 :: u166 :: u167 :: u168 :: u169 :: u170 :: u171 :: u172 :: u173 :: u174 :: u175 :: u176 :: u177 :: u178 :: u179 :: u180 :: u181 :: u182 :: u183 :: u184 :: u185 :: u186 :: u187 :: u188 :: u189 :: []).toArray, []⟩ wc := by
  conv => arg 2; whnf
  skip
  have CC := fun u => zbj c (-999) 99999 u
  obtain ⟨qc, hqc⟩ : ∃ q, inI c (-999) 99999 = q := ⟨_, rfl⟩
  rw [hqc] at CC hJ
  have CE := fun u => zbj e 0 99999 u
  obtain ⟨qe, hqe⟩ : ∃ q, inI e 0 99999 = q := ⟨_, rfl⟩
  rw [hqe] at CE hJ
  clear hqc hqe
  by_cases g1 : ni = 0
  · subst g1
    by_cases g2 : nn = 0
    · subst g2
      cases qc with
      | false =>
        go_wp2_with (first | ((with_reducible refine (CC _).mono ?_); rintro e u ⟨rfl, hb⟩; subst hb) | ((with_reducible refine zaa ?_); refine zlf rfl hO rfl _ (by exact at0) ?_) | fail)
        exact hJ _ _ _ _ _ _ _ _ _ _ _ _ _ _ _ _ _ _ _ _ _ _ (by (simp; done)) hO
      | true =>
        cases qe with
        | false =>
          go_wp2_with (first | ((with_reducible refine (CC _).mono ?_); rintro e u ⟨rfl, hb⟩; subst hb) | ((with_reducible refine (CE _).mono ?_); rintro e u ⟨rfl, hb⟩; subst hb) | ((with_reducible refine zaa ?_); refine zlf rfl hO rfl _ (by exact at0) ?_) | fail)
          exact hJ _ _ _ _ _ _ _ _ _ _ _ _ _ _ _ _ _ _ _ _ _ _ (by (simp; done)) hO
        | true =>
          go_wp2_with (first | ((with_reducible refine (CC _).mono ?_); rintro e u ⟨rfl, hb⟩; subst hb) | ((with_reducible refine (CE _).mono ?_); rintro e u ⟨rfl, hb⟩; subst hb) | ((with_reducible refine zaa ?_); refine zlf rfl hO rfl _ (by exact at0) ?_) | fail)
          exact hJ _ _ _ _ _ _ _ _ _ _ _ _ _ _ _ _ _ _ _ _ _ _ (by (simp; done)) hO
    · have g3 : ((nn : Int) == 0) = false := by rw [beq_eq_false_iff_ne]; omega
      have G2 := Lib.hid g2
      clear g2
      go_wp2_with (first | ((with_reducible refine zaa ?_); refine zlf rfl hO rfl _ (by exact at0) ?_) | fail)
      exact hJ _ _ _ _ _ _ _ _ _ _ _ _ _ _ _ _ _ _ _ _ _ _ (by rw [decide_eq_false G2.out]; simp) hO
  · have g3 : ((ni : Int) == 0) = false := by rw [beq_eq_false_iff_ne]; omega
    have G1 := Lib.hid g1
    clear g1
    go_wp2_with (first | ((with_reducible refine zaa ?_); refine zlf rfl hO rfl _ (by exact at0) ?_) | fail)
    exact hJ _ _ _ _ _ _ _ _ _ _ _ _ _ _ _ _ _ _ _ _ _ _ (by rw [decide_eq_false G1.out]; simp) hO

set_option maxRecDepth 100000 in
set_option maxHeartbeats 4000000 in
theorem lis_r9 {u0 u1 u3 u4 u6 u7 u8 u9 u10 u11 u12 u13 u14 u15 u16 u17 u18 u19 u20 u21 u22 u23 u24 u25 u26 u27 u28 u29 u30 u31 u32 u33 u34 u35 u36 u37 u38 u39 u40 u41 u42 u43 u44 u45 u46 u47 u48 u49 u50 u51 u52 u53 u54 u55 u56 u57 u58 u59 u60 u61 u62 u63 u64 u65 u66 u67 u68 u69 u70 u71 u72 u73 u74 u75 u76 u77 u78 u79 u80 u81 u82 u83 u84 u85 u86 u87 u88 u89 u90 u91 u92 u93 u94 u95 u96 u97 u98 u99 u100 u101 u102 u103 u104 u105 u106 u107 u108 u109 u110 u111 u112 u113 u114 u115 u116 u117 u118 u119 u120 u121 u122 u123 u124 u125 u126 u127 u128 u129 u130 u131 u132 u133 u134 u135 u136 u137 u138 u139 u140 u141 u142 u143 u144 u145 u146 u147 u148 u149 u150 u151 u152 u153 u154 u155 u156 u157 u158 u159 u160 u161 u162 u163 u164 u165 u166 u167 u168 u169 u170 u171 u172 u173 u174 u175 u176 u177 u178 u179 u180 u181 u182 u183 u184 u185 u186 u187 u188 u189 : Value} {w0 wc : World} {b0 n nc cc : Nat} {Ac : Option Addr} {v0 v1 v2 v3 v5 v6 v7 : Value} (hO : Own w0 [box b0 28 [v0, v1, v2, v3, .slice Ac nc cc, v5, v6, v7]] wc) {J : Act → World → Prop} {Q' : Exit → Act → World → Prop}
    (hJ : ∀ (c' : Bool) (x111 x112 x113 x114 x115 x116 x117 x118 : Value) (wx : World), c' = (decide (n = 0) && decide (nc = 0)) → Own w0 [box b0 28 [v0, v1, v2, v3, .slice Ac nc cc, v5, v6, v7]] wx → J ⟨(u0 :: u1 :: .pointer (some ⟨b0, 0, none⟩) :: u3 :: .bool c' :: .int .i64 (n : Int) :: u6 :: u7 :: u8 :: u9 :: u10 :: u11 :: u12 :: u13 :: u14 :: u15 :: u16 :: u17 :: u18 :: u19 :: u20 :: u21 :: u22 :: u23 :: u24 :: u25 :: u26 :: u27 :: u28 :: u29 :: u30 :: u31 :: u32 :: u33 :: u34 :: u35 :: u36 :: u37 :: u38 :: u39 :: u40 :: u41 :: u42 :: u43 :: u44 :: u45 :: u46 :: u47 :: u48 :: u49 :: u50 :: u51 :: u52 :: u53 :: u54 :: u55 :: u56 :: u57 :: u58 :: u59 :: u60 :: u61 :: u62 :: u63 :: u64 :: u65 :: u66 :: u67 :: u68 :: u69 :: u70 :: u71 :: u72 :: u73 :: u74 :: u75 :: u76 :: u77 :: u78 :: u79 :: u80 :: u81 :: u82 :: u83 :: u84 :: u85 :: u86 :: u87 :: u88 :: u89 :: u90 :: u91 :: u92 :: u93 :: u94 :: u95 :: u96 :: u97 :: u98 :: u99 :: u100 :: u101 :: u102 :: u103 :: u104 :: u105 :: u106 :: u107 :: u108 :: u109 :: u110 :: x111 :: x112 :: x113 :: x114 :: x115 :: x116 :: x117 :: x118 :: u119 :: u120 :: u121 :: u122 :: u123 :: u124 :: u125 :: u126 :: u127 :: u128 :: u129 :: u130 :: u131 :: u132 :: u133 :: u134 :: u135 :: u136 :: u137 :: u138 :: u139 :: u140 :: u141 :: u142 :: u143 :: u144 :: u145 :: u146 :: u147 :: u148 :: u149 :: u150 :: u151 :: u152 :: u153 :: u154 :: u155 :: u156 :: u157 :: u158 :: u159 :: u160 :: u161 :: u162 :: u163 :: u164 :: u165 :: u166 :: u167 :: u168 :: u169 :: u170 :: u171 :: u172 :: u173 :: u174 :: u175 :: u176 :: u177 :: u178 :: u179 :: u180 :: u181 :: u182 :: u183 :: u184 :: u185 :: u186 :: u187 :: u188 :: u189 :: []).toArray, []⟩ wx) :
    Code.wp Tryz.prog (((Tryz.f71.body).bind (zbb 9)).getD .skip) (Exit.then J Q') ⟨(u0 :: u1 :: .pointer (some ⟨b0, 0, none⟩) :: u3 :: u4 :: .int .i64 (n : Int) :: u6 :: u7 :: u8 :: u9 :: u10 :: u11 :: u12 :: u13 :: u14 :: u15 :: u16 :: u17 :: u18 :: u19 :: u20 :: u21 :: u22 :: u23 :: u24 :: u25 :: u26 :: u27 :: u28 :: u29 :: u30 :: u31 :: u32 :: u33 :: u34 :: u35 :: u36 :: u37 :: u38 :: u39 :: u40 :: u41 :: u42 :: u43 :: u44 :: u45 :: u46 :: u47 :: u48 :: u49 :: u50 :: u51 :: u52 :: u53 :: u54 :: u55 :: u56 :: u57 :: u58 :: u59 :: u60 :: u61 :: u62 :: u63 :: u64 :: u65 :: u66 :: u67 :: u68 :: u69 :: u70 :: u71 :: u72 :: u73 :: u74 :: u75 :: u76 :: u77 :: u78 :: u79 :: u80 :: u81 :: u82 :: u83 :: u84 :: u85 :: u86 :: u87 :: u88 :: u89 :: u90 :: u91 :: u92 :: u93 :: u94 :: u95 :: u96 :: u97 :: u98 :: u99 :: u100 :: u101 :: u102 :: u103 :: u104 :: u105 :: u106 :: u107 :: u108 :: u109 :: u110 :: u111 :: u112 :: u113 :: u114 :: u115 :: u116 :: u117 :: u118 :: u119 :: u120 :: u121 :: u122 :: u123 :: u124 :: u125 :: u126 :: u127 :: u128 :: u129 :: u130 :: u131 :: u132 :: u133 :: u134 :: u135 :: u136 :: u137 :: u138 :: u139 :: u140 :: u141 :: u142 :: u143 :: u144 :: u145 :: u146 :: u147 :: u148 :: u149 :: u150 :: u151 :: u152 :: u153 :: u154 :: u155 :: u156 :: u157 :: u158 :: u159 :: u160 :: u161 :: u162 :: u163 :: u164 :: u165 :: u166 :: u167 :: u168 :: u169 :: u170 :: u171 :: u172 :: u173 :: u174 :: u175 :: u176 :: u177 :: u178 :: u179 :: u180 :: u181 :: u182 :: u183 :: u184 :: u185 :: u186 :: u187 :: u188 :: u189 :: []).toArray, []⟩ wc := by
  conv => arg 2; whnf
  skip
  by_cases g1 : n = 0
  · subst g1
    by_cases g2 : nc = 0
    · subst g2
      go_wp2_with (first | ((with_reducible refine zaa ?_); refine zlf rfl hO rfl _ (by exact at0) ?_) | fail)
      exact hJ _ _ _ _ _ _ _ _ _ _ (by (simp; done)) hO
    · have g3 : ((nc : Int) == 0) = false := by rw [beq_eq_false_iff_ne]; omega
      have G2 := Lib.hid g2
      clear g2
      go_wp2_with (first | ((with_reducible refine zaa ?_); refine zlf rfl hO rfl _ (by exact at0) ?_) | fail)
      exact hJ _ _ _ _ _ _ _ _ _ _ (by rw [decide_eq_false G2.out]; simp) hO
  · have g3 : ((n : Int) == 0) = false := by rw [beq_eq_false_iff_ne]; omega
    have G1 := Lib.hid g1
    clear g1
    go_wp2_with fail
    exact hJ _ _ _ _ _ _ _ _ _ _ (by rw [decide_eq_false G1.out]; simp) hO

set_option maxRecDepth 100000 in
set_option maxHeartbeats 4000000 in
theorem lis_r10 {u0 u1 u3 u4 u5 u6 u7 u8 u9 u10 u11 u12 u13 u14 u15 u16 u17 u18 u19 u20 u21 u22 u23 u24 u25 u26 u27 u28 u29 u30 u31 u32 u33 u34 u35 u36 u37 u38 u39 u40 u41 u42 u43 u44 u45 u46 u47 u48 u49 u50 u51 u52 u53 u54 u55 u56 u57 u58 u59 u60 u61 u62 u63 u64 u65 u66 u67 u68 u69 u70 u71 u72 u73 u74 u75 u76 u77 u78 u79 u80 u81 u82 u83 u84 u85 u86 u87 u88 u89 u90 u91 u92 u93 u94 u95 u96 u97 u98 u99 u100 u101 u102 u103 u104 u105 u106 u107 u108 u109 u110 u111 u112 u113 u114 u115 u116 u117 u118 u119 u120 u121 u122 u123 u124 u125 u126 u127 u128 u129 u130 u131 u132 u133 u134 u135 u136 u137 u138 u139 u140 u141 u142 u143 u144 u145 u146 u147 u148 u149 u150 u151 u152 u153 u154 u155 u156 u157 u158 u159 u160 u161 u162 u163 u164 u165 u166 u167 u168 u169 u170 u171 u172 u173 u174 u175 u176 u177 u178 u179 u180 u181 u182 u183 u184 u185 u186 u187 u188 u189 : Value} {w0 wc : World} {b0 : Nat} {k : Int} {ni ci : Nat} {Ai : Option Addr} {v2 v3 v4 v5 v6 v7 : Value} (hO : Own w0 [box b0 28 [.int .i64 k, .slice Ai ni ci, v2, v3, v4, v5, v6, v7]] wc) {J : Act → World → Prop} {Q' : Exit → Act → World → Prop}
    (hJ : ∀ (c' : Bool) (x119 x120 x121 x122 x123 x124 x125 x126 : Value) (wx : World), c' = (decide (k = 4) && decide (0 < ni)) → Own w0 [box b0 28 [.int .i64 k, .slice Ai ni ci, v2, v3, v4, v5, v6, v7]] wx → J ⟨(u0 :: u1 :: .pointer (some ⟨b0, 0, none⟩) :: u3 :: u4 :: u5 :: u6 :: u7 :: u8 :: u9 :: u10 :: u11 :: u12 :: u13 :: u14 :: u15 :: u16 :: u17 :: u18 :: u19 :: u20 :: u21 :: u22 :: u23 :: u24 :: u25 :: u26 :: u27 :: u28 :: u29 :: u30 :: u31 :: u32 :: u33 :: u34 :: u35 :: u36 :: u37 :: u38 :: u39 :: u40 :: u41 :: u42 :: u43 :: u44 :: u45 :: u46 :: u47 :: u48 :: u49 :: u50 :: u51 :: u52 :: u53 :: u54 :: u55 :: u56 :: u57 :: u58 :: u59 :: u60 :: u61 :: u62 :: u63 :: u64 :: u65 :: u66 :: u67 :: u68 :: u69 :: u70 :: u71 :: u72 :: u73 :: u74 :: u75 :: u76 :: u77 :: u78 :: u79 :: u80 :: u81 :: u82 :: u83 :: u84 :: u85 :: u86 :: u87 :: u88 :: u89 :: u90 :: u91 :: u92 :: u93 :: u94 :: u95 :: u96 :: u97 :: u98 :: u99 :: u100 :: u101 :: u102 :: u103 :: u104 :: u105 :: u106 :: u107 :: u108 :: u109 :: u110 :: u111 :: u112 :: u113 :: u114 :: u115 :: u116 :: u117 :: u118 :: x119 :: x120 :: x121 :: x122 :: x123 :: x124 :: x125 :: x126 :: .bool c' :: u128 :: u129 :: u130 :: u131 :: u132 :: u133 :: u134 :: u135 :: u136 :: u137 :: u138 :: u139 :: u140 :: u141 :: u142 :: u143 :: u144 :: u145 :: u146 :: u147 :: u148 :: u149 :: u150 :: u151 :: u152 :: u153 :: u154 :: u155 :: u156 :: u157 :: u158 :: u159 :: u160 :: u161 :: u162 :: u163 :: u164 :: u165 :: u166 :: u167 :: u168 :: u169 :: u170 :: u171 :: u172 :: u173 :: u174 :: u175 :: u176 :: u177 :: u178 :: u179 :: u180 :: u181 :: u182 :: u183 :: u184 :: u185 :: u186 :: u187 :: u188 :: u189 :: []).toArray, []⟩ wx) :
    Code.wp Tryz.prog (((Tryz.f71.body).bind (zbb 10)).getD .skip) (Exit.then J Q') ⟨(u0 :: u1 :: .pointer (some ⟨b0, 0, none⟩) :: u3 :: u4 :: u5 :: u6 :: u7 :: u8 :: u9 :: u10 :: u11 :: u12 :: u13 :: u14 :: u15 :: u16 :: u17 :: u18 :: u19 :: u20 :: u21 :: u22 :: u23 :: u24 :: u25 :: u26 :: u27 :: u28 :: u29 :: u30 :: u31 :: u32 :: u33 :: u34 :: u35 :: u36 :: u37 :: u38 :: u39 :: u40 :: u41 :: u42 :: u43 :: u44 :: u45 :: u46 :: u47 :: u48 :: u49 :: u50 :: u51 :: u52 :: u53 :: u54 :: u55 :: u56 :: u57 :: u58 :: u59 :: u60 :: u61 :: u62 :: u63 :: u64 :: u65 :: u66 :: u67 :: u68 :: u69 :: u70 :: u71 :: u72 :: u73 :: u74 :: u75 :: u76 :: u77 :: u78 :: u79 :: u80 :: u81 :: u82 :: u83 :: u84 :: u85 :: u86 :: u87 :: u88 :: u89 :: u90 :: u91 :: u92 :: u93 :: u94 :: u95 :: u96 :: u97 :: u98 :: u99 :: u100 :: u101 :: u102 :: u103 :: u104 :: u105 :: u106 :: u107 :: u108 :: u109 :: u110 :: u111 :: u112 :: u113 :: u114 :: u115 :: u116 :: u117 :: u118 :: u119 :: u120 :: u121 :: u122 :: u123 :: u124 :: u125 :: u126 :: u127 :: u128 :: u129 :: u130 :: u131 :: u132 :: u133 :: u134 :: u135 :: u136 :: u137 :: u138 :: u139 :: u140 :: u141 :: u142 :: u143 :: u144 :: u145 :: u146 :: u147 :: u148 :: u149 :: u150 :: u151 :: u152 :: u153 :: u154 :: u155 :: u156 :: u157 :: u158 :: u159 :: u160 :: u161 :: u162 :: u163 :: u164 :: u165 :: u166 :: u167 :: u168 :: u169 :: u170 :: u171 :: u172 :: u173 :: u174 :: u175 :: u176 :: u177 :: u178 :: u179 :: u180 :: u181 :: u182 :: u183 :: u184 :: u185 :: u186 :: u187 :: u188 :: u189 :: []).toArray, []⟩ wc := by
  conv => arg 2; whnf
  skip
  by_cases p1 : k = 4
  · subst p1
    by_cases r1 : 0 < ni
    · go_wp2_with (first | ((with_reducible refine zaa ?_); refine zlf rfl hO rfl _ (by exact at0) ?_) | fail)
      exact hJ _ _ _ _ _ _ _ _ _ _ (by (simp; omega)) hO
    · go_wp2_with (first | ((with_reducible refine zaa ?_); refine zlf rfl hO rfl _ (by exact at0) ?_) | fail)
      exact hJ _ _ _ _ _ _ _ _ _ _ (by (simp; omega)) hO
  · have p3 : (k == 4) = false := by simp [p1]
    go_wp2_with (first | ((with_reducible refine zaa ?_); refine zlf rfl hO rfl _ (by exact at0) ?_) | fail)
    exact hJ _ _ _ _ _ _ _ _ _ _ (by (simp; omega)) hO

set_option maxRecDepth 100000 in
set_option maxHeartbeats 4000000 in
theorem lis_r16 {u0 u1 u3 u4 u5 u6 u8 u9 u10 u11 u12 u13 u14 u15 u16 u17 u18 u19 u20 u21 u22 u23 u24 u25 u26 u27 u28 u29 u30 u31 u32 u33 u34 u35 u36 u37 u38 u39 u40 u41 u42 u43 u44 u45 u46 u47 u48 u49 u50 u51 u52 u53 u54 u55 u56 u57 u58 u59 u60 u61 u62 u63 u64 u65 u66 u67 u68 u69 u70 u71 u72 u73 u74 u75 u76 u77 u78 u79 u80 u81 u82 u83 u84 u85 u86 u87 u88 u89 u90 u91 u92 u93 u94 u95 u96 u97 u98 u99 u100 u101 u102 u103 u104 u105 u106 u107 u108 u109 u110 u111 u112 u113 u114 u115 u116 u117 u118 u119 u120 u121 u122 u123 u124 u125 u126 u127 u128 u129 u130 u131 u132 u133 u134 u135 u136 u137 u138 u139 u140 u141 u142 u143 u144 u145 u146 u147 u148 u149 u150 u151 u152 u153 u154 u155 u156 u157 u158 u159 u160 u161 u162 u163 u164 u165 u166 u167 u168 u169 u170 u171 u172 u173 u174 u175 u176 u177 u178 u179 u180 u181 u182 u183 u184 u185 u186 u187 u188 u189 : Value} {w0 wc : World} {b0 b1 : Nat} {k xn xd : Int} {xt : ByteArray} {qb : Bool} {nl cl : Nat} {Al : Option Addr} {v1 v2 v3 v4 v6 v7 : Value} (CI : ∀ u, Calls Tryz.prog 97 #[.int .i64 k, .agg #[.int .i64 xn, .int .i64 xd, .string xt]] u fun e w' => e = .returned (.bool qb) ∧ Below u.heap.size u w') (hO : Own w0 [box b0 28 [.int .i64 k, v1, v2, v3, v4, .slice Al nl cl, v6, v7], box b1 35 [.int .i64 xn, .int .i64 xd, .string xt]] wc) {J : Act → World → Prop} {Q' : Exit → Act → World → Prop}
    (hJ : ∀ (c' : Bool) (x140 x141 x142 x143 x144 x145 x146 x147 x148 x149 x150 x151 x152 x153 x154 x155 x156 x157 x158 x159 x160 x161 x162 x163 x164 x165 x166 x167 x168 : Value) (wx : World), c' = (!qb || (decide (0 < nl) && !decide (xd = 0) && (!decide (xd = 1) || !inI xn 1 nl))) → Own w0 [box b0 28 [.int .i64 k, v1, v2, v3, v4, .slice Al nl cl, v6, v7], box b1 35 [.int .i64 xn, .int .i64 xd, .string xt]] wx → J ⟨(u0 :: u1 :: .pointer (some ⟨b0, 0, none⟩) :: u3 :: u4 :: u5 :: u6 :: .pointer (some ⟨b1, 0, none⟩) :: u8 :: u9 :: u10 :: u11 :: u12 :: u13 :: u14 :: u15 :: u16 :: u17 :: u18 :: u19 :: u20 :: u21 :: u22 :: u23 :: u24 :: u25 :: u26 :: u27 :: u28 :: u29 :: u30 :: u31 :: u32 :: u33 :: u34 :: u35 :: u36 :: u37 :: u38 :: u39 :: u40 :: u41 :: u42 :: u43 :: u44 :: u45 :: u46 :: u47 :: u48 :: u49 :: u50 :: u51 :: u52 :: u53 :: u54 :: u55 :: u56 :: u57 :: u58 :: u59 :: u60 :: u61 :: u62 :: u63 :: u64 :: u65 :: u66 :: u67 :: u68 :: u69 :: u70 :: u71 :: u72 :: u73 :: u74 :: u75 :: u76 :: u77 :: u78 :: u79 :: u80 :: u81 :: u82 :: u83 :: u84 :: u85 :: u86 :: u87 :: u88 :: u89 :: u90 :: u91 :: u92 :: u93 :: u94 :: u95 :: u96 :: u97 :: u98 :: u99 :: u100 :: u101 :: u102 :: u103 :: u104 :: u105 :: u106 :: u107 :: u108 :: u109 :: u110 :: u111 :: u112 :: u113 :: u114 :: u115 :: u116 :: u117 :: u118 :: u119 :: u120 :: u121 :: u122 :: u123 :: u124 :: u125 :: u126 :: u127 :: u128 :: u129 :: u130 :: u131 :: u132 :: u133 :: u134 :: u135 :: u136 :: u137 :: u138 :: u139 :: x140 :: x141 :: x142 :: x143 :: x144 :: x145 :: x146 :: x147 :: x148 :: x149 :: x150 :: x151 :: x152 :: x153 :: x154 :: x155 :: x156 :: x157 :: x158 :: x159 :: x160 :: x161 :: x162 :: x163 :: x164 :: x165 :: x166 :: x167 :: x168 :: .bool c' :: u170 :: u171 :: u172 :: u173 :: u174 :: u175 :: u176 :: u177 :: u178 :: u179 :: u180 :: u181 :: u182 :: u183 :: u184 :: u185 :: u186 :: u187 :: u188 :: u189 :: []).toArray, []⟩ wx) :
    Code.wp Tryz.prog (((Tryz.f71.body).bind (zbb 16)).getD .skip) (Exit.then J Q') ⟨(u0 :: u1 :: .pointer (some ⟨b0, 0, none⟩) :: u3 :: u4 :: u5 :: u6 :: .pointer (some ⟨b1, 0, none⟩) :: u8 :: u9 :: u10 :: u11 :: u12 :: u13 :: u14 :: u15 :: u16 :: u17 :: u18 :: u19 :: u20 :: u21 :: u22 :: u23 :: u24 :: u25 :: u26 :: u27 :: u28 :: u29 :: u30 :: u31 :: u32 :: u33 :: u34 :: u35 :: u36 :: u37 :: u38 :: u39 :: u40 :: u41 :: u42 :: u43 :: u44 :: u45 :: u46 :: u47 :: u48 :: u49 :: u50 :: u51 :: u52 :: u53 :: u54 :: u55 :: u56 :: u57 :: u58 :: u59 :: u60 :: u61 :: u62 :: u63 :: u64 :: u65 :: u66 :: u67 :: u68 :: u69 :: u70 :: u71 :: u72 :: u73 :: u74 :: u75 :: u76 :: u77 :: u78 :: u79 :: u80 :: u81 :: u82 :: u83 :: u84 :: u85 :: u86 :: u87 :: u88 :: u89 :: u90 :: u91 :: u92 :: u93 :: u94 :: u95 :: u96 :: u97 :: u98 :: u99 :: u100 :: u101 :: u102 :: u103 :: u104 :: u105 :: u106 :: u107 :: u108 :: u109 :: u110 :: u111 :: u112 :: u113 :: u114 :: u115 :: u116 :: u117 :: u118 :: u119 :: u120 :: u121 :: u122 :: u123 :: u124 :: u125 :: u126 :: u127 :: u128 :: u129 :: u130 :: u131 :: u132 :: u133 :: u134 :: u135 :: u136 :: u137 :: u138 :: u139 :: u140 :: u141 :: u142 :: u143 :: u144 :: u145 :: u146 :: u147 :: u148 :: u149 :: u150 :: u151 :: u152 :: u153 :: u154 :: u155 :: u156 :: u157 :: u158 :: u159 :: u160 :: u161 :: u162 :: u163 :: u164 :: u165 :: u166 :: u167 :: u168 :: u169 :: u170 :: u171 :: u172 :: u173 :: u174 :: u175 :: u176 :: u177 :: u178 :: u179 :: u180 :: u181 :: u182 :: u183 :: u184 :: u185 :: u186 :: u187 :: u188 :: u189 :: []).toArray, []⟩ wc := by
  conv => arg 2; whnf
  skip
  have CX := fun u => zbj xn 1 nl u
  obtain ⟨qx, hqx⟩ : ∃ q, inI xn 1 nl = q := ⟨_, rfl⟩
  rw [hqx] at CX hJ
  clear hqx
  cases qb with
  | false =>
    go_wp2_with (first | ((with_reducible refine (CI _).mono ?_); rintro e u ⟨rfl, hb⟩; (replace hO := hO.step hb; clear hb)) | ((with_reducible refine zaa ?_); refine zlb rfl hO rfl _ (by exact at1) ?_) | ((with_reducible refine zaa ?_); refine zlf rfl hO rfl _ (by exact at0) ?_) | fail)
    exact hJ _ _ _ _ _ _ _ _ _ _ _ _ _ _ _ _ _ _ _ _ _ _ _ _ _ _ _ _ _ _ _ (by (simp; done)) hO
  | true =>
  by_cases p1 : 0 < nl
  · by_cases p2 : xd = 0
    · subst p2
      go_wp2_with (first | ((with_reducible refine (CI _).mono ?_); rintro e u ⟨rfl, hb⟩; (replace hO := hO.step hb; clear hb)) | ((with_reducible refine zaa ?_); refine zlb rfl hO rfl _ (by exact at1) ?_) | ((with_reducible refine zaa ?_); refine zlf rfl hO rfl _ (by (first | exact at0 | exact at1 | fail)) ?_) | fail)
      exact hJ _ _ _ _ _ _ _ _ _ _ _ _ _ _ _ _ _ _ _ _ _ _ _ _ _ _ _ _ _ _ _ (by (simp; done)) hO
    · have q2 : (xd != 0) = true := by simp [p2]
      by_cases p3 : xd = 1
      · subst p3
        cases qx with
        | false =>
          go_wp2_with (first | ((with_reducible refine (CI _).mono ?_); rintro e u ⟨rfl, hb⟩; (replace hO := hO.step hb; clear hb)) | ((with_reducible refine (CX _).mono ?_); rintro e u ⟨rfl, hb⟩; subst hb) | ((with_reducible refine zaa ?_); refine zlb rfl hO rfl _ (by exact at1) ?_) | ((with_reducible refine zaa ?_); refine zlf rfl hO rfl _ (by (first | exact at0 | exact at1 | fail)) ?_) | fail)
          exact hJ _ _ _ _ _ _ _ _ _ _ _ _ _ _ _ _ _ _ _ _ _ _ _ _ _ _ _ _ _ _ _ (by (simp; omega)) hO
        | true =>
          go_wp2_with (first | ((with_reducible refine (CI _).mono ?_); rintro e u ⟨rfl, hb⟩; (replace hO := hO.step hb; clear hb)) | ((with_reducible refine (CX _).mono ?_); rintro e u ⟨rfl, hb⟩; subst hb) | ((with_reducible refine zaa ?_); refine zlb rfl hO rfl _ (by exact at1) ?_) | ((with_reducible refine zaa ?_); refine zlf rfl hO rfl _ (by (first | exact at0 | exact at1 | fail)) ?_) | fail)
          exact hJ _ _ _ _ _ _ _ _ _ _ _ _ _ _ _ _ _ _ _ _ _ _ _ _ _ _ _ _ _ _ _ (by (simp; done)) hO
      · have q3 : (xd != 1) = true := by simp [p3]
        go_wp2_with (first | ((with_reducible refine (CI _).mono ?_); rintro e u ⟨rfl, hb⟩; (replace hO := hO.step hb; clear hb)) | ((with_reducible refine zaa ?_); refine zlb rfl hO rfl _ (by exact at1) ?_) | ((with_reducible refine zaa ?_); refine zlf rfl hO rfl _ (by (first | exact at0 | exact at1 | fail)) ?_) | fail)
        exact hJ _ _ _ _ _ _ _ _ _ _ _ _ _ _ _ _ _ _ _ _ _ _ _ _ _ _ _ _ _ _ _ (by (simp; omega)) hO
  · go_wp2_with (first | ((with_reducible refine (CI _).mono ?_); rintro e u ⟨rfl, hb⟩; (replace hO := hO.step hb; clear hb)) | ((with_reducible refine zaa ?_); refine zlb rfl hO rfl _ (by exact at1) ?_) | ((with_reducible refine zaa ?_); refine zlf rfl hO rfl _ (by exact at0) ?_) | fail)
    exact hJ _ _ _ _ _ _ _ _ _ _ _ _ _ _ _ _ _ _ _ _ _ _ _ _ _ _ _ _ _ _ _ (by (simp; omega)) hO

set_option maxRecDepth 100000 in
set_option maxHeartbeats 4000000 in
theorem lis_r21 {u0 u3 u4 u5 u6 u7 u9 u10 u11 u12 u13 u14 u15 u16 u17 u18 u19 u20 u21 u22 u23 u24 u25 u26 u27 u28 u29 u30 u31 u32 u33 u34 u35 u36 u37 u38 u39 u40 u41 u42 u43 u44 u45 u46 u47 u48 u49 u50 u51 u52 u53 u54 u55 u56 u57 u58 u59 u60 u61 u62 u63 u64 u65 u66 u67 u68 u69 u70 u71 u72 u73 u74 u75 u76 u77 u78 u79 u80 u81 u82 u83 u84 u85 u86 u87 u88 u89 u90 u91 u92 u93 u94 u95 u96 u97 u98 u99 u100 u101 u102 u103 u104 u105 u106 u107 u108 u109 u110 u111 u112 u113 u114 u115 u116 u117 u118 u119 u120 u121 u122 u123 u124 u125 u126 u127 u128 u129 u130 u131 u132 u133 u134 u135 u136 u137 u138 u139 u140 u141 u142 u143 u144 u145 u146 u147 u148 u149 u150 u151 u152 u153 u154 u155 u156 u157 u158 u159 u160 u161 u162 u163 u164 u165 u166 u167 u168 u169 u170 u171 u172 u173 u174 u175 u176 u177 u178 u179 u180 u181 u182 u183 u184 u185 u186 u187 u188 u189 : Value} {w0 wc : World} {b0 q m g off np cp : Nat} {pq : Bool} {v0 v1 v3 v4 v5 v6 v7 x0 x1 x2 x3 x4 x5 x6 x7 : Value} (hlt : m < np) (hq : q ≤ 3) (CP : q ≠ 0 → ∀ u, Below w0.heap.size w0 u → Calls Tryz.prog 71 #[.agg #[x0, x1, x2, x3, x4, x5, x6, x7], .int .i64 ((q : Int) - 1)] u fun e w' => e = .returned (.bool pq) ∧ Below u.heap.size u w') (d0 : wc.cell? ⟨g, off + m * 8, none⟩ = some x0) (d1 : wc.cell? ⟨g, off + m * 8 + 1, none⟩ = some x1) (d2 : wc.cell? ⟨g, off + m * 8 + 2, none⟩ = some x2) (d3 : wc.cell? ⟨g, off + m * 8 + 3, none⟩ = some x3) (d4 : wc.cell? ⟨g, off + m * 8 + 4, none⟩ = some x4) (d5 : wc.cell? ⟨g, off + m * 8 + 5, none⟩ = some x5) (d6 : wc.cell? ⟨g, off + m * 8 + 6, none⟩ = some x6) (d7 : wc.cell? ⟨g, off + m * 8 + 7, none⟩ = some x7) (hO : Own w0 [box b0 28 [v0, v1, .slice (some ⟨g, off, none⟩) np cp, v3, v4, v5, v6, v7]] wc) {J : Act → World → Prop} {Q' : Exit → Act → World → Prop}
    (hJ : ∀ (c' : Bool) (x177 x178 x179 x180 x181 x182 x183 x184 x185 x186 x187 x188 : Value) (wx : World), c' = (decide (q = 0) || !pq) → Own w0 [box b0 28 [v0, v1, .slice (some ⟨g, off, none⟩) np cp, v3, v4, v5, v6, v7]] wx → J ⟨(u0 :: .int .i64 (q : Int) :: .pointer (some ⟨b0, 0, none⟩) :: u3 :: u4 :: u5 :: u6 :: u7 :: .int .i64 (m : Int) :: u9 :: u10 :: u11 :: u12 :: u13 :: u14 :: u15 :: u16 :: u17 :: u18 :: u19 :: u20 :: u21 :: u22 :: u23 :: u24 :: u25 :: u26 :: u27 :: u28 :: u29 :: u30 :: u31 :: u32 :: u33 :: u34 :: u35 :: u36 :: u37 :: u38 :: u39 :: u40 :: u41 :: u42 :: u43 :: u44 :: u45 :: u46 :: u47 :: u48 :: u49 :: u50 :: u51 :: u52 :: u53 :: u54 :: u55 :: u56 :: u57 :: u58 :: u59 :: u60 :: u61 :: u62 :: u63 :: u64 :: u65 :: u66 :: u67 :: u68 :: u69 :: u70 :: u71 :: u72 :: u73 :: u74 :: u75 :: u76 :: u77 :: u78 :: u79 :: u80 :: u81 :: u82 :: u83 :: u84 :: u85 :: u86 :: u87 :: u88 :: u89 :: u90 :: u91 :: u92 :: u93 :: u94 :: u95 :: u96 :: u97 :: u98 :: u99 :: u100 :: u101 :: u102 :: u103 :: u104 :: u105 :: u106 :: u107 :: u108 :: u109 :: u110 :: u111 :: u112 :: u113 :: u114 :: u115 :: u116 :: u117 :: u118 :: u119 :: u120 :: u121 :: u122 :: u123 :: u124 :: u125 :: u126 :: u127 :: u128 :: u129 :: u130 :: u131 :: u132 :: u133 :: u134 :: u135 :: u136 :: u137 :: u138 :: u139 :: u140 :: u141 :: u142 :: u143 :: u144 :: u145 :: u146 :: u147 :: u148 :: u149 :: u150 :: u151 :: u152 :: u153 :: u154 :: u155 :: u156 :: u157 :: u158 :: u159 :: u160 :: u161 :: u162 :: u163 :: u164 :: u165 :: u166 :: u167 :: u168 :: u169 :: u170 :: u171 :: u172 :: u173 :: u174 :: u175 :: u176 :: x177 :: x178 :: x179 :: x180 :: x181 :: x182 :: x183 :: x184 :: x185 :: x186 :: x187 :: x188 :: .bool c' :: []).toArray, []⟩ wx) :
    Code.wp Tryz.prog (((Tryz.f71.body).bind (zbb 21)).getD .skip) (Exit.then J Q') ⟨(u0 :: .int .i64 (q : Int) :: .pointer (some ⟨b0, 0, none⟩) :: u3 :: u4 :: u5 :: u6 :: u7 :: .int .i64 (m : Int) :: u9 :: u10 :: u11 :: u12 :: u13 :: u14 :: u15 :: u16 :: u17 :: u18 :: u19 :: u20 :: u21 :: u22 :: u23 :: u24 :: u25 :: u26 :: u27 :: u28 :: u29 :: u30 :: u31 :: u32 :: u33 :: u34 :: u35 :: u36 :: u37 :: u38 :: u39 :: u40 :: u41 :: u42 :: u43 :: u44 :: u45 :: u46 :: u47 :: u48 :: u49 :: u50 :: u51 :: u52 :: u53 :: u54 :: u55 :: u56 :: u57 :: u58 :: u59 :: u60 :: u61 :: u62 :: u63 :: u64 :: u65 :: u66 :: u67 :: u68 :: u69 :: u70 :: u71 :: u72 :: u73 :: u74 :: u75 :: u76 :: u77 :: u78 :: u79 :: u80 :: u81 :: u82 :: u83 :: u84 :: u85 :: u86 :: u87 :: u88 :: u89 :: u90 :: u91 :: u92 :: u93 :: u94 :: u95 :: u96 :: u97 :: u98 :: u99 :: u100 :: u101 :: u102 :: u103 :: u104 :: u105 :: u106 :: u107 :: u108 :: u109 :: u110 :: u111 :: u112 :: u113 :: u114 :: u115 :: u116 :: u117 :: u118 :: u119 :: u120 :: u121 :: u122 :: u123 :: u124 :: u125 :: u126 :: u127 :: u128 :: u129 :: u130 :: u131 :: u132 :: u133 :: u134 :: u135 :: u136 :: u137 :: u138 :: u139 :: u140 :: u141 :: u142 :: u143 :: u144 :: u145 :: u146 :: u147 :: u148 :: u149 :: u150 :: u151 :: u152 :: u153 :: u154 :: u155 :: u156 :: u157 :: u158 :: u159 :: u160 :: u161 :: u162 :: u163 :: u164 :: u165 :: u166 :: u167 :: u168 :: u169 :: u170 :: u171 :: u172 :: u173 :: u174 :: u175 :: u176 :: u177 :: u178 :: u179 :: u180 :: u181 :: u182 :: u183 :: u184 :: u185 :: u186 :: u187 :: u188 :: u189 :: []).toArray, []⟩ wc := by
  conv => arg 2; whnf
  skip
  by_cases p1 : q = 0
  · subst p1
    go_wp2_with fail
    exact hJ _ _ _ _ _ _ _ _ _ _ _ _ _ _ (by (simp; done)) hO
  · have p2 : ((q : Int) == 0) = false := by rw [beq_eq_false_iff_ne]; omega
    have CP' := CP p1
    have P1 := Lib.hid p1
    clear p1 CP
    cases pq with
    | false =>
      go_wp2_with (first | ((with_reducible refine (CP' _ hO.below).mono ?_); rintro e u ⟨rfl, hb⟩; (replace hO := hO.step hb; clear hb)) | ((with_reducible refine zaa ?_); refine zlf rfl hO rfl _ (by exact at0) ?_) | fail)
      exact hJ _ _ _ _ _ _ _ _ _ _ _ _ _ _ (by rw [decide_eq_false P1.out]; simp) hO
    | true =>
      go_wp2_with (first | ((with_reducible refine (CP' _ hO.below).mono ?_); rintro e u ⟨rfl, hb⟩; (replace hO := hO.step hb; clear hb)) | ((with_reducible refine zaa ?_); refine zlf rfl hO rfl _ (by exact at0) ?_) | fail)
      exact hJ _ _ _ _ _ _ _ _ _ _ _ _ _ _ (by rw [decide_eq_false P1.out]; simp) hO

end

section

open Go.RowKit Go.ChangeShapes Go.WideShapes

set_option linter.unusedVariables false

set_option linter.unusedSimpArgs false

theorem szV_parts {k : Int} {is : List It} {ps : List VT} {ns cs ls : List ByteArray} {c e : Int} (h : szV (.mk k is ps ns cs ls c e) ≤ 1048576) : szL ps ≤ 1048576 ∧ is.length + ps.length ≤ 1048576 := by
  have HT : szV (.mk k is ps ns cs ls c e) = szI is + szL ps + szS ns + szS cs + szS ls := rfl
  have := szL_eq ps
  unfold szI szS at HT
  omega

theorem szL_mem {ps : List VT} (h : szL ps ≤ 1048576) {i : Nat} (hi : i < ps.length) : szV ps[i] ≤ 1048576 := by
  have := szL_eq ps
  have := szP_mem hi
  omega

theorem szV_partsG {k : Int} {is : List It} {ps : List VT} {ns cs ls : List ByteArray} {c e : Int} (h : szV (.mk k is ps ns cs ls c e) ≤ 268435456) : szL ps ≤ 268435456 ∧ is.length + ps.length ≤ 268435456 := by
  have HT : szV (.mk k is ps ns cs ls c e) = szI is + szL ps + szS ns + szS cs + szS ls := rfl
  have := szL_eq ps
  unfold szI szS at HT
  omega

theorem szL_memG {ps : List VT} (h : szL ps ≤ 268435456) {i : Nat} (hi : i < ps.length) : szV ps[i] ≤ 268435456 := by
  have := szL_eq ps
  have := szP_mem hi
  omega

theorem RdL.ptc {w u : World} {A : Option Addr} {ps : List VT} {pvs : List (List Value)} (h : RdL w A ps pvs) (hb : Below w.heap.size w u) {i : Nat} (hi : i < ps.length) {xk : Int} {xi : List It} {xp : List VT} {xn xc xl : List ByteArray} {xo xe : Int} (ht : ps[i]'hi = .mk xk xi xp xn xc xl xo xe) :
    ∃ b off, A = some ⟨b, off, none⟩ ∧ b < w.heap.size ∧ ∃ (Ai Ap An Ac Al : Option Addr) (ci cp cn cc cl : Nat), RdV w (.mk xk xi xp xn xc xl xo xe) [.int .i64 xk, .slice Ai xi.length ci, .slice Ap xp.length cp, .slice An xn.length cn, .slice Ac xc.length cc, .slice Al xl.length cl, .int .i64 xo, .int .i64 xe] ∧
      u.cell? ⟨b, off + i * 8, none⟩ = some (.int .i64 xk) ∧ u.cell? ⟨b, off + i * 8 + 1, none⟩ = some (.slice Ai xi.length ci) ∧ u.cell? ⟨b, off + i * 8 + 2, none⟩ = some (.slice Ap xp.length cp) ∧ u.cell? ⟨b, off + i * 8 + 3, none⟩ = some (.slice An xn.length cn) ∧
      u.cell? ⟨b, off + i * 8 + 4, none⟩ = some (.slice Ac xc.length cc) ∧ u.cell? ⟨b, off + i * 8 + 5, none⟩ = some (.slice Al xl.length cl) ∧ u.cell? ⟨b, off + i * 8 + 6, none⟩ = some (.int .i64 xo) ∧ u.cell? ⟨b, off + i * 8 + 7, none⟩ = some (.int .i64 xe) := by
  obtain ⟨b, off, e, hlt, v0, v1, v2, v3, v4, v5, v6, v7, hv, d0, d1, d2, d3, d4, d5, d6, d7⟩ := h.pt (Below.refl _ _) hi ht
  obtain ⟨Ai, Ap, An, Ac, Al, ci, cp, cn, cc, cl, pvs', hvs, _⟩ := hv.open
  simp only [List.cons.injEq, and_true] at hvs
  obtain ⟨rfl, rfl, rfl, rfl, rfl, rfl, rfl, rfl⟩ := hvs
  exact ⟨b, off, e, hlt, Ai, Ap, An, Ac, Al, ci, cp, cn, cc, cl, hv, (hb.cell (p := ⟨b, _, none⟩) hlt).trans d0, (hb.cell (p := ⟨b, _, none⟩) hlt).trans d1, (hb.cell (p := ⟨b, _, none⟩) hlt).trans d2, (hb.cell (p := ⟨b, _, none⟩) hlt).trans d3, (hb.cell (p := ⟨b, _, none⟩) hlt).trans d4, (hb.cell (p := ⟨b, _, none⟩) hlt).trans d5, (hb.cell (p := ⟨b, _, none⟩) hlt).trans d6, (hb.cell (p := ⟨b, _, none⟩) hlt).trans d7⟩

def PNest (t : VT) : Prop := ∀ (vs : List Value) (r : Nat) (w : World), r ≤ 100 → RdV w t vs → szV t ≤ 268435456 → Calls Tryz.prog 54 #[.agg vs.toArray, .int .i64 (r : Int)] w fun e w' => e = .returned (.int .i64 (nestV t r : Int)) ∧ Below w.heap.size w w'

theorem nestV_le (t : VT) : ∀ r, nestV t r ≤ r + 1 := by
  induction t using VT.ind with
  | _ k is ps ns cs ls c e ih =>
    intro r
    simp only [nestV]
    split
    · omega
    · have : ∀ qs : List VT, (∀ p ∈ qs, ∀ r, nestV p r ≤ r + 1) → nestL qs (r - 1) ≤ r + 1 := by
        intro qs
        induction qs with
        | nil => intro _; simp [nestL]
        | cons q qs ihq =>
          intro h
          have h1 := h q (List.mem_cons_self) (r - 1)
          have h2 := ihq (fun p hp => h p (List.mem_cons_of_mem _ hp))
          simp only [nestL]
          omega
      exact this ps ih

set_option maxHeartbeats 1000000 in
theorem impl_nest (t : VT) : PNest t := by
  induction t using VT.ind with
  | _ k is ps ns cs ls c e ih =>
    intro vs r w hr hv hz
    obtain ⟨hzp, hzn⟩ := szV_partsG hz
    obtain ⟨Ai, Ap, An, Ac, Al, ci, cp, cn, cc, cl, pvs, rfl, h1, h2, h3, h4, h5⟩ := hv.open
    clear hv hz
    by_cases h0 : r = 0
    · subst h0
      have HE : Hid (nestV (.mk k is ps ns cs ls c e) 0 = 1) := Lib.hid rfl
      go_enter Tryz.func54, Tryz.ntmps54
      have hO := Own.nil w
      go_wp2_with (first | ((with_reducible refine zad ?_); refine zbx rfl hO rfl rfl ?_; (refine nm 0 rfl ?_; clear hO; intro b0 u hO); simp only [zL, zK] at hO) | fail)
      go_ret
      exact ⟨zat (by rw [HE.out]; rfl), hO.below⟩
    · have HE : Hid (nestV (.mk k is ps ns cs ls c e) r = nestL ps (r - 1)) := Lib.hid (by simp only [nestV]; rw [if_neg h0])
      have g0 : ((r : Int) == 0) = false := by rw [beq_eq_false_iff_ne]; omega
      have HR := Lib.hid (show ((r : Int) - 1) = ((r - 1 : Nat) : Int) by omega)
      have hrp : 1 ≤ r := by omega
      clear h0
      go_enter Tryz.func54, Tryz.ntmps54
      have hO := Own.nil w
      go_wp2_with (first | ((with_reducible refine zad ?_); refine zbx rfl hO rfl rfl ?_; (refine nm 0 rfl ?_; clear hO; intro b0 u hO); simp only [zL, zK] at hO) | ((with_reducible refine zaa ?_); refine zlf rfl hO rfl _ (by exact at0) ?_) | fail)
      go_loopw [5, 13] (fun s i u => ∃ m : Nat, m ≤ ps.length ∧ i = .int .i64 m ∧ s = .int .i64 (nestL (ps.take m) (r - 1) : Int) ∧ Own w [box b0 28 [.int .i64 k, .slice Ai is.length ci, .slice Ap ps.length cp, .slice An ns.length cn, .slice Ac cs.length cc, .slice Al ls.length cl, .int .i64 c, .int .i64 e]] u) (fun _ i _ => ps.length - (intOf i).toNat)
      case atStart => exact ⟨0, Nat.zero_le _, rfl, rfl, hO⟩
      case round =>
        clear hO
        obtain ⟨m, hm, rfl, rfl, hO⟩ := hrel
        by_cases hlt : m < ps.length
        · have hp := ih _ (List.getElem_mem hlt)
          have hps := szL_memG hzp hlt
          have HS := Lib.hid (nestL_succ hlt (r - 1))
          obtain ⟨x, hx⟩ : ∃ x, ps[m]'hlt = x := ⟨_, rfl⟩
          obtain ⟨xk, xi, xp, xn, xc, xl, xo, xe⟩ := x
          obtain ⟨b, off, rfl, hb, Bi, Bp, Bn, Bc, Bl, di, dp, dn, dc, dl, hrd, c0, c1, c2, c3, c4, c5, c6, c7⟩ := h2.ptc hO.below hlt hx
          rw [hx] at hp hps HS
          clear hx
          have hle := nestV_le (.mk xk xi xp xn xc xl xo xe) (r - 1)
          obtain ⟨q, hq⟩ : ∃ q, nestL (ps.take m) (r - 1) = q := ⟨_, rfl⟩
          rw [hq] at HS
          rw [hq]
          obtain ⟨z, hzz⟩ : ∃ z, nestV (.mk xk xi xp xn xc xl xo xe) (r - 1) = z := ⟨_, rfl⟩
          rw [hzz] at HS hle
          have HZ := Lib.hid hzz
          clear hq hzz
          go_wp2_with (first | ((with_reducible refine zac ?_); refine zal rfl hO rfl ?_; (refine nm 1 rfl ?_; clear hO; intro b1 u hO); simp only [zL, zK] at hO) | ((with_reducible refine zaa ?_); refine zlb rfl hO rfl _ (by (first | exact at0 | exact at1 | fail)) ?_) | ((with_reducible refine zab ?_); refine zsb rfl hO rfl _ (by exact at1) rfl ?_; clear hO; intro u hO; simp only [zC, zB] at hO) | fail)
          rw [HR.out]
          refine (hp _ _ _ (by omega) (hrd.grow hO.below) hps).mono ?_
          rintro e u ⟨rfl, hb⟩
          (replace hO := hO.step hb; clear hb)
          rw [HZ.out]
          go_wp2_with fail
          replace hO := hO.pick [0] (by decide)
          simp only [zN, zO, zE, zD] at hO
          go_roundw
          case rel => exact ⟨m + 1, by omega, by go_num, by rw [HS.out]; exact congrArg (Value.int .i64) (by split <;> omega), hO⟩
          case measure => simp [intOf]; omega
        · have hmn : m = ps.length := by omega
          subst hmn
          rw [List.take_length]
          go_wp2_with fail
          go_ret
          exact ⟨zat (by rw [HE.out]), hO.below⟩

mutual
theorem cells_sz : ∀ t, cellsV t ≤ 2 * szV t + 1
  | .mk k is ps ns cs ls c e => by
    have := cellsL_sz ps
    simp only [cellsV, szV, szI, szS, lenV]
    split <;> omega
theorem cellsL_sz : ∀ ps, cellsL ps + ps.length ≤ 2 * szL ps
  | [] => by simp [cellsL, szL]
  | p :: ps => by
    have := cells_sz p
    have := cellsL_sz ps
    simp only [cellsL, szL, List.length_cons]
    omega
end

def PCells (f : Nat) (t : VT) : Prop := ∀ (vs : List Value) (w : World), RdV w t vs → szV t ≤ 268435456 → Calls Tryz.prog f #[.agg vs.toArray] w fun e w' => e = .returned (.int .i64 (cellsV t : Int)) ∧ Below w.heap.size w w'

set_option maxHeartbeats 1000000 in
theorem impl_cells (t : VT) : PCells 56 t := by
  induction t using VT.ind with
  | _ k is ps ns cs ls c e ih =>
    intro vs w hv hz
    obtain ⟨hzp, hzn⟩ := szV_partsG hz
    obtain ⟨Ai, Ap, An, Ac, Al, ci, cp, cn, cc, cl, pvs, rfl, h1, h2, h3, h4, h5⟩ := hv.open
    have HE : Hid (cellsV (.mk k is ps ns cs ls c e) = lenN k is.length ps.length + cellsL ps) := Lib.hid rfl
    have hbd := cellsL_sz ps
    have CL := fun u => impl_length k Ai Ap is.length ps.length ci cp (.slice An ns.length cn) (.slice Ac cs.length cc) (.slice Al ls.length cl) (.int .i64 c) (.int .i64 e) u (by omega)
    obtain ⟨n, hn⟩ : ∃ n, lenN k is.length ps.length = n := ⟨_, rfl⟩
    rw [hn] at CL HE
    have hn2 : n ≤ 268435457 := by rw [← hn]; unfold lenN; split <;> omega
    clear hv hz hn
    have HB := Lib.hid (show cellsL ps ≤ 536870912 by omega)
    clear hbd
    go_enter Tryz.func56, Tryz.ntmps56
    have hO := Own.nil w
    go_wp2_with (first | ((with_reducible refine (CL _).mono ?_); rintro e u ⟨rfl, hb⟩; (replace hO := hO.step hb; clear hb)) | ((with_reducible refine zad ?_); refine zbx rfl hO rfl rfl ?_; (refine nm 0 rfl ?_; clear hO; intro b0 u hO); simp only [zL, zK] at hO) | ((with_reducible refine zaa ?_); refine zlb rfl hO rfl _ (by exact at0) ?_) | ((with_reducible refine zaa ?_); refine zlf rfl hO rfl _ (by exact at0) ?_) | fail)
    go_loopw [3, 11] (fun s i u => ∃ m : Nat, m ≤ ps.length ∧ i = .int .i64 m ∧ s = .int .i64 ((n + cellsL (ps.take m) : Nat) : Int) ∧ Own w [box b0 28 [.int .i64 k, .slice Ai is.length ci, .slice Ap ps.length cp, .slice An ns.length cn, .slice Ac cs.length cc, .slice Al ls.length cl, .int .i64 c, .int .i64 e]] u) (fun _ i _ => ps.length - (intOf i).toNat)
    case atStart => exact ⟨0, Nat.zero_le _, rfl, rfl, hO⟩
    case round =>
      clear hO
      obtain ⟨m, hm, rfl, rfl, hO⟩ := hrel
      by_cases hlt : m < ps.length
      · have hp := ih _ (List.getElem_mem hlt)
        have hps := szL_memG hzp hlt
        have HS := Lib.hid (cellsL_succ hlt)
        have hle2 : cellsL (ps.take (m + 1)) ≤ cellsL ps := by
          have := cellsL_app (ps.take (m + 1)) (ps.drop (m + 1))
          rw [List.take_append_drop] at this
          omega
        have HB2 := Lib.hid (Nat.le_trans hle2 HB.out)
        clear hle2
        obtain ⟨x, hx⟩ : ∃ x, ps[m]'hlt = x := ⟨_, rfl⟩
        obtain ⟨xk, xi, xp, xn, xc, xl, xo, xe⟩ := x
        obtain ⟨b, off, rfl, hb, Bi, Bp, Bn, Bc, Bl, di, dp, dn, dc, dl, hrd, c0, c1, c2, c3, c4, c5, c6, c7⟩ := h2.ptc hO.below hlt hx
        rw [hx] at hp hps HS
        clear hx
        have hq2 : cellsL (ps.take m) + cellsV (.mk xk xi xp xn xc xl xo xe) ≤ 536870912 := by rw [← HS.out]; exact HB2.out
        obtain ⟨q, hq⟩ : ∃ q, cellsL (ps.take m) = q := ⟨_, rfl⟩
        rw [hq] at HS hq2
        rw [hq]
        obtain ⟨z, hzz⟩ : ∃ z, cellsV (.mk xk xi xp xn xc xl xo xe) = z := ⟨_, rfl⟩
        rw [hzz] at HS hq2
        have HZ := Lib.hid hzz
        clear hq hzz HB2
        go_wp2_with (first | ((with_reducible refine zac ?_); refine zal rfl hO rfl ?_; (refine nm 1 rfl ?_; clear hO; intro b1 u hO); simp only [zL, zK] at hO) | ((with_reducible refine zaa ?_); refine zlb rfl hO rfl _ (by (first | exact at0 | exact at1 | fail)) ?_) | ((with_reducible refine zab ?_); refine zsb rfl hO rfl _ (by exact at1) rfl ?_; clear hO; intro u hO; simp only [zC, zB] at hO) | fail)
        refine (hp _ _ (hrd.grow hO.below) hps).mono ?_
        rintro e u ⟨rfl, hb⟩
        (replace hO := hO.step hb; clear hb)
        rw [HZ.out]
        go_wp2_with fail
        replace hO := hO.pick [0] (by decide)
        simp only [zN, zO, zE, zD] at hO
        go_roundw
        case rel => exact ⟨m + 1, by omega, by go_num, by rw [HS.out]; exact congrArg (Value.int .i64) (by omega), hO⟩
        case measure => simp [intOf]; omega
      · have hmn : m = ps.length := by omega
        subst hmn
        rw [List.take_length]
        go_wp2_with fail
        go_ret
        exact ⟨zat (by rw [HE.out]), hO.below⟩

def PPv (t : VT) : Prop := ∀ (vs : List Value) (w : World), RdV w t vs → szV t ≤ 268435456 → Calls Tryz.prog 55 #[.agg vs.toArray] w fun e w' => e = .returned (.bool (pvB t)) ∧ Below w.heap.size w w'

set_option maxHeartbeats 1000000 in
theorem impl_parts (t : VT) : PPv t := by
  induction t using VT.ind with
  | _ k is ps ns cs ls c e ih =>
    intro vs w hv hz
    obtain ⟨hzp, hzn⟩ := szV_partsG hz
    have CS := fun u (hb : Below w.heap.size w u) => impl_shape k is ps ns cs ls c e vs u (hv.grow hb) hz
    obtain ⟨Ai, Ap, An, Ac, Al, ci, cp, cn, cc, cl, pvs, rfl, h1, h2, h3, h4, h5⟩ := hv.open
    have HE : Hid (pvB (.mk k is ps ns cs ls c e) = (nodeB (.mk k is ps ns cs ls c e) && pvL ps)) := Lib.hid (by simp only [pvB])
    obtain ⟨q, hq⟩ : ∃ q, nodeB (.mk k is ps ns cs ls c e) = q := ⟨_, rfl⟩
    rw [hq] at CS HE
    clear hv hz hq
    cases q with
    | false =>
      go_enter Tryz.func55, Tryz.ntmps55
      have hO := Own.nil w
      go_wp2_with (first | ((with_reducible refine (CS _ hO.below).mono ?_); rintro e u ⟨rfl, hb⟩; (replace hO := hO.step hb; clear hb)) | ((with_reducible refine zad ?_); refine zbx rfl hO rfl rfl ?_; (refine nm 0 rfl ?_; clear hO; intro b0 u hO); simp only [zL, zK] at hO) | ((with_reducible refine zaa ?_); refine zlb rfl hO rfl _ (by exact at0) ?_) | fail)
      go_ret
      exact ⟨zap (by rw [HE.out]; rfl), hO.below⟩
    | true =>
      go_enter Tryz.func55, Tryz.ntmps55
      have hO := Own.nil w
      go_wp2_with (first | ((with_reducible refine (CS _ hO.below).mono ?_); rintro e u ⟨rfl, hb⟩; (replace hO := hO.step hb; clear hb)) | ((with_reducible refine zad ?_); refine zbx rfl hO rfl rfl ?_; (refine nm 0 rfl ?_; clear hO; intro b0 u hO); simp only [zL, zK] at hO) | ((with_reducible refine zaa ?_); refine zlb rfl hO rfl _ (by exact at0) ?_) | ((with_reducible refine zaa ?_); refine zlf rfl hO rfl _ (by exact at0) ?_) | fail)
      clear CS
      go_loopw [11] (fun i u => ∃ m : Nat, m ≤ ps.length ∧ i = .int .i64 m ∧ Hid (pvL (ps.take m) = true) ∧ Own w [box b0 28 [.int .i64 k, .slice Ai is.length ci, .slice Ap ps.length cp, .slice An ns.length cn, .slice Ac cs.length cc, .slice Al ls.length cl, .int .i64 c, .int .i64 e]] u) (fun i _ => ps.length - (intOf i).toNat)
      case atStart => exact ⟨0, Nat.zero_le _, rfl, rfl, hO⟩
      case round =>
        clear hO
        obtain ⟨m, hm, rfl, hal, hO⟩ := hrel
        by_cases hlt : m < ps.length
        · have hp := ih _ (List.getElem_mem hlt)
          have hps := szL_memG hzp hlt
          have HS := Lib.hid (pvL_succ hlt)
          have HF := Lib.hid (fun he => pvL_false (l := ps) hlt he)
          obtain ⟨x, hx⟩ : ∃ x, ps[m]'hlt = x := ⟨_, rfl⟩
          obtain ⟨xk, xi, xp, xn, xc, xl, xo, xe⟩ := x
          obtain ⟨b, off, rfl, hb, Bi, Bp, Bn, Bc, Bl, di, dp, dn, dc, dl, hrd, c0, c1, c2, c3, c4, c5, c6, c7⟩ := h2.ptc hO.below hlt hx
          rw [hx] at hp hps HS HF
          clear hx
          have CP := fun u hu => hp [.int .i64 xk, .slice Bi xi.length di, .slice Bp xp.length dp, .slice Bn xn.length dn, .slice Bc xc.length dc, .slice Bl xl.length dl, .int .i64 xo, .int .i64 xe] u hu hps
          obtain ⟨z, hzz⟩ : ∃ z, pvB (.mk xk xi xp xn xc xl xo xe) = z := ⟨_, rfl⟩
          rw [hzz] at HS HF CP
          clear hzz hp
          cases z with
          | false =>
            have HR := Lib.hid (HF.out rfl)
            go_wp2_with (first | ((with_reducible refine zac ?_); refine zal rfl hO rfl ?_; (refine nm 1 rfl ?_; clear hO; intro b1 u hO); simp only [zL, zK] at hO) | ((with_reducible refine zaa ?_); refine zlb rfl hO rfl _ (by (first | exact at0 | exact at1 | fail)) ?_) | ((with_reducible refine zab ?_); refine zsb rfl hO rfl _ (by exact at1) rfl ?_; clear hO; intro u hO; simp only [zC, zB] at hO) | fail)
            refine (CP _ (hrd.grow hO.below)).mono ?_
            rintro e u ⟨rfl, hb⟩
            (replace hO := hO.step hb; clear hb)
            go_wp2_with fail
            go_ret
            exact ⟨zap (by rw [HE.out, HR.out]; rfl), hO.below⟩
          | true =>
            go_wp2_with (first | ((with_reducible refine zac ?_); refine zal rfl hO rfl ?_; (refine nm 1 rfl ?_; clear hO; intro b1 u hO); simp only [zL, zK] at hO) | ((with_reducible refine zaa ?_); refine zlb rfl hO rfl _ (by (first | exact at0 | exact at1 | fail)) ?_) | ((with_reducible refine zab ?_); refine zsb rfl hO rfl _ (by exact at1) rfl ?_; clear hO; intro u hO; simp only [zC, zB] at hO) | fail)
            refine (CP _ (hrd.grow hO.below)).mono ?_
            rintro e u ⟨rfl, hb⟩
            (replace hO := hO.step hb; clear hb)
            go_wp2_with fail
            replace hO := hO.pick [0] (by decide)
            simp only [zN, zO, zE, zD] at hO
            go_roundw
            case rel => exact ⟨m + 1, by omega, by go_num, by show _ = _; rw [HS.out, hal.out]; rfl, hO⟩
            case measure => simp [intOf]; omega
        · have hmn : m = ps.length := by omega
          subst hmn
          rw [List.take_length] at hal
          go_wp2_with fail
          go_ret
          exact ⟨zap (by rw [HE.out, hal.out]; rfl), hO.below⟩

theorem impl_isVecG (t : VT) (vs : List Value) (w : World) (hv : RdV w t vs) (hz : szV t ≤ 268435456) : Calls Tryz.prog 18 #[.agg vs.toArray] w fun e w' => e = .returned (.bool (isV t)) ∧ Below w.heap.size w w' := by
  rw [← isVI_eq]
  have HE : Hid (isVI t = (decide (nestV t 4 ≤ 3) && pvB t && decide (cellsV t ≤ 200))) := Lib.hid rfl
  have CN : ∀ u, Below w.heap.size w u → Calls Tryz.prog 54 #[.agg vs.toArray, .int .i64 4] u fun e w' => e = .returned (.int .i64 (nestV t 4 : Int)) ∧ Below u.heap.size u w' := fun u hb => impl_nest t vs 4 u (by omega) (hv.grow hb) hz
  have CP := fun u (hb : Below w.heap.size w u) => impl_parts t vs u (hv.grow hb) hz
  have CC := fun u (hb : Below w.heap.size w u) => impl_cells t vs u (hv.grow hb) hz
  obtain ⟨a, ha⟩ : ∃ a, nestV t 4 = a := ⟨_, rfl⟩
  obtain ⟨b, hb⟩ : ∃ a, pvB t = a := ⟨_, rfl⟩
  obtain ⟨c, hc⟩ : ∃ a, cellsV t = a := ⟨_, rfl⟩
  rw [ha] at CN HE
  rw [hb] at CP HE
  rw [hc] at CC HE
  clear ha hb hc
  obtain ⟨xk, xi, xp, xn, xc, xl, xo, xe⟩ := t
  obtain ⟨Ai, Ap, An, Ac, Al, ci, cp, cn, cc, cl, pvs, rfl, h1, h2, h3, h4, h5⟩ := hv.open
  clear h1 h2 h3 h4 h5 hv hz
  by_cases g1 : a ≤ 3
  · have g3 : (a : Int) ≤ 3 := by omega
    cases b with
    | false =>
      go_enter Tryz.func18, Tryz.ntmps18
      have hO := Own.nil w
      go_wp2_with (first | ((with_reducible refine (CN _ hO.below).mono ?_); rintro e u ⟨rfl, hb⟩; (replace hO := hO.step hb; clear hb)) | ((with_reducible refine (CP _ hO.below).mono ?_); rintro e u ⟨rfl, hb⟩; (replace hO := hO.step hb; clear hb)) | ((with_reducible refine zad ?_); refine zbx rfl hO rfl rfl ?_; (refine nm 0 rfl ?_; clear hO; intro b0 u hO); simp only [zL, zK] at hO) | ((with_reducible refine zaa ?_); refine zlb rfl hO rfl _ (by exact at0) ?_) | fail)
      go_ret
      exact ⟨zap (by rw [HE.out, Bool.and_false]; rfl), hO.below⟩
    | true =>
      have D1 := Lib.hid (decide_eq_true g1)
      by_cases g2 : c ≤ 200
      · have D2 := Lib.hid (decide_eq_true g2)
        go_enter Tryz.func18, Tryz.ntmps18
        have hO := Own.nil w
        go_wp2_with (first | ((with_reducible refine (CN _ hO.below).mono ?_); rintro e u ⟨rfl, hb⟩; (replace hO := hO.step hb; clear hb)) | ((with_reducible refine (CP _ hO.below).mono ?_); rintro e u ⟨rfl, hb⟩; (replace hO := hO.step hb; clear hb)) | ((with_reducible refine (CC _ hO.below).mono ?_); rintro e u ⟨rfl, hb⟩; (replace hO := hO.step hb; clear hb)) | ((with_reducible refine zad ?_); refine zbx rfl hO rfl rfl ?_; (refine nm 0 rfl ?_; clear hO; intro b0 u hO); simp only [zL, zK] at hO) | ((with_reducible refine zaa ?_); refine zlb rfl hO rfl _ (by exact at0) ?_) | fail)
        go_ret
        exact ⟨zap (by rw [HE.out, D1.out, D2.out]; first | rfl | (simp; done) | (simp; omega)), hO.below⟩
      · have D2 := Lib.hid (decide_eq_false g2)
        go_enter Tryz.func18, Tryz.ntmps18
        have hO := Own.nil w
        go_wp2_with (first | ((with_reducible refine (CN _ hO.below).mono ?_); rintro e u ⟨rfl, hb⟩; (replace hO := hO.step hb; clear hb)) | ((with_reducible refine (CP _ hO.below).mono ?_); rintro e u ⟨rfl, hb⟩; (replace hO := hO.step hb; clear hb)) | ((with_reducible refine (CC _ hO.below).mono ?_); rintro e u ⟨rfl, hb⟩; (replace hO := hO.step hb; clear hb)) | ((with_reducible refine zad ?_); refine zbx rfl hO rfl rfl ?_; (refine nm 0 rfl ?_; clear hO; intro b0 u hO); simp only [zL, zK] at hO) | ((with_reducible refine zaa ?_); refine zlb rfl hO rfl _ (by exact at0) ?_) | fail)
        go_ret
        exact ⟨zap (by rw [HE.out, D1.out, D2.out]; first | rfl | (simp; done) | (simp; omega)), hO.below⟩
  · have D1 := Lib.hid (decide_eq_false g1)
    have g3 : decide ((a : Int) ≤ 3) = false := decide_eq_false (by omega)
    go_enter Tryz.func18, Tryz.ntmps18
    have hO := Own.nil w
    go_wp2_with (first | ((with_reducible refine (CN _ hO.below).mono ?_); rintro e u ⟨rfl, hb⟩; (replace hO := hO.step hb; clear hb)) | ((with_reducible refine zad ?_); refine zbx rfl hO rfl rfl ?_; (refine nm 0 rfl ?_; clear hO; intro b0 u hO); simp only [zL, zK] at hO) | ((with_reducible refine zaa ?_); refine zlb rfl hO rfl _ (by exact at0) ?_) | fail)
    go_ret
    exact ⟨zap (by rw [HE.out, D1.out]; rfl), hO.below⟩

theorem impl_isVec (t : VT) (vs : List Value) (w : World) (hv : RdV w t vs) (hz : szV t ≤ 1048576) : Calls Tryz.prog 18 #[.agg vs.toArray] w fun e w' => e = .returned (.bool (isV t)) ∧ Below w.heap.size w w' := impl_isVecG t vs w hv (Nat.le_trans hz (by decide))

end

section

open Go.RowKit Go.ChangeShapes Go.WideShapes

set_option linter.unusedVariables false

set_option linter.unusedSimpArgs false

theorem item_den {k : Int} {x : It} (h : itemB k x = true) : misB x = decide (x.den = 0) := by
  unfold itemB at h
  cases hm : misB x with
  | true =>
    unfold misB at hm
    simp only [Bool.and_eq_true, decide_eq_true_eq] at hm
    simp [hm.1.2]
  | false =>
    rw [hm, Bool.false_or] at h
    symm
    rw [decide_eq_false_iff_not]
    intro h0
    split at h
    · simp [h0] at h
    · split at h
      · unfold isNumI Nm.isNum at h
        simp [h0] at h
      · split at h
        · simp [h0] at h
        · cases h

theorem itB_lis (k : Int) (ls : List ByteArray) (x : It) (hk : 1 ≤ k ∧ k ≤ 3) {nl : Nat} (hnl : ls.length = nl) {q : Bool}
    (hq : q = (!itemB k x || (decide (0 < nl) && !decide (x.den = 0) && (!decide (x.den = 1) || !inI x.num 1 nl)))) : itB k ls x = !q := by
  subst hnl
  unfold itB
  rw [hq, decide_eq_true hk, Bool.true_and]
  cases hi : itemB k x with
  | false => simp
  | true =>
    unfold levB
    rw [item_den hi, inI_eq]
    have z : decide (0 < ls.length) = !decide (ls.length = 0) := dec_not (by omega)
    rw [z]
    generalize decide (ls.length = 0) = a1
    generalize decide (x.den = 1) = a2
    generalize decide (x.den = 0) = a3
    generalize decide (1 ≤ x.num) = a4
    generalize decide (x.num ≤ (ls.length : Int)) = a5
    simp [Bool.not_and, Bool.not_or, Bool.and_assoc, Bool.or_assoc]

theorem lis_head (k : Int) (is : List It) (ps : List VT) (ns cs ls : List ByteArray) (c e : Int) {n ni np nn nc nl : Nat} (hn : lenN k ni np = n) (hni : is.length = ni) (hnp : ps.length = np) (hnn : ns.length = nn) (hnc : cs.length = nc) (hnl : ls.length = nl) {q2 q4 : Bool}
    (h2 : q2 = (!(inI k 0 5 && decide (n ≤ 40) && (decide (nn = 0) || decide (nn = n)) && namedB ns && labB 3 cs && labB 20 ls)))
    (h4 : q4 = ((!decide (k = 5) && (!decide (c = 0) || !decide (e = 0))) || ((!decide (k = 2) && decide (0 < nl)) || (!decide (k = 4) && decide (0 < np))))) :
    headB n k is ps ns cs ls c e = (!q2 && !q4 && (!decide (k = 5) || (decide (ni = 0) && decide (nn = 0) && inI c (-999) 99999 && inI e 0 99999)) && (!decide (k = 0) || (decide (n = 0) && decide (nc = 0)))) := by
  have h0 : k = 0 → q4 = false → decide (n = 0) = decide (ni = 0) := by
    intro hk hq
    subst hk
    rw [h4] at hq
    simp at hq
    have : np = 0 := hq.2.2
    subst this
    unfold lenN at hn
    simp at hn
    rw [← hn]
  subst hni hnp hnn hnc hnl
  unfold headB
  cases q4 with
  | true =>
    have z : ∀ m : Nat, decide (0 < m) = !decide (m = 0) := fun m => dec_not (by omega)
    rw [z, z] at h4
    rw [h2]
    revert h4
    clear h0
    generalize decide (ls.length = 0) = a9
    generalize decide (ps.length = 0) = b1
    generalize decide (k = 2) = b2
    generalize decide (k = 4) = b3
    generalize decide (k = 5) = b4
    generalize decide (c = 0) = b5
    generalize decide (e = 0) = b6
    intro h4
    have hx : ((a9 || b2) && (b1 || b3) && (b4 || b5 && b6)) = false := by
      revert h4
      revert a9 b1 b2 b3 b4 b5 b6
      decide
    have hr : ∀ x1 x2 x3 x4 x5 x6 y1 y2 y3 z1 z2 : Bool, (y1 && y2 && y3) = false → (x1 && x2 && x3 && x4 && x5 && x6 && y1 && y2 && y3 && z1 && z2) = false := by decide
    rw [hr _ _ _ _ _ _ _ _ _ _ _ hx]
    simp
  | false =>
    have z : ∀ m : Nat, decide (0 < m) = !decide (m = 0) := fun m => dec_not (by omega)
    rw [z, z] at h4
    rw [h2, inI_eq, inI_eq, inI_eq]
    unfold namedB
    have e1 : decide (0 ≤ k ∧ k ≤ 5) = (decide (0 ≤ k) && decide (k ≤ 5)) := Bool.decide_and ..
    have e2 : decide (-999 ≤ c ∧ c ≤ 99999) = (decide (-999 ≤ c) && decide (c ≤ 99999)) := Bool.decide_and ..
    have e3 : decide (0 ≤ e ∧ e ≤ 99999) = (decide (0 ≤ e) && decide (e ≤ 99999)) := Bool.decide_and ..
    rw [e1, e2, e3]
    have hk0 : (!decide (k = 0) || (decide (n = 0) && decide (cs.length = 0))) = (!decide (k = 0) || (decide (is.length = 0) && decide (cs.length = 0))) := by
      by_cases hk : k = 0
      · rw [h0 hk rfl]
      · simp [hk]
    rw [hk0]
    clear hk0 h0 hn h2 e1 e2 e3
    revert h4
    generalize decide (ls.length = 0) = a9
    generalize decide (ps.length = 0) = b1
    generalize decide (k = 2) = b2
    generalize decide (k = 4) = b3
    generalize decide (k = 5) = b4
    generalize decide (c = 0) = b5
    generalize decide (e = 0) = b6
    intro h4
    have hx : ((a9 || b2) && (b1 || b3) && (b4 || b5 && b6)) = true := by
      revert h4
      revert a9 b1 b2 b3 b4 b5 b6
      decide
    simp only [Bool.and_eq_true] at hx
    rw [hx.1.1, hx.1.2, hx.2]
    generalize decide (0 ≤ k) = a1
    generalize decide (k ≤ 5) = c9
    generalize decide (n ≤ 40) = a2
    generalize labB 3 cs = a3
    generalize labB 20 ls = a4
    generalize decide (ns.length = 0) = a5
    generalize decide (ns.length = n) = a6
    generalize allE ns = a7
    generalize zbk ns = a8
    generalize (!decide (k = 0) || (decide (is.length = 0) && decide (cs.length = 0))) = c1
    generalize (!b4 || (decide (is.length = 0) && a5 && (decide (-999 ≤ c) && decide (c ≤ 99999)) && (decide (0 ≤ e) && decide (e ≤ 99999)))) = c2
    clear hx h4
    revert a1 c9 a2 a3 a4 a5 a6 a7 a8 c1 c2
    decide

def PLis (t : VT) : Prop := ∀ (vs : List Value) (q : Nat) (w : World), q ≤ 3 → RdV w t vs → szV t ≤ 268435456 → Calls Tryz.prog 71 #[.agg vs.toArray, .int .i64 (q : Int)] w fun e w' => e = .returned (.bool (lB q t)) ∧ Below w.heap.size w w'

set_option maxRecDepth 100000 in
set_option maxHeartbeats 4000000 in
theorem spec_lis (t : VT) : PLis t := by
  induction t using VT.ind with
  | _ k is ps ns cs ls c e ih =>
  intro vs q w hq hv hz
  obtain ⟨hzp, hzn⟩ := szV_partsG hz
  obtain ⟨Ai, Ap, An, Ac, Al, ci, cp, cn, cc, cl, pvs, rfl, h1, h2, h3, h4, h5⟩ := hv.open
  have HT : szV (.mk k is ps ns cs ls c e) = szI is + szL ps + szS ns + szS cs + szS ls := rfl
  have hz' := szL_eq ps
  unfold szI szS at HT
  have z2 : itz is ≤ 268435456 := by omega
  have z3 : ns.length ≤ 268435456 := by omega
  have z4 : cs.length ≤ 268435456 := by omega
  have z5 : ls.length ≤ 268435456 := by omega
  clear HT hv hz hz'
  have HE : Hid (lB q (.mk k is ps ns cs ls c e) = (headB (lenN k is.length ps.length) k is ps ns cs ls c e && is.all (itB k ls) && lL q ps)) := Lib.hid (by simp only [lB]; rw [nodeB_eq])
  have C4 : ∀ u, Below w.heap.size w u → Calls Tryz.prog 96 #[.slice Ac cs.length cc, .int .i64 3] u fun e w' => e = .returned (.bool (labB 3 cs)) ∧ u = w' := fun u hb => spec_labels 3 (by omega) Ac cc cs u (h4.below hb) (by omega)
  have C5 : ∀ u, Below w.heap.size w u → Calls Tryz.prog 96 #[.slice Al ls.length cl, .int .i64 20] u fun e w' => e = .returned (.bool (labB 20 ls)) ∧ u = w' := fun u hb => spec_labels 20 (by omega) Al cl ls u (h5.below hb) (by omega)
  have C3 := fun u (hb : Below w.heap.size w u) => spec_named An cn ns u (h3.below hb) (by omega)
  obtain ⟨n, hn⟩ : ∃ n, lenN k is.length ps.length = n := ⟨_, rfl⟩
  have CL := fun u => spec_len k Ai Ap is.length ps.length ci cp (.slice An ns.length cn) (.slice Ac cs.length cc) (.slice Al ls.length cl) (.int .i64 c) (.int .i64 e) u (by omega)
  rw [hn] at CL HE
  have hn2 : n ≤ 268435457 := by rw [← hn]; unfold lenN; split <;> omega
  obtain ⟨ni, hni⟩ : ∃ m, is.length = m := ⟨_, rfl⟩
  obtain ⟨np, hnp⟩ : ∃ m, ps.length = m := ⟨_, rfl⟩
  obtain ⟨nn, hnn⟩ : ∃ m, ns.length = m := ⟨_, rfl⟩
  obtain ⟨nc, hnc⟩ : ∃ m, cs.length = m := ⟨_, rfl⟩
  obtain ⟨nl, hnl⟩ : ∃ m, ls.length = m := ⟨_, rfl⟩
  have HQ := Lib.hid (fun (q2 q4 : Bool) h2 h4 => lis_head k is ps ns cs ls c e (n := n) (by rw [← hni, ← hnp]; exact hn) hni hnp hnn hnc hnl (q2 := q2) (q4 := q4) h2 h4)
  have HIT := Lib.hid (fun x (hk : 1 ≤ k ∧ k ≤ 3) (q16 : Bool) h16 => itB_lis k ls x hk hnl (q := q16) h16)
  rw [hni, hnp, hnn, hnc, hnl] at CL
  rw [hnn] at C3 h3 z3
  rw [hnc] at C4 h4 z4
  rw [hnl] at C5 h5 z5
  rw [hni] at h1 hzn
  rw [hnp] at hzn
  rw [hni, hnp, hnn, hnc, hnl]
  have HLi := Lib.hid hni
  have HLp := Lib.hid hnp
  have HNN : Hid (lenN k ni np = n) := Lib.hid (by rw [← hni, ← hnp]; exact hn)
  clear hni hnp hnn hnc hnl hn
  obtain ⟨hB, hhB⟩ : ∃ m, headB n k is ps ns cs ls c e = m := ⟨_, rfl⟩
  rw [hhB] at HQ HE
  clear hhB
  go_enter Tryz.func71, Tryz.ntmps71
  have hO := Own.nil w
  go_upto_region 2 with (first | ((with_reducible refine (CL _).mono ?_); rintro e u ⟨rfl, hb⟩; (replace hO := hO.step hb; clear hb)) | ((with_reducible refine zad ?_); refine zbx rfl hO rfl rfl ?_; (refine nm 0 rfl ?_; clear hO; intro b0 u hO); simp only [zL, zK] at hO) | ((with_reducible refine zaa ?_); refine zlb rfl hO rfl _ (by exact at0) ?_) | fail)
  refine lis_r2 C4 C5 C3 (by omega) hO ?_
  clear hO
  intro c' x11 x12 x13 x14 x15 x16 x17 x18 x19 x20 x21 x22 x23 x24 x25 x26 x27 x28 x29 x30 x31 x32 x33 x34 x35 x36 x37 x38 x39 x40 x41 x42 x43 x44 x45 x46 x47 x48 u hc' hO
  have H2 := Lib.hid hc'
  clear hc' C4 C5 C3
  cases c' with
  | true =>
    have HR := Lib.hid (HQ.out _ _ H2.out rfl)
    go_wp2_with fail
    go_ret
    exact ⟨zap (by rw [HE.out, HR.out]; rfl), hO.below⟩
  | false =>
  go_upto_region 4 with fail
  refine lis_r4 hO ?_
  clear hO
  intro c' x50 x51 x52 x53 x54 x55 x56 x57 x58 x59 x60 x61 x62 x63 x64 x65 x66 x67 x68 x69 x70 x71 x72 x73 x74 x75 x76 x77 x78 x79 x80 x81 x82 x83 u hc' hO
  have H4 := Lib.hid hc'
  clear hc'
  have HR := Lib.hid (HQ.out _ _ H2.out H4.out)
  have HK : Hid (0 ≤ k ∧ k ≤ 5) := Lib.hid (by have h := H2.out; rw [inI_eq] at h; simp at h; omega)
  clear HQ H2
  cases c' with
  | true =>
    go_wp2_with fail
    go_ret
    exact ⟨zap (by rw [HE.out, HR.out]; rfl), hO.below⟩
  | false =>
  by_cases k5 : k = 5
  · have k5' : (k == 5) = true := by simp [k5]
    have HNP : Hid (np = 0) := Lib.hid (by have := H4.out; rw [k5] at this; first | (simp at this; done) | (simp at this; omega))
    have K5 := Lib.hid k5
    clear k5
    go_upto_region 7 with (first | ((with_reducible refine zaa ?_); refine zlf rfl hO rfl _ (by exact at0) ?_) | fail)
    refine lis_r7 hO ?_
    clear hO
    intro c' x88 x89 x90 x91 x92 x93 x94 x95 x96 x97 x98 x99 x100 x101 x102 x103 x104 x105 x106 x107 u hc' hO
    go_wp2_with fail
    go_ret
    refine ⟨zap ?_, hO.below⟩
    rw [hc', HE.out, HR.out, K5.out]
    have hps : ps = [] := List.length_eq_zero_iff.1 (by rw [HLp.out]; exact HNP.out)
    rw [hps]
    by_cases h0 : ni = 0
    · have his : is = [] := List.length_eq_zero_iff.1 (by rw [HLi.out]; exact h0)
      rw [his]
      simp [lL]
    · simp [h0]
  · have k5' : (k == 5) = false := by simp [k5]
    have K5 := Lib.hid k5
    clear k5
    by_cases k0 : k = 0
    · have k0' : (k == 0) = true := by simp [k0]
      have HNP : Hid (np = 0) := Lib.hid (by have := H4.out; rw [k0] at this; first | (simp at this; done) | (simp at this; omega))
      have K0 := Lib.hid k0
      clear k0
      go_upto_region 9 with (first | ((with_reducible refine zaa ?_); refine zlf rfl hO rfl _ (by exact at0) ?_) | fail)
      refine lis_r9 hO ?_
      clear hO
      intro c' x111 x112 x113 x114 x115 x116 x117 x118 u hc' hO
      go_wp2_with fail
      go_ret
      refine ⟨zap ?_, hO.below⟩
      rw [hc', HE.out, HR.out, K0.out]
      have hps : ps = [] := List.length_eq_zero_iff.1 (by rw [HLp.out]; exact HNP.out)
      rw [hps]
      by_cases h0 : n = 0
      · by_cases h9 : nc = 0
        · have hni : ni = 0 := by
            have h7 := HNN.out
            rw [K0.out] at h7
            unfold lenN at h7
            simp at h7
            omega
          have his : is = [] := List.length_eq_zero_iff.1 (by rw [HLi.out]; exact hni)
          rw [his]
          simp [lL, h0, h9]
        · simp [h9]
      · simp [h0]
    · have k0' : (k == 0) = false := by simp [k0]
      have HB : Hid (hB = true) := Lib.hid (by rw [HR.out, decide_eq_false K5.out, decide_eq_false k0]; rfl)
      have K0 := Lib.hid k0
      clear k0 HR
      go_upto_region 10 with (first | ((with_reducible refine zaa ?_); refine zlf rfl hO rfl _ (by exact at0) ?_) | fail)
      refine lis_r10 hO ?_
      clear hO
      intro c' x119 x120 x121 x122 x123 x124 x125 x126 u hc' hO
      have H10 := Lib.hid hc'
      clear hc'
      cases c' with
      | true =>
        have hk4 : k = 4 ∧ 0 < ni := by have := H10.out; simp at this; exact this
        have HA : Hid (is.all (itB k ls) = false) := Lib.hid (by
          have hlt : 0 < is.length := by rw [HLi.out]; exact hk4.2
          refine all_false hlt ?_
          unfold itB
          rw [hk4.1]
          rfl)
        clear hk4
        go_wp2_with fail
        go_ret
        exact ⟨zap (by rw [HE.out, HA.out, Bool.and_false]; rfl), hO.below⟩
      | false =>
      go_wp2_with fail
      go_loopw [6] (fun i u => ∃ m : Nat, m ≤ ni ∧ i = .int .i64 m ∧ Hid ((is.take m).all (itB k ls) = true) ∧ Own w [box b0 28 [.int .i64 k, .slice Ai ni ci, .slice Ap np cp, .slice An nn cn, .slice Ac nc cc, .slice Al nl cl, .int .i64 c, .int .i64 e]] u) (fun i _ => ni - (intOf i).toNat)
      case atStart => exact ⟨0, Nat.zero_le _, rfl, rfl, hO⟩
      case round =>
        clear hO
        obtain ⟨m, hm, rfl, hal, hO⟩ := hrel
        by_cases hlt : m < ni
        · have hk3 : 1 ≤ k ∧ k ≤ 3 := by
            have hk4 : k ≠ 4 := by
              intro h
              have := H10.out
              rw [h] at this
              simp at this
              omega
            have := HK.out
            have := K5.out
            have := K0.out
            omega
          have hml : m < is.length := by rw [HLi.out]; exact hlt
          have hsz := Nat.le_trans (itz_mem hml) z2
          obtain ⟨x, hx⟩ : ∃ x, is[m]'hml = x := ⟨_, rfl⟩
          obtain ⟨g, off, rfl, hg, d0, d1, d2⟩ := Sl.itn h1 hO.below hlt hml hx
          have HT := Lib.hid (all_take (f := itB k ls) hml)
          have HF := Lib.hid (fun he => all_false (f := itB k ls) hml he)
          rw [hx] at HT HF hsz
          have HI := Lib.hid (HIT.out x hk3)
          clear hx hml hk3
          have CI := fun u => spec_item k x.num x.den x.text u (by unfold maxLen; omega)
          obtain ⟨xn, xd, xt⟩ := x
          simp only at d0 d1 d2 CI
          obtain ⟨qb, hqb⟩ : ∃ z, itemB k ⟨xn, xd, xt⟩ = z := ⟨_, rfl⟩
          rw [hqb] at HI CI
          clear hqb hsz
          go_upto_region 16 with (first | ((with_reducible refine zac ?_); refine zal rfl hO rfl ?_; (refine nm 1 rfl ?_; clear hO; intro b1 u hO); simp only [zL, zK] at hO) | ((with_reducible refine zaa ?_); refine zlf rfl hO rfl _ (by exact at0) ?_) | ((with_reducible refine zab ?_); refine zsb rfl hO rfl _ (by exact at1) rfl ?_; clear hO; intro u hO; simp only [zC, zB] at hO) | fail)
          clear d0 d1 d2
          refine lis_r16 CI hO ?_
          clear hO
          intro c' x140 x141 x142 x143 x144 x145 x146 x147 x148 x149 x150 x151 x152 x153 x154 x155 x156 x157 x158 x159 x160 x161 x162 x163 x164 x165 x166 x167 x168 u hc' hO
          have HR := Lib.hid (HI.out _ hc')
          clear hc'
          cases c' with
          | true =>
            have HS := Lib.hid (HF.out (by rw [HR.out]; rfl))
            go_wp2_with fail
            go_ret
            exact ⟨zap (by rw [HE.out, HS.out, Bool.and_false]; rfl), hO.below⟩
          | false =>
          replace hO := hO.pick [0] (by decide)
          simp only [zN, zO, zE, zD] at hO
          go_wp2_with fail
          go_roundw
          case rel => exact ⟨m + 1, by omega, by go_num, by show _ = _; rw [HT.out, hal.out, HR.out]; rfl, hO⟩
          case measure => simp [intOf]; omega
        · have hmn : m = ni := by omega
          have HS : Hid (is.all (itB k ls) = true) := Lib.hid (by rw [← hal.out, List.take_of_length_le (by rw [HLi.out]; omega)])
          clear hal h1
          obtain rfl : ni = m := hmn.symm
          clear hmn HIT
          go_wp2_with (first | ((with_reducible refine zaa ?_); refine zlf rfl hO rfl _ (by exact at0) ?_) | fail)
          go_loopw [8] (fun i u => ∃ m : Nat, m ≤ np ∧ i = .int .i64 m ∧ Hid (lL q (ps.take m) = true) ∧ Own w [box b0 28 [.int .i64 k, .slice Ai ni ci, .slice Ap np cp, .slice An nn cn, .slice Ac nc cc, .slice Al nl cl, .int .i64 c, .int .i64 e]] u) (fun i _ => np - (intOf i).toNat)
          case atStart => exact ⟨0, Nat.zero_le _, rfl, rfl, hO⟩
          case round =>
            clear hO
            obtain ⟨m, hm, rfl, hal, hO⟩ := hrel
            by_cases hlt : m < np
            · have hml : m < ps.length := by rw [HLp.out]; exact hlt
              have hp := ih _ (List.getElem_mem hml)
              have hps := szL_memG hzp hml
              have HT := Lib.hid (lL_succ q hml)
              have HF := Lib.hid (fun he => lL_false (l := ps) (n := q) hml he)
              obtain ⟨x, hx⟩ : ∃ x, ps[m]'hml = x := ⟨_, rfl⟩
              obtain ⟨xk, xi, xp, xn, xc, xl, xo, xe⟩ := x
              obtain ⟨b, off, rfl, hb, Bi, Bp, Bn, Bc, Bl, di, dp, dn, dc, dl, hrd, d0, d1, d2, d3, d4, d5, d6, d7⟩ := h2.ptc hO.below hml hx
              rw [hx] at hp hps HT HF
              clear hx hml
              obtain ⟨pq, hpq⟩ : ∃ z, lB (q - 1) (.mk xk xi xp xn xc xl xo xe) = z := ⟨_, rfl⟩
              rw [hpq] at HT HF
              have CP : q ≠ 0 → ∀ u, Below w.heap.size w u → Calls Tryz.prog 71 #[.agg #[.int .i64 xk, .slice Bi xi.length di, .slice Bp xp.length dp, .slice Bn xn.length dn, .slice Bc xc.length dc, .slice Bl xl.length dl, .int .i64 xo, .int .i64 xe], .int .i64 ((q : Int) - 1)] u fun e w' => e = .returned (.bool pq) ∧ Below u.heap.size u w' := fun h0 u hu => by
                have h := hp _ (q - 1) u (by omega) (hrd.grow hu) hps
                rw [hpq, show (((q - 1 : Nat)) : Int) = (q : Int) - 1 by omega] at h
                exact h
              clear hpq hp hps hrd
              go_upto_region 21 with (first | ((with_reducible refine zaa ?_); refine zlf rfl hO rfl _ (by exact at0) ?_) | fail)
              refine lis_r21 hlt hq CP d0 d1 d2 d3 d4 d5 d6 d7 hO ?_
              clear hO
              intro c' x177 x178 x179 x180 x181 x182 x183 x184 x185 x186 x187 x188 u hc' hO
              clear d0 d1 d2 d3 d4 d5 d6 d7 CP
              have HC := Lib.hid hc'
              clear hc'
              cases c' with
              | true =>
                have HR := Lib.hid (HF.out (by
                  have h := HC.out
                  cases pq with
                  | false => exact .inr rfl
                  | true => simp at h; exact .inl h))
                go_wp2_with fail
                go_ret
                exact ⟨zap (by rw [HE.out, HR.out, Bool.and_false]), hO.below⟩
              | false =>
                have HR : Hid (lL q (ps.take (m + 1)) = true) := Lib.hid (by
                  have h := HC.out
                  rw [HT.out, hal.out]
                  cases pq with
                  | false => simp at h
                  | true => simpa using h)
                go_wp2_with fail
                go_roundw
                case rel => exact ⟨m + 1, by omega, by go_num, HR, hO⟩
                case measure => simp [intOf]; omega
            · have hmn : m = np := by omega
              have HS2 : Hid (lL q ps = true) := Lib.hid (by rw [← hal.out, List.take_of_length_le (by rw [HLp.out]; omega)])
              clear hal
              obtain rfl : np = m := hmn.symm
              go_wp2_with (first | ((with_reducible refine zaa ?_); refine zlf rfl hO rfl _ (by exact at0) ?_) | fail)
              go_ret
              exact ⟨zap (by rw [HE.out, HB.out, HS.out, HS2.out]; rfl), hO.below⟩

end

end Go.Proofs.YtmofcbpabdbjlaaGreat
