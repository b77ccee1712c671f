/-
  What is proved: single statements of the program's test of a vector's node, each by itself. what the program's test of a vector's node returns.
  Condition: none beyond those of the theorems.
-/
import Derived.Deep.Cut
import Derived.Test.YtmofcbpabdbjlaaGreatMz4
import Derived.Test.YtmofcbpabdbjlaaGreatMz10
namespace Go.Proofs.YtmofcbpabdbjlaaGreat

set_option maxRecDepth 8000

section

open Go.RowKit Go.ChangeShapes Go.WideShapes

set_option linter.unusedVariables false

set_option linter.unusedSimpArgs false

/-- a region of a function, by its number -/
def zbb (n : Nat) : Code → Option Code
  | .region id ops d => if id = n then some (.region id ops d) else none
  | .seq a b => match zbb n a with
    | some c => some c
    | none => zbb n b
  | .cond _ a b => match zbb n a with
    | some c => some c
    | none => zbb n b
  | .block _ c => zbb n c
  | .loop c => zbb n c
  | .scope c => zbb n c
  | _ => none

set_option maxRecDepth 100000 in
set_option maxHeartbeats 4000000 in
theorem shape_r2 {u0 u2 u4 u5 u6 u7 u8 u9 u10 u11 u12 u13 u14 u15 u16 u17 u18 u19 u20 u21 u22 u23 u24 u25 u26 u27 u28 u29 u30 u31 u32 u33 u34 u35 u36 u37 u38 u39 u40 u41 u42 u43 u44 u45 u46 u47 u48 u49 u50 u51 u52 u53 u54 u55 u56 u57 u58 u59 u60 u61 u62 u63 u64 u65 u66 u67 u68 u69 u70 u71 u72 u73 u74 u75 u76 u77 u78 u79 u80 u81 u82 u83 u84 u85 u86 u87 u88 u89 u90 u91 u92 u93 u94 u95 u96 u97 u98 u99 u100 u101 u102 u103 u104 u105 u106 u107 u108 u109 u110 u111 u112 u113 u114 u115 u116 u117 u118 u119 u120 u121 u122 u123 u124 u125 u126 u127 u128 u129 u130 u131 u132 u133 u134 u135 u136 u137 u138 u139 u140 u141 u142 u143 u144 u145 u146 u147 u148 u149 u150 u151 u152 u153 u154 u155 u156 u157 u158 u159 u160 u161 u162 u163 u164 u165 u166 u167 u168 u169 u170 u171 u172 u173 u174 u175 u176 u177 u178 u179 u180 u181 u182 u183 u184 u185 u186 u187 u188 : Value} {w0 wc : World} {b0 n : Nat} {k : Int} {b3 b20 : Bool} {nc nl cc cl : Nat} {Ac Al : Option Addr} {v1 v2 v3 v6 v7 : Value} (C4 : ∀ u, Below w0.heap.size w0 u → Calls Tryz.prog 106 #[.slice Ac nc cc, .int .i64 3] u fun e w' => e = .returned (.bool b3) ∧ u = w') (C5 : ∀ u, Below w0.heap.size w0 u → Calls Tryz.prog 106 #[.slice Al nl cl, .int .i64 20] u fun e w' => e = .returned (.bool b20) ∧ u = w') (hn : n ≤ 9223372036854775807) (hO : Own w0 [box b0 28 [.int .i64 k, v1, v2, v3, .slice Ac nc cc, .slice Al nl cl, v6, v7]] wc) {J : Act → World → Prop} {Q' : Exit → Act → World → Prop}
    (hJ : ∀ (c' : Bool) (x10 x11 x12 x13 x14 x15 x16 x17 x18 x19 x20 x21 x22 x23 x24 x25 x26 x27 x28 x29 x30 x31 x32 : Value) (wx : World), c' = (!(decide (0 ≤ k ∧ k ≤ 5) && decide (n ≤ 40) && b3 && b20)) → Own w0 [box b0 28 [.int .i64 k, v1, v2, v3, .slice Ac nc cc, .slice Al nl cl, v6, v7]] wx → J ⟨(u0 :: .pointer (some ⟨b0, 0, none⟩) :: u2 :: .int .i64 (n : Int) :: u4 :: u5 :: u6 :: u7 :: u8 :: u9 :: x10 :: x11 :: x12 :: x13 :: x14 :: x15 :: x16 :: x17 :: x18 :: x19 :: x20 :: x21 :: x22 :: x23 :: x24 :: x25 :: x26 :: x27 :: x28 :: x29 :: x30 :: x31 :: x32 :: .bool c' :: u34 :: u35 :: u36 :: u37 :: u38 :: u39 :: u40 :: u41 :: u42 :: u43 :: u44 :: u45 :: u46 :: u47 :: u48 :: u49 :: u50 :: u51 :: u52 :: u53 :: u54 :: u55 :: u56 :: u57 :: u58 :: u59 :: u60 :: u61 :: u62 :: u63 :: u64 :: u65 :: u66 :: u67 :: u68 :: u69 :: u70 :: u71 :: u72 :: u73 :: u74 :: u75 :: u76 :: u77 :: u78 :: u79 :: u80 :: u81 :: u82 :: u83 :: u84 :: u85 :: u86 :: u87 :: u88 :: u89 :: u90 :: u91 :: u92 :: u93 :: u94 :: u95 :: u96 :: u97 :: u98 :: u99 :: u100 :: u101 :: u102 :: u103 :: u104 :: u105 :: u106 :: u107 :: u108 :: u109 :: u110 :: u111 :: u112 :: u113 :: u114 :: u115 :: u116 :: u117 :: u118 :: u119 :: u120 :: u121 :: u122 :: u123 :: u124 :: u125 :: u126 :: u127 :: u128 :: u129 :: u130 :: u131 :: u132 :: u133 :: u134 :: u135 :: u136 :: u137 :: u138 :: u139 :: u140 :: u141 :: u142 :: u143 :: u144 :: u145 :: u146 :: u147 :: u148 :: u149 :: u150 :: u151 :: u152 :: u153 :: u154 :: u155 :: u156 :: u157 :: u158 :: u159 :: u160 :: u161 :: u162 :: u163 :: u164 :: u165 :: u166 :: u167 :: u168 :: u169 :: u170 :: u171 :: u172 :: u173 :: u174 :: u175 :: u176 :: u177 :: u178 :: u179 :: u180 :: u181 :: u182 :: u183 :: u184 :: u185 :: u186 :: u187 :: u188 :: []).toArray, []⟩ wx) :
    Code.wp Tryz.prog (((Tryz.f88.body).bind (zbb 2)).getD .skip) (Exit.then J Q') ⟨(u0 :: .pointer (some ⟨b0, 0, none⟩) :: u2 :: .int .i64 (n : Int) :: u4 :: u5 :: u6 :: u7 :: u8 :: u9 :: u10 :: u11 :: u12 :: u13 :: u14 :: u15 :: u16 :: u17 :: u18 :: u19 :: u20 :: u21 :: u22 :: u23 :: u24 :: u25 :: u26 :: u27 :: u28 :: u29 :: u30 :: u31 :: u32 :: u33 :: u34 :: u35 :: u36 :: u37 :: u38 :: u39 :: u40 :: u41 :: u42 :: u43 :: u44 :: u45 :: u46 :: u47 :: u48 :: u49 :: u50 :: u51 :: u52 :: u53 :: u54 :: u55 :: u56 :: u57 :: u58 :: u59 :: u60 :: u61 :: u62 :: u63 :: u64 :: u65 :: u66 :: u67 :: u68 :: u69 :: u70 :: u71 :: u72 :: u73 :: u74 :: u75 :: u76 :: u77 :: u78 :: u79 :: u80 :: u81 :: u82 :: u83 :: u84 :: u85 :: u86 :: u87 :: u88 :: u89 :: u90 :: u91 :: u92 :: u93 :: u94 :: u95 :: u96 :: u97 :: u98 :: u99 :: u100 :: u101 :: u102 :: u103 :: u104 :: u105 :: u106 :: u107 :: u108 :: u109 :: u110 :: u111 :: u112 :: u113 :: u114 :: u115 :: u116 :: u117 :: u118 :: u119 :: u120 :: u121 :: u122 :: u123 :: u124 :: u125 :: u126 :: u127 :: u128 :: u129 :: u130 :: u131 :: u132 :: u133 :: u134 :: u135 :: u136 :: u137 :: u138 :: u139 :: u140 :: u141 :: u142 :: u143 :: u144 :: u145 :: u146 :: u147 :: u148 :: u149 :: u150 :: u151 :: u152 :: u153 :: u154 :: u155 :: u156 :: u157 :: u158 :: u159 :: u160 :: u161 :: u162 :: u163 :: u164 :: u165 :: u166 :: u167 :: u168 :: u169 :: u170 :: u171 :: u172 :: u173 :: u174 :: u175 :: u176 :: u177 :: u178 :: u179 :: u180 :: u181 :: u182 :: u183 :: u184 :: u185 :: u186 :: u187 :: u188 :: []).toArray, []⟩ wc := by
  conv => arg 2; whnf
  skip
  by_cases g0 : k < 0
  · go_wp2_with (first | ((with_reducible refine zaa ?_); refine zlf rfl hO rfl _ (by exact at0) ?_) | fail)
    exact hJ _ _ _ _ _ _ _ _ _ _ _ _ _ _ _ _ _ _ _ _ _ _ _ _ _ (by (simp; omega)) hO
  by_cases g1 : 5 < k
  · go_wp2_with (first | ((with_reducible refine zaa ?_); refine zlf rfl hO rfl _ (by exact at0) ?_) | fail)
    exact hJ _ _ _ _ _ _ _ _ _ _ _ _ _ _ _ _ _ _ _ _ _ _ _ _ _ (by (simp; omega)) hO
  by_cases g2 : 40 < n
  · go_wp2_with (first | ((with_reducible refine zaa ?_); refine zlf rfl hO rfl _ (by exact at0) ?_) | fail)
    exact hJ _ _ _ _ _ _ _ _ _ _ _ _ _ _ _ _ _ _ _ _ _ _ _ _ _ (by (simp; omega)) hO
  have g2' : n ≤ 40 := by omega
  have g1' : k ≤ 5 := by omega
  have g0' : 0 ≤ k := by omega
  clear g0 g1 g2
  cases b3 with
  | false =>
    go_wp2_with (first | ((with_reducible refine (C4 _ hO.below).mono ?_); rintro e u ⟨rfl, hb⟩; subst hb) | ((with_reducible refine zaa ?_); refine zag rfl (by (first | rfl | (simp only [Region.wanted, yielded, *]; go_simp; done) | fail)) hO rfl _ (by exact at0) (by rfl) (by simp only [Act.put, zA, zB, zC]; rfl) ?_) | fail)
    exact hJ _ _ _ _ _ _ _ _ _ _ _ _ _ _ _ _ _ _ _ _ _ _ _ _ _ (by (simp; done)) hO
  | true =>
    cases b20 with
    | false =>
      go_wp2_with (first | ((with_reducible refine (C4 _ hO.below).mono ?_); rintro e u ⟨rfl, hb⟩; subst hb) | ((with_reducible refine (C5 _ hO.below).mono ?_); rintro e u ⟨rfl, hb⟩; subst hb) | ((with_reducible refine zaa ?_); refine zag rfl (by (first | rfl | (simp only [Region.wanted, yielded, *]; go_simp; done) | fail)) hO rfl _ (by exact at0) (by rfl) (by simp only [Act.put, zA, zB, zC]; rfl) ?_) | fail)
      exact hJ _ _ _ _ _ _ _ _ _ _ _ _ _ _ _ _ _ _ _ _ _ _ _ _ _ (by (simp; done)) hO
    | true =>
      go_wp2_with (first | ((with_reducible refine (C4 _ hO.below).mono ?_); rintro e u ⟨rfl, hb⟩; subst hb) | ((with_reducible refine (C5 _ hO.below).mono ?_); rintro e u ⟨rfl, hb⟩; subst hb) | ((with_reducible refine zaa ?_); refine zag rfl (by (first | rfl | (simp only [Region.wanted, yielded, *]; go_simp; done) | fail)) hO rfl _ (by exact at0) (by rfl) (by simp only [Act.put, zA, zB, zC]; rfl) ?_) | fail)
      exact hJ _ _ _ _ _ _ _ _ _ _ _ _ _ _ _ _ _ _ _ _ _ _ _ _ _ (by (simp_all; done)) hO

set_option maxRecDepth 100000 in
set_option maxHeartbeats 4000000 in
theorem shape_r4 {u0 u2 u4 u5 u6 u7 u8 u9 u10 u11 u12 u13 u14 u15 u16 u17 u18 u19 u20 u21 u22 u23 u24 u25 u26 u27 u28 u29 u30 u31 u32 u33 u34 u35 u36 u37 u38 u39 u40 u41 u42 u43 u44 u45 u46 u47 u48 u49 u50 u51 u52 u53 u54 u55 u56 u57 u58 u59 u60 u61 u62 u63 u64 u65 u66 u67 u68 u69 u70 u71 u72 u73 u74 u75 u76 u77 u78 u79 u80 u81 u82 u83 u84 u85 u86 u87 u88 u89 u90 u91 u92 u93 u94 u95 u96 u97 u98 u99 u100 u101 u102 u103 u104 u105 u106 u107 u108 u109 u110 u111 u112 u113 u114 u115 u116 u117 u118 u119 u120 u121 u122 u123 u124 u125 u126 u127 u128 u129 u130 u131 u132 u133 u134 u135 u136 u137 u138 u139 u140 u141 u142 u143 u144 u145 u146 u147 u148 u149 u150 u151 u152 u153 u154 u155 u156 u157 u158 u159 u160 u161 u162 u163 u164 u165 u166 u167 u168 u169 u170 u171 u172 u173 u174 u175 u176 u177 u178 u179 u180 u181 u182 u183 u184 u185 u186 u187 u188 : Value} {w0 wc : World} {b0 n nn cn : Nat} {ba : Bool} {An : Option Addr} {v0 v1 v2 v4 v5 v6 v7 : Value} (C3 : ∀ u, Below w0.heap.size w0 u → Calls Tryz.prog 107 #[.slice An nn cn] u fun e w' => e = .returned (.bool ba) ∧ u = w') (hO : Own w0 [box b0 28 [v0, v1, v2, .slice An nn cn, v4, v5, v6, v7]] wc) {J : Act → World → Prop} {Q' : Exit → Act → World → Prop}
    (hJ : ∀ (c' : Bool) (x34 x35 x36 x37 x38 x39 x40 x41 x42 x43 x44 x45 x46 x47 x48 : Value) (wx : World), c' = (decide (0 < nn) && (!decide (nn = n) || ba)) → Own w0 [box b0 28 [v0, v1, v2, .slice An nn cn, v4, v5, v6, v7]] wx → J ⟨(u0 :: .pointer (some ⟨b0, 0, none⟩) :: u2 :: .int .i64 (n : Int) :: u4 :: u5 :: u6 :: u7 :: u8 :: u9 :: u10 :: u11 :: u12 :: u13 :: u14 :: u15 :: u16 :: u17 :: u18 :: u19 :: u20 :: u21 :: u22 :: u23 :: u24 :: u25 :: u26 :: u27 :: u28 :: u29 :: u30 :: u31 :: u32 :: u33 :: x34 :: x35 :: x36 :: x37 :: x38 :: x39 :: x40 :: x41 :: x42 :: x43 :: x44 :: x45 :: x46 :: x47 :: x48 :: .bool c' :: u50 :: u51 :: u52 :: u53 :: u54 :: u55 :: u56 :: u57 :: u58 :: u59 :: u60 :: u61 :: u62 :: u63 :: u64 :: u65 :: u66 :: u67 :: u68 :: u69 :: u70 :: u71 :: u72 :: u73 :: u74 :: u75 :: u76 :: u77 :: u78 :: u79 :: u80 :: u81 :: u82 :: u83 :: u84 :: u85 :: u86 :: u87 :: u88 :: u89 :: u90 :: u91 :: u92 :: u93 :: u94 :: u95 :: u96 :: u97 :: u98 :: u99 :: u100 :: u101 :: u102 :: u103 :: u104 :: u105 :: u106 :: u107 :: u108 :: u109 :: u110 :: u111 :: u112 :: u113 :: u114 :: u115 :: u116 :: u117 :: u118 :: u119 :: u120 :: u121 :: u122 :: u123 :: u124 :: u125 :: u126 :: u127 :: u128 :: u129 :: u130 :: u131 :: u132 :: u133 :: u134 :: u135 :: u136 :: u137 :: u138 :: u139 :: u140 :: u141 :: u142 :: u143 :: u144 :: u145 :: u146 :: u147 :: u148 :: u149 :: u150 :: u151 :: u152 :: u153 :: u154 :: u155 :: u156 :: u157 :: u158 :: u159 :: u160 :: u161 :: u162 :: u163 :: u164 :: u165 :: u166 :: u167 :: u168 :: u169 :: u170 :: u171 :: u172 :: u173 :: u174 :: u175 :: u176 :: u177 :: u178 :: u179 :: u180 :: u181 :: u182 :: u183 :: u184 :: u185 :: u186 :: u187 :: u188 :: []).toArray, []⟩ wx) :
    Code.wp Tryz.prog (((Tryz.f88.body).bind (zbb 4)).getD .skip) (Exit.then J Q') ⟨(u0 :: .pointer (some ⟨b0, 0, none⟩) :: u2 :: .int .i64 (n : Int) :: u4 :: u5 :: u6 :: u7 :: u8 :: u9 :: u10 :: u11 :: u12 :: u13 :: u14 :: u15 :: u16 :: u17 :: u18 :: u19 :: u20 :: u21 :: u22 :: u23 :: u24 :: u25 :: u26 :: u27 :: u28 :: u29 :: u30 :: u31 :: u32 :: u33 :: u34 :: u35 :: u36 :: u37 :: u38 :: u39 :: u40 :: u41 :: u42 :: u43 :: u44 :: u45 :: u46 :: u47 :: u48 :: u49 :: u50 :: u51 :: u52 :: u53 :: u54 :: u55 :: u56 :: u57 :: u58 :: u59 :: u60 :: u61 :: u62 :: u63 :: u64 :: u65 :: u66 :: u67 :: u68 :: u69 :: u70 :: u71 :: u72 :: u73 :: u74 :: u75 :: u76 :: u77 :: u78 :: u79 :: u80 :: u81 :: u82 :: u83 :: u84 :: u85 :: u86 :: u87 :: u88 :: u89 :: u90 :: u91 :: u92 :: u93 :: u94 :: u95 :: u96 :: u97 :: u98 :: u99 :: u100 :: u101 :: u102 :: u103 :: u104 :: u105 :: u106 :: u107 :: u108 :: u109 :: u110 :: u111 :: u112 :: u113 :: u114 :: u115 :: u116 :: u117 :: u118 :: u119 :: u120 :: u121 :: u122 :: u123 :: u124 :: u125 :: u126 :: u127 :: u128 :: u129 :: u130 :: u131 :: u132 :: u133 :: u134 :: u135 :: u136 :: u137 :: u138 :: u139 :: u140 :: u141 :: u142 :: u143 :: u144 :: u145 :: u146 :: u147 :: u148 :: u149 :: u150 :: u151 :: u152 :: u153 :: u154 :: u155 :: u156 :: u157 :: u158 :: u159 :: u160 :: u161 :: u162 :: u163 :: u164 :: u165 :: u166 :: u167 :: u168 :: u169 :: u170 :: u171 :: u172 :: u173 :: u174 :: u175 :: u176 :: u177 :: u178 :: u179 :: u180 :: u181 :: u182 :: u183 :: u184 :: u185 :: u186 :: u187 :: u188 :: []).toArray, []⟩ wc := by
  conv => arg 2; whnf
  skip
  by_cases a6 : 0 < nn
  · by_cases a7 : nn = n
    · have a8 : ((nn : Int) != n) = false := by simp [a7]
      have A7 := Lib.hid a7
      clear a7
      cases ba
      · go_wp2_with (first | ((with_reducible refine (C3 _ hO.below).mono ?_); rintro e u ⟨rfl, hb⟩; subst hb) | ((with_reducible refine zaa ?_); refine zlf rfl hO rfl _ (by exact at0) ?_) | fail)
        exact hJ _ _ _ _ _ _ _ _ _ _ _ _ _ _ _ _ _ (by simp [A7.out]) hO
      · go_wp2_with (first | ((with_reducible refine (C3 _ hO.below).mono ?_); rintro e u ⟨rfl, hb⟩; subst hb) | ((with_reducible refine zaa ?_); refine zlf rfl hO rfl _ (by exact at0) ?_) | fail)
        exact hJ _ _ _ _ _ _ _ _ _ _ _ _ _ _ _ _ _ (by (simp; omega)) hO
    · have a8 : ((nn : Int) != n) = true := by rw [bne_iff_ne]; omega
      go_wp2_with (first | ((with_reducible refine zaa ?_); refine zlf rfl hO rfl _ (by exact at0) ?_) | fail)
      exact hJ _ _ _ _ _ _ _ _ _ _ _ _ _ _ _ _ _ (by (simp; omega)) hO
  · go_wp2_with (first | ((with_reducible refine zaa ?_); refine zlf rfl hO rfl _ (by exact at0) ?_) | fail)
    exact hJ _ _ _ _ _ _ _ _ _ _ _ _ _ _ _ _ _ (by (simp; omega)) hO

set_option maxRecDepth 100000 in
set_option maxHeartbeats 4000000 in
theorem shape_r12 {u0 u2 u3 u4 u5 u6 u7 u8 u9 u10 u11 u12 u13 u14 u15 u16 u17 u18 u19 u20 u21 u22 u23 u24 u25 u26 u27 u28 u29 u30 u31 u32 u33 u34 u35 u36 u37 u38 u39 u40 u41 u42 u43 u44 u45 u46 u47 u48 u49 u50 u51 u52 u53 u54 u55 u56 u57 u58 u59 u60 u61 u62 u63 u64 u65 u66 u67 u68 u69 u70 u71 u72 u73 u74 u75 u76 u77 u78 u79 u80 u81 u82 u83 u84 u85 u86 u87 u88 u89 u90 u91 u92 u93 u94 u95 u96 u97 u98 u99 u100 u101 u102 u103 u104 u105 u106 u107 u108 u109 u110 u111 u112 u113 u114 u115 u116 u117 u118 u119 u120 u121 u122 u123 u124 u125 u126 u127 u128 u129 u130 u131 u132 u133 u134 u135 u136 u137 u138 u139 u140 u141 u142 u143 u144 u145 u146 u147 u148 u149 u150 u151 u152 u153 u154 u155 u156 u157 u158 u159 u160 u161 u162 u163 u164 u165 u166 u167 u168 u169 u170 u171 u172 u173 u174 u175 u176 u177 u178 u179 u180 u181 u182 u183 u184 u185 u186 u187 u188 : Value} {w0 wc : World} {b0 : Nat} {k : Int} {ni np nl ci cp cl : Nat} {Ai Ap Al : Option Addr} {v3 v4 v6 v7 : Value} (hO : Own w0 [box b0 28 [.int .i64 k, .slice Ai ni ci, .slice Ap np cp, v3, v4, .slice Al nl cl, v6, v7]] wc) {J : Act → World → Prop} {Q' : Exit → Act → World → Prop}
    (hJ : ∀ (c' : Bool) (x61 x62 x63 x64 x65 x66 x67 x68 x69 x70 x71 x72 x73 x74 x75 x76 x77 x78 x79 : Value) (wx : World), c' = ((decide (0 < nl) && !decide (k = 2)) || (decide (0 < np) && !decide (k = 4))) → Own w0 [box b0 28 [.int .i64 k, .slice Ai ni ci, .slice Ap np cp, v3, v4, .slice Al nl cl, v6, v7]] wx → J ⟨(u0 :: .pointer (some ⟨b0, 0, none⟩) :: u2 :: u3 :: u4 :: u5 :: u6 :: u7 :: u8 :: u9 :: u10 :: u11 :: u12 :: u13 :: u14 :: u15 :: u16 :: u17 :: u18 :: u19 :: u20 :: u21 :: u22 :: u23 :: u24 :: u25 :: u26 :: u27 :: u28 :: u29 :: u30 :: u31 :: u32 :: u33 :: u34 :: u35 :: u36 :: u37 :: u38 :: u39 :: u40 :: u41 :: u42 :: u43 :: u44 :: u45 :: u46 :: u47 :: u48 :: u49 :: u50 :: u51 :: u52 :: u53 :: u54 :: u55 :: u56 :: u57 :: u58 :: u59 :: u60 :: x61 :: x62 :: x63 :: x64 :: x65 :: x66 :: x67 :: x68 :: x69 :: x70 :: x71 :: x72 :: x73 :: x74 :: x75 :: x76 :: x77 :: x78 :: x79 :: .bool c' :: u81 :: u82 :: u83 :: u84 :: u85 :: u86 :: u87 :: u88 :: u89 :: u90 :: u91 :: u92 :: u93 :: u94 :: u95 :: u96 :: u97 :: u98 :: u99 :: u100 :: u101 :: u102 :: u103 :: u104 :: u105 :: u106 :: u107 :: u108 :: u109 :: u110 :: u111 :: u112 :: u113 :: u114 :: u115 :: u116 :: u117 :: u118 :: u119 :: u120 :: u121 :: u122 :: u123 :: u124 :: u125 :: u126 :: u127 :: u128 :: u129 :: u130 :: u131 :: u132 :: u133 :: u134 :: u135 :: u136 :: u137 :: u138 :: u139 :: u140 :: u141 :: u142 :: u143 :: u144 :: u145 :: u146 :: u147 :: u148 :: u149 :: u150 :: u151 :: u152 :: u153 :: u154 :: u155 :: u156 :: u157 :: u158 :: u159 :: u160 :: u161 :: u162 :: u163 :: u164 :: u165 :: u166 :: u167 :: u168 :: u169 :: u170 :: u171 :: u172 :: u173 :: u174 :: u175 :: u176 :: u177 :: u178 :: u179 :: u180 :: u181 :: u182 :: u183 :: u184 :: u185 :: u186 :: u187 :: u188 :: []).toArray, []⟩ wx) :
    Code.wp Tryz.prog (((Tryz.f88.body).bind (zbb 12)).getD .skip) (Exit.then J Q') ⟨(u0 :: .pointer (some ⟨b0, 0, none⟩) :: u2 :: u3 :: u4 :: u5 :: u6 :: u7 :: u8 :: u9 :: u10 :: u11 :: u12 :: u13 :: u14 :: u15 :: u16 :: u17 :: u18 :: u19 :: u20 :: u21 :: u22 :: u23 :: u24 :: u25 :: u26 :: u27 :: u28 :: u29 :: u30 :: u31 :: u32 :: u33 :: u34 :: u35 :: u36 :: u37 :: u38 :: u39 :: u40 :: u41 :: u42 :: u43 :: u44 :: u45 :: u46 :: u47 :: u48 :: u49 :: u50 :: u51 :: u52 :: u53 :: u54 :: u55 :: u56 :: u57 :: u58 :: u59 :: u60 :: u61 :: u62 :: u63 :: u64 :: u65 :: u66 :: u67 :: u68 :: u69 :: u70 :: u71 :: u72 :: u73 :: u74 :: u75 :: u76 :: u77 :: u78 :: u79 :: u80 :: u81 :: u82 :: u83 :: u84 :: u85 :: u86 :: u87 :: u88 :: u89 :: u90 :: u91 :: u92 :: u93 :: u94 :: u95 :: u96 :: u97 :: u98 :: u99 :: u100 :: u101 :: u102 :: u103 :: u104 :: u105 :: u106 :: u107 :: u108 :: u109 :: u110 :: u111 :: u112 :: u113 :: u114 :: u115 :: u116 :: u117 :: u118 :: u119 :: u120 :: u121 :: u122 :: u123 :: u124 :: u125 :: u126 :: u127 :: u128 :: u129 :: u130 :: u131 :: u132 :: u133 :: u134 :: u135 :: u136 :: u137 :: u138 :: u139 :: u140 :: u141 :: u142 :: u143 :: u144 :: u145 :: u146 :: u147 :: u148 :: u149 :: u150 :: u151 :: u152 :: u153 :: u154 :: u155 :: u156 :: u157 :: u158 :: u159 :: u160 :: u161 :: u162 :: u163 :: u164 :: u165 :: u166 :: u167 :: u168 :: u169 :: u170 :: u171 :: u172 :: u173 :: u174 :: u175 :: u176 :: u177 :: u178 :: u179 :: u180 :: u181 :: u182 :: u183 :: u184 :: u185 :: u186 :: u187 :: u188 :: []).toArray, []⟩ wc := by
  conv => arg 2; whnf
  skip
  by_cases p1 : 0 < nl
  · by_cases p2 : k = 2
    · have p3 : (k != 2) = false := by simp [p2]
      have p5 : (k != 4) = true := by simp [p2]
      have P2 := Lib.hid p2
      clear p2
      by_cases p4 : 0 < np
      · go_wp2_with (first | ((with_reducible refine zaa ?_); refine zlf rfl hO rfl _ (by exact at0) ?_) | fail)
        exact hJ _ _ _ _ _ _ _ _ _ _ _ _ _ _ _ _ _ _ _ _ _ (by simp [P2.out]; omega) hO
      · go_wp2_with (first | ((with_reducible refine zaa ?_); refine zlf rfl hO rfl _ (by exact at0) ?_) | fail)
        exact hJ _ _ _ _ _ _ _ _ _ _ _ _ _ _ _ _ _ _ _ _ _ (by simp [P2.out]; omega) hO
    · have p3 : (k != 2) = true := by simp [p2]
      go_wp2_with (first | ((with_reducible refine zaa ?_); refine zlf rfl hO rfl _ (by exact at0) ?_) | fail)
      exact hJ _ _ _ _ _ _ _ _ _ _ _ _ _ _ _ _ _ _ _ _ _ (by (simp; omega)) hO
  · by_cases p4 : 0 < np
    · by_cases p2 : k = 4
      · have p3 : (k != 4) = false := by simp [p2]
        have P2 := Lib.hid p2
        clear p2
        go_wp2_with (first | ((with_reducible refine zaa ?_); refine zlf rfl hO rfl _ (by exact at0) ?_) | fail)
        exact hJ _ _ _ _ _ _ _ _ _ _ _ _ _ _ _ _ _ _ _ _ _ (by simp [P2.out]; omega) hO
      · have p3 : (k != 4) = true := by simp [p2]
        go_wp2_with (first | ((with_reducible refine zaa ?_); refine zlf rfl hO rfl _ (by exact at0) ?_) | fail)
        exact hJ _ _ _ _ _ _ _ _ _ _ _ _ _ _ _ _ _ _ _ _ _ (by (simp; omega)) hO
    · go_wp2_with (first | ((with_reducible refine zaa ?_); refine zlf rfl hO rfl _ (by exact at0) ?_) | fail)
      exact hJ _ _ _ _ _ _ _ _ _ _ _ _ _ _ _ _ _ _ _ _ _ (by (simp; omega)) hO

set_option maxRecDepth 100000 in
set_option maxHeartbeats 4000000 in
theorem shape_r14 {u0 u2 u3 u4 u5 u6 u7 u8 u9 u10 u11 u12 u13 u14 u15 u16 u17 u18 u19 u20 u21 u22 u23 u24 u25 u26 u27 u28 u29 u30 u31 u32 u33 u34 u35 u36 u37 u38 u39 u40 u41 u42 u43 u44 u45 u46 u47 u48 u49 u50 u51 u52 u53 u54 u55 u56 u57 u58 u59 u60 u61 u62 u63 u64 u65 u66 u67 u68 u69 u70 u71 u72 u73 u74 u75 u76 u77 u78 u79 u80 u81 u82 u83 u84 u85 u86 u87 u88 u89 u90 u91 u92 u93 u94 u95 u96 u97 u98 u99 u100 u101 u102 u103 u104 u105 u106 u107 u108 u109 u110 u111 u112 u113 u114 u115 u116 u117 u118 u119 u120 u121 u122 u123 u124 u125 u126 u127 u128 u129 u130 u131 u132 u133 u134 u135 u136 u137 u138 u139 u140 u141 u142 u143 u144 u145 u146 u147 u148 u149 u150 u151 u152 u153 u154 u155 u156 u157 u158 u159 u160 u161 u162 u163 u164 u165 u166 u167 u168 u169 u170 u171 u172 u173 u174 u175 u176 u177 u178 u179 u180 u181 u182 u183 u184 u185 u186 u187 u188 : Value} {w0 wc : World} {b0 : Nat} {k c e : Int} {v1 v2 v3 v4 v5 : Value} (hO : Own w0 [box b0 28 [.int .i64 k, v1, v2, v3, v4, v5, .int .i64 c, .int .i64 e]] wc) {J : Act → World → Prop} {Q' : Exit → Act → World → Prop}
    (hJ : ∀ (c' : Bool) (x81 x82 x83 x84 x85 x86 x87 x88 x89 x90 x91 x92 : Value) (wx : World), c' = (!decide (k = 5) && (!decide (c = 0) || !decide (e = 0))) → Own w0 [box b0 28 [.int .i64 k, v1, v2, v3, v4, v5, .int .i64 c, .int .i64 e]] wx → J ⟨(u0 :: .pointer (some ⟨b0, 0, none⟩) :: u2 :: u3 :: u4 :: u5 :: u6 :: u7 :: u8 :: u9 :: u10 :: u11 :: u12 :: u13 :: u14 :: u15 :: u16 :: u17 :: u18 :: u19 :: u20 :: u21 :: u22 :: u23 :: u24 :: u25 :: u26 :: u27 :: u28 :: u29 :: u30 :: u31 :: u32 :: u33 :: u34 :: u35 :: u36 :: u37 :: u38 :: u39 :: u40 :: u41 :: u42 :: u43 :: u44 :: u45 :: u46 :: u47 :: u48 :: u49 :: u50 :: u51 :: u52 :: u53 :: u54 :: u55 :: u56 :: u57 :: u58 :: u59 :: u60 :: u61 :: u62 :: u63 :: u64 :: u65 :: u66 :: u67 :: u68 :: u69 :: u70 :: u71 :: u72 :: u73 :: u74 :: u75 :: u76 :: u77 :: u78 :: u79 :: u80 :: x81 :: x82 :: x83 :: x84 :: x85 :: x86 :: x87 :: x88 :: x89 :: x90 :: x91 :: x92 :: .bool c' :: u94 :: u95 :: u96 :: u97 :: u98 :: u99 :: u100 :: u101 :: u102 :: u103 :: u104 :: u105 :: u106 :: u107 :: u108 :: u109 :: u110 :: u111 :: u112 :: u113 :: u114 :: u115 :: u116 :: u117 :: u118 :: u119 :: u120 :: u121 :: u122 :: u123 :: u124 :: u125 :: u126 :: u127 :: u128 :: u129 :: u130 :: u131 :: u132 :: u133 :: u134 :: u135 :: u136 :: u137 :: u138 :: u139 :: u140 :: u141 :: u142 :: u143 :: u144 :: u145 :: u146 :: u147 :: u148 :: u149 :: u150 :: u151 :: u152 :: u153 :: u154 :: u155 :: u156 :: u157 :: u158 :: u159 :: u160 :: u161 :: u162 :: u163 :: u164 :: u165 :: u166 :: u167 :: u168 :: u169 :: u170 :: u171 :: u172 :: u173 :: u174 :: u175 :: u176 :: u177 :: u178 :: u179 :: u180 :: u181 :: u182 :: u183 :: u184 :: u185 :: u186 :: u187 :: u188 :: []).toArray, []⟩ wx) :
    Code.wp Tryz.prog (((Tryz.f88.body).bind (zbb 14)).getD .skip) (Exit.then J Q') ⟨(u0 :: .pointer (some ⟨b0, 0, none⟩) :: u2 :: u3 :: u4 :: u5 :: u6 :: u7 :: u8 :: u9 :: u10 :: u11 :: u12 :: u13 :: u14 :: u15 :: u16 :: u17 :: u18 :: u19 :: u20 :: u21 :: u22 :: u23 :: u24 :: u25 :: u26 :: u27 :: u28 :: u29 :: u30 :: u31 :: u32 :: u33 :: u34 :: u35 :: u36 :: u37 :: u38 :: u39 :: u40 :: u41 :: u42 :: u43 :: u44 :: u45 :: u46 :: u47 :: u48 :: u49 :: u50 :: u51 :: u52 :: u53 :: u54 :: u55 :: u56 :: u57 :: u58 :: u59 :: u60 :: u61 :: u62 :: u63 :: u64 :: u65 :: u66 :: u67 :: u68 :: u69 :: u70 :: u71 :: u72 :: u73 :: u74 :: u75 :: u76 :: u77 :: u78 :: u79 :: u80 :: u81 :: u82 :: u83 :: u84 :: u85 :: u86 :: u87 :: u88 :: u89 :: u90 :: u91 :: u92 :: u93 :: u94 :: u95 :: u96 :: u97 :: u98 :: u99 :: u100 :: u101 :: u102 :: u103 :: u104 :: u105 :: u106 :: u107 :: u108 :: u109 :: u110 :: u111 :: u112 :: u113 :: u114 :: u115 :: u116 :: u117 :: u118 :: u119 :: u120 :: u121 :: u122 :: u123 :: u124 :: u125 :: u126 :: u127 :: u128 :: u129 :: u130 :: u131 :: u132 :: u133 :: u134 :: u135 :: u136 :: u137 :: u138 :: u139 :: u140 :: u141 :: u142 :: u143 :: u144 :: u145 :: u146 :: u147 :: u148 :: u149 :: u150 :: u151 :: u152 :: u153 :: u154 :: u155 :: u156 :: u157 :: u158 :: u159 :: u160 :: u161 :: u162 :: u163 :: u164 :: u165 :: u166 :: u167 :: u168 :: u169 :: u170 :: u171 :: u172 :: u173 :: u174 :: u175 :: u176 :: u177 :: u178 :: u179 :: u180 :: u181 :: u182 :: u183 :: u184 :: u185 :: u186 :: u187 :: u188 :: []).toArray, []⟩ wc := by
  conv => arg 2; whnf
  skip
  by_cases p1 : k = 5
  · have p3 : (k != 5) = false := by simp [p1]
    have P1 := Lib.hid p1
    clear p1
    go_wp2_with (first | ((with_reducible refine zaa ?_); refine zlf rfl hO rfl _ (by exact at0) ?_) | fail)
    exact hJ _ _ _ _ _ _ _ _ _ _ _ _ _ _ (by simp [P1.out]) hO
  · have p3 : (k != 5) = true := by simp [p1]
    by_cases p4 : c = 0
    · have p5 : (c != 0) = false := by simp [p4]
      have P4 := Lib.hid p4
      clear p4
      by_cases p6 : e = 0
      · have p7 : (e != 0) = false := by simp [p6]
        have P6 := Lib.hid p6
        clear p6
        go_wp2_with (first | ((with_reducible refine zaa ?_); refine zlf rfl hO rfl _ (by exact at0) ?_) | fail)
        exact hJ _ _ _ _ _ _ _ _ _ _ _ _ _ _ (by simp [P4.out, P6.out]) hO
      · have p7 : (e != 0) = true := by simp [p6]
        go_wp2_with (first | ((with_reducible refine zaa ?_); refine zlf rfl hO rfl _ (by exact at0) ?_) | fail)
        exact hJ _ _ _ _ _ _ _ _ _ _ _ _ _ _ (by (simp; omega)) hO
    · have p5 : (c != 0) = true := by simp [p4]
      go_wp2_with (first | ((with_reducible refine zaa ?_); refine zlf rfl hO rfl _ (by exact at0) ?_) | fail)
      exact hJ _ _ _ _ _ _ _ _ _ _ _ _ _ _ (by (simp; omega)) hO

set_option maxRecDepth 100000 in
set_option maxHeartbeats 4000000 in
theorem shape_r16 {u0 u2 u3 u4 u5 u6 u7 u8 u9 u10 u11 u12 u13 u14 u15 u16 u17 u18 u19 u20 u21 u22 u23 u24 u25 u26 u27 u28 u29 u30 u31 u32 u33 u34 u35 u36 u37 u38 u39 u40 u41 u42 u43 u44 u45 u46 u47 u48 u49 u50 u51 u52 u53 u54 u55 u56 u57 u58 u59 u60 u61 u62 u63 u64 u65 u66 u67 u68 u69 u70 u71 u72 u73 u74 u75 u76 u77 u78 u79 u80 u81 u82 u83 u84 u85 u86 u87 u88 u89 u90 u91 u92 u93 u94 u95 u96 u97 u98 u99 u100 u101 u102 u103 u104 u105 u106 u107 u108 u109 u110 u111 u112 u113 u114 u115 u116 u117 u118 u119 u120 u121 u122 u123 u124 u125 u126 u127 u128 u129 u130 u131 u132 u133 u134 u135 u136 u137 u138 u139 u140 u141 u142 u143 u144 u145 u146 u147 u148 u149 u150 u151 u152 u153 u154 u155 u156 u157 u158 u159 u160 u161 u162 u163 u164 u165 u166 u167 u168 u169 u170 u171 u172 u173 u174 u175 u176 u177 u178 u179 u180 u181 u182 u183 u184 u185 u186 u187 u188 : Value} {w0 wc : World} {b0 : Nat} {k c e : Int} {ni nn ci cn : Nat} {Ai An : Option Addr} {v2 v4 v5 : Value} (hO : Own w0 [box b0 28 [.int .i64 k, .slice Ai ni ci, v2, .slice An nn cn, v4, v5, .int .i64 c, .int .i64 e]] wc) {J : Act → World → Prop} {Q' : Exit → Act → World → Prop}
    (hJ : ∀ (c' : Bool) (x94 x95 x96 x97 x98 x99 x100 x101 x102 x103 x104 x105 x106 x107 x108 x109 x110 x111 x112 x113 x114 x115 x116 x117 x118 x119 x120 x121 x122 x123 x124 x125 x126 x127 : Value) (wx : World), c' = (decide (k = 5) && (decide (0 < ni) || decide (0 < nn) || decide (c < -999) || decide (99999 < c) || decide (e < 0) || decide (99999 < e))) → Own w0 [box b0 28 [.int .i64 k, .slice Ai ni ci, v2, .slice An nn cn, v4, v5, .int .i64 c, .int .i64 e]] wx → J ⟨(u0 :: .pointer (some ⟨b0, 0, none⟩) :: u2 :: u3 :: u4 :: u5 :: u6 :: u7 :: u8 :: u9 :: u10 :: u11 :: u12 :: u13 :: u14 :: u15 :: u16 :: u17 :: u18 :: u19 :: u20 :: u21 :: u22 :: u23 :: u24 :: u25 :: u26 :: u27 :: u28 :: u29 :: u30 :: u31 :: u32 :: u33 :: u34 :: u35 :: u36 :: u37 :: u38 :: u39 :: u40 :: u41 :: u42 :: u43 :: u44 :: u45 :: u46 :: u47 :: u48 :: u49 :: u50 :: u51 :: u52 :: u53 :: u54 :: u55 :: u56 :: u57 :: u58 :: u59 :: u60 :: u61 :: u62 :: u63 :: u64 :: u65 :: u66 :: u67 :: u68 :: u69 :: u70 :: u71 :: u72 :: u73 :: u74 :: u75 :: u76 :: u77 :: u78 :: u79 :: u80 :: u81 :: u82 :: u83 :: u84 :: u85 :: u86 :: u87 :: u88 :: u89 :: u90 :: u91 :: u92 :: u93 :: x94 :: x95 :: x96 :: x97 :: x98 :: x99 :: x100 :: x101 :: x102 :: x103 :: x104 :: x105 :: x106 :: x107 :: x108 :: x109 :: x110 :: x111 :: x112 :: x113 :: x114 :: x115 :: x116 :: x117 :: x118 :: x119 :: x120 :: x121 :: x122 :: x123 :: x124 :: x125 :: x126 :: x127 :: .bool c' :: u129 :: u130 :: u131 :: u132 :: u133 :: u134 :: u135 :: u136 :: u137 :: u138 :: u139 :: u140 :: u141 :: u142 :: u143 :: u144 :: u145 :: u146 :: u147 :: u148 :: u149 :: u150 :: u151 :: u152 :: u153 :: u154 :: u155 :: u156 :: u157 :: u158 :: u159 :: u160 :: u161 :: u162 :: u163 :: u164 :: u165 :: u166 :: u167 :: u168 :: u169 :: u170 :: u171 :: u172 :: u173 :: u174 :: u175 :: u176 :: u177 :: u178 :: u179 :: u180 :: u181 :: u182 :: u183 :: u184 :: u185 :: u186 :: u187 :: u188 :: []).toArray, []⟩ wx) :
    Code.wp Tryz.prog (((Tryz.f88.body).bind (zbb 16)).getD .skip) (Exit.then J Q') ⟨(u0 :: .pointer (some ⟨b0, 0, none⟩) :: u2 :: u3 :: u4 :: u5 :: u6 :: u7 :: u8 :: u9 :: u10 :: u11 :: u12 :: u13 :: u14 :: u15 :: u16 :: u17 :: u18 :: u19 :: u20 :: u21 :: u22 :: u23 :: u24 :: u25 :: u26 :: u27 :: u28 :: u29 :: u30 :: u31 :: u32 :: u33 :: u34 :: u35 :: u36 :: u37 :: u38 :: u39 :: u40 :: u41 :: u42 :: u43 :: u44 :: u45 :: u46 :: u47 :: u48 :: u49 :: u50 :: u51 :: u52 :: u53 :: u54 :: u55 :: u56 :: u57 :: u58 :: u59 :: u60 :: u61 :: u62 :: u63 :: u64 :: u65 :: u66 :: u67 :: u68 :: u69 :: u70 :: u71 :: u72 :: u73 :: u74 :: u75 :: u76 :: u77 :: u78 :: u79 :: u80 :: u81 :: u82 :: u83 :: u84 :: u85 :: u86 :: u87 :: u88 :: u89 :: u90 :: u91 :: u92 :: u93 :: u94 :: u95 :: u96 :: u97 :: u98 :: u99 :: u100 :: u101 :: u102 :: u103 :: u104 :: u105 :: u106 :: u107 :: u108 :: u109 :: u110 :: u111 :: u112 :: u113 :: u114 :: u115 :: u116 :: u117 :: u118 :: u119 :: u120 :: u121 :: u122 :: u123 :: u124 :: u125 :: u126 :: u127 :: u128 :: u129 :: u130 :: u131 :: u132 :: u133 :: u134 :: u135 :: u136 :: u137 :: u138 :: u139 :: u140 :: u141 :: u142 :: u143 :: u144 :: u145 :: u146 :: u147 :: u148 :: u149 :: u150 :: u151 :: u152 :: u153 :: u154 :: u155 :: u156 :: u157 :: u158 :: u159 :: u160 :: u161 :: u162 :: u163 :: u164 :: u165 :: u166 :: u167 :: u168 :: u169 :: u170 :: u171 :: u172 :: u173 :: u174 :: u175 :: u176 :: u177 :: u178 :: u179 :: u180 :: u181 :: u182 :: u183 :: u184 :: u185 :: u186 :: u187 :: u188 :: []).toArray, []⟩ wc := by
  conv => arg 2; whnf
  skip
  by_cases p1 : k = 5
  · have p3 : (k == 5) = true := by simp [p1]
    have P1 := Lib.hid p1
    clear p1
    by_cases r1 : 0 < ni
    · go_wp2_with (first | ((with_reducible refine zaa ?_); refine zlf rfl hO rfl _ (by exact at0) ?_) | fail)
      exact hJ _ _ _ _ _ _ _ _ _ _ _ _ _ _ _ _ _ _ _ _ _ _ _ _ _ _ _ _ _ _ _ _ _ _ _ _ (by simp [P1.out]; omega) hO
    by_cases r2 : 0 < nn
    · go_wp2_with (first | ((with_reducible refine zaa ?_); refine zlf rfl hO rfl _ (by exact at0) ?_) | fail)
      exact hJ _ _ _ _ _ _ _ _ _ _ _ _ _ _ _ _ _ _ _ _ _ _ _ _ _ _ _ _ _ _ _ _ _ _ _ _ (by simp [P1.out]; omega) hO
    by_cases r3 : c < -999
    · go_wp2_with (first | ((with_reducible refine zaa ?_); refine zlf rfl hO rfl _ (by exact at0) ?_) | fail)
      exact hJ _ _ _ _ _ _ _ _ _ _ _ _ _ _ _ _ _ _ _ _ _ _ _ _ _ _ _ _ _ _ _ _ _ _ _ _ (by simp [P1.out]; omega) hO
    by_cases r4 : 99999 < c
    · go_wp2_with (first | ((with_reducible refine zaa ?_); refine zlf rfl hO rfl _ (by exact at0) ?_) | fail)
      exact hJ _ _ _ _ _ _ _ _ _ _ _ _ _ _ _ _ _ _ _ _ _ _ _ _ _ _ _ _ _ _ _ _ _ _ _ _ (by simp [P1.out]; omega) hO
    by_cases r5 : e < 0
    · go_wp2_with (first | ((with_reducible refine zaa ?_); refine zlf rfl hO rfl _ (by exact at0) ?_) | fail)
      exact hJ _ _ _ _ _ _ _ _ _ _ _ _ _ _ _ _ _ _ _ _ _ _ _ _ _ _ _ _ _ _ _ _ _ _ _ _ (by simp [P1.out]; omega) hO
    by_cases r6 : 99999 < e
    · go_wp2_with (first | ((with_reducible refine zaa ?_); refine zlf rfl hO rfl _ (by exact at0) ?_) | fail)
      exact hJ _ _ _ _ _ _ _ _ _ _ _ _ _ _ _ _ _ _ _ _ _ _ _ _ _ _ _ _ _ _ _ _ _ _ _ _ (by simp [P1.out]; omega) hO
    · go_wp2_with (first | ((with_reducible refine zaa ?_); refine zlf rfl hO rfl _ (by exact at0) ?_) | fail)
      exact hJ _ _ _ _ _ _ _ _ _ _ _ _ _ _ _ _ _ _ _ _ _ _ _ _ _ _ _ _ _ _ _ _ _ _ _ _ (by simp [P1.out]; omega) hO
  · have p3 : (k == 5) = false := by simp [p1]
    go_wp2_with (first | ((with_reducible refine zaa ?_); refine zlf rfl hO rfl _ (by exact at0) ?_) | fail)
    exact hJ _ _ _ _ _ _ _ _ _ _ _ _ _ _ _ _ _ _ _ _ _ _ _ _ _ _ _ _ _ _ _ _ _ _ _ _ (by (simp; omega)) hO

set_option maxRecDepth 100000 in
set_option maxHeartbeats 4000000 in
theorem shape_r18 {u0 u2 u3 u4 u5 u6 u7 u8 u9 u10 u11 u12 u13 u14 u15 u16 u17 u18 u19 u20 u21 u22 u23 u24 u25 u26 u27 u28 u29 u30 u31 u32 u33 u34 u35 u36 u37 u38 u39 u40 u41 u42 u43 u44 u45 u46 u47 u48 u49 u50 u51 u52 u53 u54 u55 u56 u57 u58 u59 u60 u61 u62 u63 u64 u65 u66 u67 u68 u69 u70 u71 u72 u73 u74 u75 u76 u77 u78 u79 u80 u81 u82 u83 u84 u85 u86 u87 u88 u89 u90 u91 u92 u93 u94 u95 u96 u97 u98 u99 u100 u101 u102 u103 u104 u105 u106 u107 u108 u109 u110 u111 u112 u113 u114 u115 u116 u117 u118 u119 u120 u121 u122 u123 u124 u125 u126 u127 u128 u129 u130 u131 u132 u133 u134 u135 u136 u137 u138 u139 u140 u141 u142 u143 u144 u145 u146 u147 u148 u149 u150 u151 u152 u153 u154 u155 u156 u157 u158 u159 u160 u161 u162 u163 u164 u165 u166 u167 u168 u169 u170 u171 u172 u173 u174 u175 u176 u177 u178 u179 u180 u181 u182 u183 u184 u185 u186 u187 u188 : Value} {w0 wc : World} {b0 : Nat} {k : Int} {ni nc ci cc : Nat} {Ai Ac : Option Addr} {v2 v3 v5 v6 v7 : Value} (hO : Own w0 [box b0 28 [.int .i64 k, .slice Ai ni ci, v2, v3, .slice Ac nc cc, v5, v6, v7]] wc) {J : Act → World → Prop} {Q' : Exit → Act → World → Prop}
    (hJ : ∀ (c' : Bool) (x129 x130 x131 x132 x133 x134 x135 x136 x137 x138 x139 x140 x141 x142 : Value) (wx : World), c' = (decide (k = 0) && (decide (0 < ni) || decide (0 < nc))) → Own w0 [box b0 28 [.int .i64 k, .slice Ai ni ci, v2, v3, .slice Ac nc cc, v5, v6, v7]] wx → J ⟨(u0 :: .pointer (some ⟨b0, 0, none⟩) :: u2 :: u3 :: u4 :: u5 :: u6 :: u7 :: u8 :: u9 :: u10 :: u11 :: u12 :: u13 :: u14 :: u15 :: u16 :: u17 :: u18 :: u19 :: u20 :: u21 :: u22 :: u23 :: u24 :: u25 :: u26 :: u27 :: u28 :: u29 :: u30 :: u31 :: u32 :: u33 :: u34 :: u35 :: u36 :: u37 :: u38 :: u39 :: u40 :: u41 :: u42 :: u43 :: u44 :: u45 :: u46 :: u47 :: u48 :: u49 :: u50 :: u51 :: u52 :: u53 :: u54 :: u55 :: u56 :: u57 :: u58 :: u59 :: u60 :: u61 :: u62 :: u63 :: u64 :: u65 :: u66 :: u67 :: u68 :: u69 :: u70 :: u71 :: u72 :: u73 :: u74 :: u75 :: u76 :: u77 :: u78 :: u79 :: u80 :: u81 :: u82 :: u83 :: u84 :: u85 :: u86 :: u87 :: u88 :: u89 :: u90 :: u91 :: u92 :: u93 :: u94 :: u95 :: u96 :: u97 :: u98 :: u99 :: u100 :: u101 :: u102 :: u103 :: u104 :: u105 :: u106 :: u107 :: u108 :: u109 :: u110 :: u111 :: u112 :: u113 :: u114 :: u115 :: u116 :: u117 :: u118 :: u119 :: u120 :: u121 :: u122 :: u123 :: u124 :: u125 :: u126 :: u127 :: u128 :: x129 :: x130 :: x131 :: x132 :: x133 :: x134 :: x135 :: x136 :: x137 :: x138 :: x139 :: x140 :: x141 :: x142 :: .bool c' :: u144 :: u145 :: u146 :: u147 :: u148 :: u149 :: u150 :: u151 :: u152 :: u153 :: u154 :: u155 :: u156 :: u157 :: u158 :: u159 :: u160 :: u161 :: u162 :: u163 :: u164 :: u165 :: u166 :: u167 :: u168 :: u169 :: u170 :: u171 :: u172 :: u173 :: u174 :: u175 :: u176 :: u177 :: u178 :: u179 :: u180 :: u181 :: u182 :: u183 :: u184 :: u185 :: u186 :: u187 :: u188 :: []).toArray, []⟩ wx) :
    Code.wp Tryz.prog (((Tryz.f88.body).bind (zbb 18)).getD .skip) (Exit.then J Q') ⟨(u0 :: .pointer (some ⟨b0, 0, none⟩) :: u2 :: u3 :: u4 :: u5 :: u6 :: u7 :: u8 :: u9 :: u10 :: u11 :: u12 :: u13 :: u14 :: u15 :: u16 :: u17 :: u18 :: u19 :: u20 :: u21 :: u22 :: u23 :: u24 :: u25 :: u26 :: u27 :: u28 :: u29 :: u30 :: u31 :: u32 :: u33 :: u34 :: u35 :: u36 :: u37 :: u38 :: u39 :: u40 :: u41 :: u42 :: u43 :: u44 :: u45 :: u46 :: u47 :: u48 :: u49 :: u50 :: u51 :: u52 :: u53 :: u54 :: u55 :: u56 :: u57 :: u58 :: u59 :: u60 :: u61 :: u62 :: u63 :: u64 :: u65 :: u66 :: u67 :: u68 :: u69 :: u70 :: u71 :: u72 :: u73 :: u74 :: u75 :: u76 :: u77 :: u78 :: u79 :: u80 :: u81 :: u82 :: u83 :: u84 :: u85 :: u86 :: u87 :: u88 :: u89 :: u90 :: u91 :: u92 :: u93 :: u94 :: u95 :: u96 :: u97 :: u98 :: u99 :: u100 :: u101 :: u102 :: u103 :: u104 :: u105 :: u106 :: u107 :: u108 :: u109 :: u110 :: u111 :: u112 :: u113 :: u114 :: u115 :: u116 :: u117 :: u118 :: u119 :: u120 :: u121 :: u122 :: u123 :: u124 :: u125 :: u126 :: u127 :: u128 :: u129 :: u130 :: u131 :: u132 :: u133 :: u134 :: u135 :: u136 :: u137 :: u138 :: u139 :: u140 :: u141 :: u142 :: u143 :: u144 :: u145 :: u146 :: u147 :: u148 :: u149 :: u150 :: u151 :: u152 :: u153 :: u154 :: u155 :: u156 :: u157 :: u158 :: u159 :: u160 :: u161 :: u162 :: u163 :: u164 :: u165 :: u166 :: u167 :: u168 :: u169 :: u170 :: u171 :: u172 :: u173 :: u174 :: u175 :: u176 :: u177 :: u178 :: u179 :: u180 :: u181 :: u182 :: u183 :: u184 :: u185 :: u186 :: u187 :: u188 :: []).toArray, []⟩ wc := by
  conv => arg 2; whnf
  skip
  by_cases p1 : k = 0
  · have p3 : (k == 0) = true := by simp [p1]
    have P1 := Lib.hid p1
    clear p1
    by_cases r1 : 0 < ni
    · go_wp2_with (first | ((with_reducible refine zaa ?_); refine zlf rfl hO rfl _ (by exact at0) ?_) | fail)
      exact hJ _ _ _ _ _ _ _ _ _ _ _ _ _ _ _ _ (by simp [P1.out]; omega) hO
    by_cases r2 : 0 < nc
    · go_wp2_with (first | ((with_reducible refine zaa ?_); refine zlf rfl hO rfl _ (by exact at0) ?_) | fail)
      exact hJ _ _ _ _ _ _ _ _ _ _ _ _ _ _ _ _ (by simp [P1.out]; omega) hO
    · go_wp2_with (first | ((with_reducible refine zaa ?_); refine zlf rfl hO rfl _ (by exact at0) ?_) | fail)
      exact hJ _ _ _ _ _ _ _ _ _ _ _ _ _ _ _ _ (by simp [P1.out]; omega) hO
  · have p3 : (k == 0) = false := by simp [p1]
    go_wp2_with (first | ((with_reducible refine zaa ?_); refine zlf rfl hO rfl _ (by exact at0) ?_) | fail)
    exact hJ _ _ _ _ _ _ _ _ _ _ _ _ _ _ _ _ (by (simp; omega)) hO

set_option maxRecDepth 100000 in
set_option maxHeartbeats 4000000 in
theorem shape_r23 {u0 u2 u3 u4 u5 u6 u8 u9 u10 u11 u12 u13 u14 u15 u16 u17 u18 u19 u20 u21 u22 u23 u24 u25 u26 u27 u28 u29 u30 u31 u32 u33 u34 u35 u36 u37 u38 u39 u40 u41 u42 u43 u44 u45 u46 u47 u48 u49 u50 u51 u52 u53 u54 u55 u56 u57 u58 u59 u60 u61 u62 u63 u64 u65 u66 u67 u68 u69 u70 u71 u72 u73 u74 u75 u76 u77 u78 u79 u80 u81 u82 u83 u84 u85 u86 u87 u88 u89 u90 u91 u92 u93 u94 u95 u96 u97 u98 u99 u100 u101 u102 u103 u104 u105 u106 u107 u108 u109 u110 u111 u112 u113 u114 u115 u116 u117 u118 u119 u120 u121 u122 u123 u124 u125 u126 u127 u128 u129 u130 u131 u132 u133 u134 u135 u136 u137 u138 u139 u140 u141 u142 u143 u144 u145 u146 u147 u148 u149 u150 u151 u152 u153 u154 u155 u156 u157 u158 u159 u160 u161 u162 u163 u164 u165 u166 u167 u168 u169 u170 u171 u172 u173 u174 u175 u176 u177 u178 u179 u180 u181 u182 u183 u184 u185 u186 u187 u188 : Value} {w0 wc : World} {b0 b1 : Nat} {k xn xd : Int} {xt : ByteArray} {qa qb : Bool} {v1 v2 v3 v4 v5 v6 v7 : Value} (CA : ∀ u, Calls Tryz.prog 108 #[.agg #[.int .i64 k, v1, v2, v3, v4, v5, v6, v7]] u fun e w' => e = .returned (.bool qa) ∧ Below u.heap.size u w') (CI : ∀ u, Calls Tryz.prog 109 #[.int .i64 k, .agg #[.int .i64 xn, .int .i64 xd, .string xt]] u fun e w' => e = .returned (.bool qb) ∧ Below u.heap.size u w') (hO : Own w0 [box b0 28 [.int .i64 k, v1, v2, v3, v4, v5, v6, v7], box b1 35 [.int .i64 xn, .int .i64 xd, .string xt]] wc) {J : Act → World → Prop} {Q' : Exit → Act → World → Prop}
    (hJ : ∀ (c' : Bool) (x151 x152 x153 x154 x155 x156 x157 x158 x159 : Value) (wx : World), c' = (!(qa && qb)) → Own w0 [box b0 28 [.int .i64 k, v1, v2, v3, v4, v5, v6, v7], box b1 35 [.int .i64 xn, .int .i64 xd, .string xt]] wx → J ⟨(u0 :: .pointer (some ⟨b0, 0, none⟩) :: u2 :: u3 :: u4 :: u5 :: u6 :: .pointer (some ⟨b1, 0, none⟩) :: u8 :: u9 :: u10 :: u11 :: u12 :: u13 :: u14 :: u15 :: u16 :: u17 :: u18 :: u19 :: u20 :: u21 :: u22 :: u23 :: u24 :: u25 :: u26 :: u27 :: u28 :: u29 :: u30 :: u31 :: u32 :: u33 :: u34 :: u35 :: u36 :: u37 :: u38 :: u39 :: u40 :: u41 :: u42 :: u43 :: u44 :: u45 :: u46 :: u47 :: u48 :: u49 :: u50 :: u51 :: u52 :: u53 :: u54 :: u55 :: u56 :: u57 :: u58 :: u59 :: u60 :: u61 :: u62 :: u63 :: u64 :: u65 :: u66 :: u67 :: u68 :: u69 :: u70 :: u71 :: u72 :: u73 :: u74 :: u75 :: u76 :: u77 :: u78 :: u79 :: u80 :: u81 :: u82 :: u83 :: u84 :: u85 :: u86 :: u87 :: u88 :: u89 :: u90 :: u91 :: u92 :: u93 :: u94 :: u95 :: u96 :: u97 :: u98 :: u99 :: u100 :: u101 :: u102 :: u103 :: u104 :: u105 :: u106 :: u107 :: u108 :: u109 :: u110 :: u111 :: u112 :: u113 :: u114 :: u115 :: u116 :: u117 :: u118 :: u119 :: u120 :: u121 :: u122 :: u123 :: u124 :: u125 :: u126 :: u127 :: u128 :: u129 :: u130 :: u131 :: u132 :: u133 :: u134 :: u135 :: u136 :: u137 :: u138 :: u139 :: u140 :: u141 :: u142 :: u143 :: u144 :: u145 :: u146 :: u147 :: u148 :: u149 :: u150 :: x151 :: x152 :: x153 :: x154 :: x155 :: x156 :: x157 :: x158 :: x159 :: .bool c' :: u161 :: u162 :: u163 :: u164 :: u165 :: u166 :: u167 :: u168 :: u169 :: u170 :: u171 :: u172 :: u173 :: u174 :: u175 :: u176 :: u177 :: u178 :: u179 :: u180 :: u181 :: u182 :: u183 :: u184 :: u185 :: u186 :: u187 :: u188 :: []).toArray, []⟩ wx) :
    Code.wp Tryz.prog (((Tryz.f88.body).bind (zbb 23)).getD .skip) (Exit.then J Q') ⟨(u0 :: .pointer (some ⟨b0, 0, none⟩) :: u2 :: u3 :: u4 :: u5 :: u6 :: .pointer (some ⟨b1, 0, none⟩) :: u8 :: u9 :: u10 :: u11 :: u12 :: u13 :: u14 :: u15 :: u16 :: u17 :: u18 :: u19 :: u20 :: u21 :: u22 :: u23 :: u24 :: u25 :: u26 :: u27 :: u28 :: u29 :: u30 :: u31 :: u32 :: u33 :: u34 :: u35 :: u36 :: u37 :: u38 :: u39 :: u40 :: u41 :: u42 :: u43 :: u44 :: u45 :: u46 :: u47 :: u48 :: u49 :: u50 :: u51 :: u52 :: u53 :: u54 :: u55 :: u56 :: u57 :: u58 :: u59 :: u60 :: u61 :: u62 :: u63 :: u64 :: u65 :: u66 :: u67 :: u68 :: u69 :: u70 :: u71 :: u72 :: u73 :: u74 :: u75 :: u76 :: u77 :: u78 :: u79 :: u80 :: u81 :: u82 :: u83 :: u84 :: u85 :: u86 :: u87 :: u88 :: u89 :: u90 :: u91 :: u92 :: u93 :: u94 :: u95 :: u96 :: u97 :: u98 :: u99 :: u100 :: u101 :: u102 :: u103 :: u104 :: u105 :: u106 :: u107 :: u108 :: u109 :: u110 :: u111 :: u112 :: u113 :: u114 :: u115 :: u116 :: u117 :: u118 :: u119 :: u120 :: u121 :: u122 :: u123 :: u124 :: u125 :: u126 :: u127 :: u128 :: u129 :: u130 :: u131 :: u132 :: u133 :: u134 :: u135 :: u136 :: u137 :: u138 :: u139 :: u140 :: u141 :: u142 :: u143 :: u144 :: u145 :: u146 :: u147 :: u148 :: u149 :: u150 :: u151 :: u152 :: u153 :: u154 :: u155 :: u156 :: u157 :: u158 :: u159 :: u160 :: u161 :: u162 :: u163 :: u164 :: u165 :: u166 :: u167 :: u168 :: u169 :: u170 :: u171 :: u172 :: u173 :: u174 :: u175 :: u176 :: u177 :: u178 :: u179 :: u180 :: u181 :: u182 :: u183 :: u184 :: u185 :: u186 :: u187 :: u188 :: []).toArray, []⟩ wc := by
  conv => arg 2; whnf
  skip
  cases qa
  · go_wp2_with (first | ((with_reducible refine (CA _).mono ?_); rintro e u ⟨rfl, hb⟩; (replace hO := hO.step hb; clear hb)) | ((with_reducible refine zaa ?_); refine zlb rfl hO rfl _ (by exact at0) ?_) | fail)
    exact hJ _ _ _ _ _ _ _ _ _ _ _ (by (simp; done)) hO
  · cases qb
    · go_wp2_with (first | ((with_reducible refine (CA _).mono ?_); rintro e u ⟨rfl, hb⟩; (replace hO := hO.step hb; clear hb)) | ((with_reducible refine (CI _).mono ?_); rintro e u ⟨rfl, hb⟩; (replace hO := hO.step hb; clear hb)) | ((with_reducible refine zaa ?_); refine zlb rfl hO rfl _ (by (first | exact at0 | exact at1 | fail)) ?_) | ((with_reducible refine zaa ?_); refine zlf rfl hO rfl _ (by exact at0) ?_) | fail)
      exact hJ _ _ _ _ _ _ _ _ _ _ _ (by (simp; done)) hO
    · go_wp2_with (first | ((with_reducible refine (CA _).mono ?_); rintro e u ⟨rfl, hb⟩; (replace hO := hO.step hb; clear hb)) | ((with_reducible refine (CI _).mono ?_); rintro e u ⟨rfl, hb⟩; (replace hO := hO.step hb; clear hb)) | ((with_reducible refine zaa ?_); refine zlb rfl hO rfl _ (by (first | exact at0 | exact at1 | fail)) ?_) | ((with_reducible refine zaa ?_); refine zlf rfl hO rfl _ (by exact at0) ?_) | fail)
      exact hJ _ _ _ _ _ _ _ _ _ _ _ (by (simp; done)) hO

set_option maxRecDepth 100000 in
set_option maxHeartbeats 4000000 in
theorem shape_r25 {u0 u2 u3 u4 u5 u6 u8 u9 u10 u11 u12 u13 u14 u15 u16 u17 u18 u19 u20 u21 u22 u23 u24 u25 u26 u27 u28 u29 u30 u31 u32 u33 u34 u35 u36 u37 u38 u39 u40 u41 u42 u43 u44 u45 u46 u47 u48 u49 u50 u51 u52 u53 u54 u55 u56 u57 u58 u59 u60 u61 u62 u63 u64 u65 u66 u67 u68 u69 u70 u71 u72 u73 u74 u75 u76 u77 u78 u79 u80 u81 u82 u83 u84 u85 u86 u87 u88 u89 u90 u91 u92 u93 u94 u95 u96 u97 u98 u99 u100 u101 u102 u103 u104 u105 u106 u107 u108 u109 u110 u111 u112 u113 u114 u115 u116 u117 u118 u119 u120 u121 u122 u123 u124 u125 u126 u127 u128 u129 u130 u131 u132 u133 u134 u135 u136 u137 u138 u139 u140 u141 u142 u143 u144 u145 u146 u147 u148 u149 u150 u151 u152 u153 u154 u155 u156 u157 u158 u159 u160 u161 u162 u163 u164 u165 u166 u167 u168 u169 u170 u171 u172 u173 u174 u175 u176 u177 u178 u179 u180 u181 u182 u183 u184 u185 u186 u187 u188 : Value} {w0 wc : World} {b0 b1 : Nat} {xn xd : Int} {xt : ByteArray} {qm : Bool} {nl cl : Nat} {Al : Option Addr} {v0 v1 v2 v3 v4 v6 v7 : Value} (CM : ∀ u, Calls Tryz.prog 27 #[.agg #[.int .i64 xn, .int .i64 xd, .string xt]] u fun e w' => e = .returned (.bool qm) ∧ Below u.heap.size u w') (hO : Own w0 [box b0 28 [v0, v1, v2, v3, v4, .slice Al nl cl, v6, v7], box b1 35 [.int .i64 xn, .int .i64 xd, .string xt]] wc) {J : Act → World → Prop} {Q' : Exit → Act → World → Prop}
    (hJ : ∀ (c' : Bool) (x161 x162 x163 x164 x165 x166 x167 x168 x169 x170 x171 x172 x173 x174 x175 x176 x177 x178 x179 x180 x181 x182 x183 x184 x185 x186 : Value) (wx : World), c' = (decide (0 < nl) && !qm && (!decide (xd = 1) || decide (xn < 1) || decide ((nl : Int) < xn))) → Own w0 [box b0 28 [v0, v1, v2, v3, v4, .slice Al nl cl, v6, v7], box b1 35 [.int .i64 xn, .int .i64 xd, .string xt]] wx → J ⟨(u0 :: .pointer (some ⟨b0, 0, none⟩) :: u2 :: u3 :: u4 :: u5 :: u6 :: .pointer (some ⟨b1, 0, none⟩) :: u8 :: u9 :: u10 :: u11 :: u12 :: u13 :: u14 :: u15 :: u16 :: u17 :: u18 :: u19 :: u20 :: u21 :: u22 :: u23 :: u24 :: u25 :: u26 :: u27 :: u28 :: u29 :: u30 :: u31 :: u32 :: u33 :: u34 :: u35 :: u36 :: u37 :: u38 :: u39 :: u40 :: u41 :: u42 :: u43 :: u44 :: u45 :: u46 :: u47 :: u48 :: u49 :: u50 :: u51 :: u52 :: u53 :: u54 :: u55 :: u56 :: u57 :: u58 :: u59 :: u60 :: u61 :: u62 :: u63 :: u64 :: u65 :: u66 :: u67 :: u68 :: u69 :: u70 :: u71 :: u72 :: u73 :: u74 :: u75 :: u76 :: u77 :: u78 :: u79 :: u80 :: u81 :: u82 :: u83 :: u84 :: u85 :: u86 :: u87 :: u88 :: u89 :: u90 :: u91 :: u92 :: u93 :: u94 :: u95 :: u96 :: u97 :: u98 :: u99 :: u100 :: u101 :: u102 :: u103 :: u104 :: u105 :: u106 :: u107 :: u108 :: u109 :: u110 :: u111 :: u112 :: u113 :: u114 :: u115 :: u116 :: u117 :: u118 :: u119 :: u120 :: u121 :: u122 :: u123 :: u124 :: u125 :: u126 :: u127 :: u128 :: u129 :: u130 :: u131 :: u132 :: u133 :: u134 :: u135 :: u136 :: u137 :: u138 :: u139 :: u140 :: u141 :: u142 :: u143 :: u144 :: u145 :: u146 :: u147 :: u148 :: u149 :: u150 :: u151 :: u152 :: u153 :: u154 :: u155 :: u156 :: u157 :: u158 :: u159 :: u160 :: x161 :: x162 :: x163 :: x164 :: x165 :: x166 :: x167 :: x168 :: x169 :: x170 :: x171 :: x172 :: x173 :: x174 :: x175 :: x176 :: x177 :: x178 :: x179 :: x180 :: x181 :: x182 :: x183 :: x184 :: x185 :: x186 :: .bool c' :: u188 :: []).toArray, []⟩ wx) :
    Code.wp Tryz.prog (((Tryz.f88.body).bind (zbb 25)).getD .skip) (Exit.then J Q') ⟨(u0 :: .pointer (some ⟨b0, 0, none⟩) :: u2 :: u3 :: u4 :: u5 :: u6 :: .pointer (some ⟨b1, 0, none⟩) :: u8 :: u9 :: u10 :: u11 :: u12 :: u13 :: u14 :: u15 :: u16 :: u17 :: u18 :: u19 :: u20 :: u21 :: u22 :: u23 :: u24 :: u25 :: u26 :: u27 :: u28 :: u29 :: u30 :: u31 :: u32 :: u33 :: u34 :: u35 :: u36 :: u37 :: u38 :: u39 :: u40 :: u41 :: u42 :: u43 :: u44 :: u45 :: u46 :: u47 :: u48 :: u49 :: u50 :: u51 :: u52 :: u53 :: u54 :: u55 :: u56 :: u57 :: u58 :: u59 :: u60 :: u61 :: u62 :: u63 :: u64 :: u65 :: u66 :: u67 :: u68 :: u69 :: u70 :: u71 :: u72 :: u73 :: u74 :: u75 :: u76 :: u77 :: u78 :: u79 :: u80 :: u81 :: u82 :: u83 :: u84 :: u85 :: u86 :: u87 :: u88 :: u89 :: u90 :: u91 :: u92 :: u93 :: u94 :: u95 :: u96 :: u97 :: u98 :: u99 :: u100 :: u101 :: u102 :: u103 :: u104 :: u105 :: u106 :: u107 :: u108 :: u109 :: u110 :: u111 :: u112 :: u113 :: u114 :: u115 :: u116 :: u117 :: u118 :: u119 :: u120 :: u121 :: u122 :: u123 :: u124 :: u125 :: u126 :: u127 :: u128 :: u129 :: u130 :: u131 :: u132 :: u133 :: u134 :: u135 :: u136 :: u137 :: u138 :: u139 :: u140 :: u141 :: u142 :: u143 :: u144 :: u145 :: u146 :: u147 :: u148 :: u149 :: u150 :: u151 :: u152 :: u153 :: u154 :: u155 :: u156 :: u157 :: u158 :: u159 :: u160 :: u161 :: u162 :: u163 :: u164 :: u165 :: u166 :: u167 :: u168 :: u169 :: u170 :: u171 :: u172 :: u173 :: u174 :: u175 :: u176 :: u177 :: u178 :: u179 :: u180 :: u181 :: u182 :: u183 :: u184 :: u185 :: u186 :: u187 :: u188 :: []).toArray, []⟩ wc := by
  conv => arg 2; whnf
  skip
  by_cases p1 : 0 < nl
  · cases qm
    · by_cases p2 : xd = 1
      · have p3 : (xd != 1) = false := by simp [p2]
        have P2 := Lib.hid p2
        clear p2
        by_cases p4 : xn < 1
        · go_wp2_with (first | ((with_reducible refine (CM _).mono ?_); rintro e u ⟨rfl, hb⟩; (replace hO := hO.step hb; clear hb)) | ((with_reducible refine zaa ?_); refine zlb rfl hO rfl _ (by exact at1) ?_) | ((with_reducible refine zaa ?_); refine zlf rfl hO rfl _ (by (first | exact at0 | exact at1 | fail)) ?_) | fail)
          exact hJ _ _ _ _ _ _ _ _ _ _ _ _ _ _ _ _ _ _ _ _ _ _ _ _ _ _ _ _ (by rw [P2.out]; first | (simp; done) | (simp; omega) | (simp; intros; omega)) hO
        by_cases p5 : (nl : Int) < xn
        · go_wp2_with (first | ((with_reducible refine (CM _).mono ?_); rintro e u ⟨rfl, hb⟩; (replace hO := hO.step hb; clear hb)) | ((with_reducible refine zaa ?_); refine zlb rfl hO rfl _ (by exact at1) ?_) | ((with_reducible refine zaa ?_); refine zag rfl (by (first | rfl | (simp only [Region.wanted, yielded, *]; go_simp; done) | fail)) hO rfl _ (by (first | exact at0 | exact at1 | fail)) (by rfl) (by simp only [Act.put, zA, zB, zC]; rfl) ?_) | fail)
          exact hJ _ _ _ _ _ _ _ _ _ _ _ _ _ _ _ _ _ _ _ _ _ _ _ _ _ _ _ _ (by rw [P2.out]; first | (simp; done) | (simp; omega) | (simp; intros; omega)) hO
        · go_wp2_with (first | ((with_reducible refine (CM _).mono ?_); rintro e u ⟨rfl, hb⟩; (replace hO := hO.step hb; clear hb)) | ((with_reducible refine zaa ?_); refine zlb rfl hO rfl _ (by exact at1) ?_) | ((with_reducible refine zaa ?_); refine zag rfl (by (first | rfl | (simp only [Region.wanted, yielded, *]; go_simp; done) | fail)) hO rfl _ (by (first | exact at0 | exact at1 | fail)) (by rfl) (by simp only [Act.put, zA, zB, zC]; rfl) ?_) | fail)
          exact hJ _ _ _ _ _ _ _ _ _ _ _ _ _ _ _ _ _ _ _ _ _ _ _ _ _ _ _ _ (by rw [P2.out]; first | (simp; done) | (simp; omega) | (simp; intros; omega)) hO
      · have p3 : (xd != 1) = true := by simp [p2]
        go_wp2_with (first | ((with_reducible refine (CM _).mono ?_); rintro e u ⟨rfl, hb⟩; (replace hO := hO.step hb; clear hb)) | ((with_reducible refine zaa ?_); refine zlb rfl hO rfl _ (by exact at1) ?_) | ((with_reducible refine zaa ?_); refine zlf rfl hO rfl _ (by (first | exact at0 | exact at1 | fail)) ?_) | fail)
        exact hJ _ _ _ _ _ _ _ _ _ _ _ _ _ _ _ _ _ _ _ _ _ _ _ _ _ _ _ _ (by (simp; omega)) hO
    · go_wp2_with (first | ((with_reducible refine (CM _).mono ?_); rintro e u ⟨rfl, hb⟩; (replace hO := hO.step hb; clear hb)) | ((with_reducible refine zaa ?_); refine zlb rfl hO rfl _ (by exact at1) ?_) | ((with_reducible refine zaa ?_); refine zlf rfl hO rfl _ (by exact at0) ?_) | fail)
      exact hJ _ _ _ _ _ _ _ _ _ _ _ _ _ _ _ _ _ _ _ _ _ _ _ _ _ _ _ _ (by (simp; done)) hO
  · obtain rfl : nl = 0 := by omega
    clear p1
    go_wp2_with (first | ((with_reducible refine zaa ?_); refine zlf rfl hO rfl _ (by exact at0) ?_) | fail)
    exact hJ _ _ _ _ _ _ _ _ _ _ _ _ _ _ _ _ _ _ _ _ _ _ _ _ _ _ _ _ (by (simp; done)) hO

end

section

open Go.RowKit Go.ChangeShapes Go.WideShapes

set_option linter.unusedVariables false

set_option linter.unusedSimpArgs false

theorem Sl.txn {w u : World} {A : Option Addr} {l : List ByteArray} {n : Nat} (h : Sl w 1 A n (stc l)) (hb : Below w.heap.size w u) {i : Nat} (hn : i < n) (hi : i < l.length) :
    ∃ b off, A = some ⟨b, off, none⟩ ∧ b < w.heap.size ∧ u.cell? ⟨b, off + i, none⟩ = some (.string (l[i]'hi)) := by
  have hln : l.length = n := by have := h.len; simpa [stc] using this
  subst hln
  exact h.tx hb hi rfl

theorem Sl.itn {w u : World} {A : Option Addr} {l : List It} {n : Nat} (h : Sl w 3 A n (itc l)) (hb : Below w.heap.size w u) {i : Nat} (hn : i < n) (hi : i < l.length) {x : It} (hx : l[i]'hi = x) :
    ∃ b off, A = some ⟨b, off, none⟩ ∧ b < w.heap.size ∧ u.cell? ⟨b, off + i * 3, none⟩ = some (.int .i64 x.num) ∧ u.cell? ⟨b, off + i * 3 + 1, none⟩ = some (.int .i64 x.den) ∧ u.cell? ⟨b, off + i * 3 + 2, none⟩ = some (.string x.text) := by
  have hln : l.length = n := by have := h.len; rw [itc_len] at this; omega
  subst hln
  exact h.it hb hi hx

theorem nodeB_eq (k : Int) (is : List It) (ps : List VT) (ns cs ls : List ByteArray) (c e : Int) : nodeB (.mk k is ps ns cs ls c e) = (headB (lenN k is.length ps.length) k is ps ns cs ls c e && is.all (itB k ls)) := rfl

theorem dec_not {p q : Prop} [Decidable p] [Decidable q] (h : p ↔ ¬ q) : decide p = !decide q := by rw [← decide_not]; exact decide_eq_decide.2 h

theorem headB_split (n : Nat) (k : Int) (is : List It) (ps : List VT) (ns cs ls : List ByteArray) (c e : Int) {ni np nn nc nl : Nat} (hni : is.length = ni) (hnp : ps.length = np) (hnn : ns.length = nn) (hnc : cs.length = nc) (hnl : ls.length = nl) {q2 q4 q12 q14 q16 q18 : Bool}
    (h2 : q2 = (!(decide (0 ≤ k ∧ k ≤ 5) && decide (n ≤ 40) && labB 3 cs && labB 20 ls))) (h4 : q4 = (decide (0 < nn) && (!decide (nn = n) || allE ns))) (h12 : q12 = ((decide (0 < nl) && !decide (k = 2)) || (decide (0 < np) && !decide (k = 4))))
    (h14 : q14 = (!decide (k = 5) && (!decide (c = 0) || !decide (e = 0)))) (h16 : q16 = (decide (k = 5) && (decide (0 < ni) || decide (0 < nn) || decide (c < -999) || decide (99999 < c) || decide (e < 0) || decide (99999 < e))))
    (h18 : q18 = (decide (k = 0) && (decide (0 < ni) || decide (0 < nc)))) :
    headB n k is ps ns cs ls c e = (!q2 && !q4 && zbk ns && !q12 && !q14 && !q16 && !q18) := by
  subst hni hnp hnn hnc hnl
  unfold headB
  rw [h2, h4, h12, h14, h16, h18]
  have z : ∀ m : Nat, decide (0 < m) = !decide (m = 0) := fun m => dec_not (by omega)
  have zc : (decide (c < -999) || decide (99999 < c)) = !decide (-999 ≤ c ∧ c ≤ 99999) := by rw [← Bool.decide_or]; exact dec_not (by omega)
  have ze : (decide (e < 0) || decide (99999 < e)) = !decide (0 ≤ e ∧ e ≤ 99999) := by rw [← Bool.decide_or]; exact dec_not (by omega)
  have r16 : ∀ a b c' d e' f : Bool, (a || b || c' || d || e' || f) = (a || b || (c' || d) || (e' || f)) := by decide
  rw [r16, zc, ze, z, z, z, z, z]
  generalize decide (0 ≤ k ∧ k ≤ 5) = a1
  generalize decide (n ≤ 40) = a2
  generalize labB 3 cs = a3
  generalize labB 20 ls = a4
  generalize decide (ns.length = 0) = a5
  generalize decide (ns.length = n) = a6
  generalize allE ns = a7
  generalize zbk ns = a8
  generalize decide (ls.length = 0) = a9
  generalize decide (ps.length = 0) = b1
  generalize decide (k = 2) = b2
  generalize decide (k = 4) = b3
  generalize decide (k = 5) = b4
  generalize decide (c = 0) = b5
  generalize decide (e = 0) = b6
  generalize decide (is.length = 0) = b7
  generalize decide (-999 ≤ c ∧ c ≤ 99999) = b8
  generalize decide (0 ≤ e ∧ e ≤ 99999) = b9
  generalize decide (k = 0) = c1
  generalize decide (cs.length = 0) = c2
  simp [Bool.not_and, Bool.not_or, Bool.and_assoc, Bool.or_assoc]

theorem itB_split (k : Int) (ls : List ByteArray) (x : It) {nl : Nat} (hnl : ls.length = nl) {q23 q25 : Bool} (h23 : q23 = (!(decide (1 ≤ k ∧ k ≤ 3) && itemB k x))) (h25 : q25 = (decide (0 < nl) && !misB x && (!decide (x.den = 1) || decide (x.num < 1) || decide ((nl : Int) < x.num)))) :
    itB k ls x = (!q23 && !q25) := by
  subst hnl
  unfold itB levB
  rw [h23, h25]
  have z : decide (0 < ls.length) = !decide (ls.length = 0) := dec_not (by omega)
  have z1 : decide (x.num < 1) = !decide (1 ≤ x.num) := dec_not (by omega)
  have z2 : decide ((ls.length : Int) < x.num) = !decide (x.num ≤ ls.length) := dec_not (by omega)
  rw [z, z1, z2]
  generalize decide (ls.length = 0) = a1
  generalize decide (x.den = 1) = a2
  generalize decide (1 ≤ x.num) = a3
  generalize decide (x.num ≤ (ls.length : Int)) = a4
  simp [Bool.not_and, Bool.not_or, Bool.and_assoc, Bool.or_assoc]

theorem all_take {α : Type} {f : α → Bool} {l : List α} {k : Nat} (h : k < l.length) : (l.take (k + 1)).all f = ((l.take k).all f && f l[k]) := by rw [za6 h, List.all_append]; simp

theorem all_false {α : Type} {f : α → Bool} {l : List α} {k : Nat} (h : k < l.length) (he : f l[k] = false) : l.all f = false := by
  rw [List.all_eq_false]
  exact ⟨_, List.getElem_mem h, by simp [he]⟩

set_option maxRecDepth 100000 in
set_option maxHeartbeats 4000000 in
theorem impl_shape (k : Int) (is : List It) (ps : List VT) (ns cs ls : List ByteArray) (c e : Int) (vs : List Value) (w : World) (hv : RdV w (.mk k is ps ns cs ls c e) vs) (hz : szV (.mk k is ps ns cs ls c e) ≤ 268435456) :
    Calls Tryz.prog 88 #[.agg vs.toArray] w fun e' w' => e' = .returned (.bool (nodeB (.mk k is ps ns cs ls c e))) ∧ Below w.heap.size w w' := by
  obtain ⟨Ai, Ap, An, Ac, Al, ci, cp, cn, cc, cl, pvs, rfl, h1, h2, h3, h4, h5⟩ := hv.open
  have hcap := hv.caps
  have HT : szV (.mk k is ps ns cs ls c e) = szI is + szL ps + szS ns + szS cs + szS ls := rfl
  have hz' := szL_eq ps
  unfold szI szS at HT
  have z1 : is.length + ps.length ≤ 268435456 := by omega
  have z2 : itz is ≤ 268435456 := by omega
  have z3 : ns.length ≤ 268435456 := by omega
  have z4 : cs.length ≤ 268435456 := by omega
  have z5 : ls.length ≤ 268435456 := by omega
  have c4 := hcap.2.2.2.1
  have c5 := hcap.2.2.2.2
  clear HT hv hz hz' hcap
  rw [nodeB_eq]
  have C4 : ∀ u, Below w.heap.size w u → Calls Tryz.prog 106 #[.slice Ac cs.length cc, .int .i64 3] u fun e w' => e = .returned (.bool (labB 3 cs)) ∧ u = w' := fun u hb => impl_labels 3 (by omega) Ac cc cs u (h4.below hb) (by omega) c4
  have C5 : ∀ u, Below w.heap.size w u → Calls Tryz.prog 106 #[.slice Al ls.length cl, .int .i64 20] u fun e w' => e = .returned (.bool (labB 20 ls)) ∧ u = w' := fun u hb => impl_labels 20 (by omega) Al cl ls u (h5.below hb) (by omega) c5
  have C3 := fun u (hb : Below w.heap.size w u) => impl_allEmpty An cn ns u (h3.below hb) (by omega)
  obtain ⟨n, hn⟩ : ∃ n, lenN k is.length ps.length = n := ⟨_, rfl⟩
  have CL := fun u => impl_length k Ai Ap is.length ps.length ci cp (.slice An ns.length cn) (.slice Ac cs.length cc) (.slice Al ls.length cl) (.int .i64 c) (.int .i64 e) u (by omega)
  rw [hn] at CL ⊢
  have hn2 : n ≤ 268435457 := by rw [← hn]; unfold lenN; split <;> omega
  clear hn c4 c5
  obtain ⟨ni, hni⟩ : ∃ q, is.length = q := ⟨_, rfl⟩
  obtain ⟨np, hnp⟩ : ∃ q, ps.length = q := ⟨_, rfl⟩
  obtain ⟨nn, hnn⟩ : ∃ q, ns.length = q := ⟨_, rfl⟩
  obtain ⟨nc, hnc⟩ : ∃ q, cs.length = q := ⟨_, rfl⟩
  obtain ⟨nl, hnl⟩ : ∃ q, ls.length = q := ⟨_, rfl⟩
  have HQ := fun (q2 q4 q12 q14 q16 q18 : Bool) h2 h4 h12 h14 h16 h18 => headB_split n k is ps ns cs ls c e hni hnp hnn hnc hnl (q2 := q2) (q4 := q4) (q12 := q12) (q14 := q14) (q16 := q16) (q18 := q18) h2 h4 h12 h14 h16 h18
  have HIT := fun x (q23 q25 : Bool) h23 h25 => itB_split k ls x hnl (q23 := q23) (q25 := q25) h23 h25
  rw [hni, hnp, hnn, hnc, hnl] at CL
  rw [hnn] at C3 h3 z3
  rw [hnc] at C4 h4 z4
  rw [hnl] at C5 h5 z5
  rw [hni] at h1 z1
  rw [hnp] at z1
  rw [hni, hnp, hnn, hnc, hnl]
  have HLi := Lib.hid hni
  have HLn := Lib.hid hnn
  clear hni hnp hnn hnc hnl h2
  have HQ' := Lib.hid HQ
  have HIT' := Lib.hid HIT
  clear HQ HIT
  obtain ⟨hB, hhB⟩ : ∃ q, headB n k is ps ns cs ls c e = q := ⟨_, rfl⟩
  rw [hhB] at HQ' ⊢
  clear hhB
  have FIN : ∀ u, Below w.heap.size w u → hB = false → Ending.returned (Value.bool false) = Ending.returned (Value.bool (hB && is.all (itB k ls))) ∧ Below w.heap.size w u := fun u hb h => ⟨by rw [h]; rfl, hb⟩
  go_enter Tryz.func88, Tryz.ntmps88
  have hO := Own.nil w
  go_upto_region 2 with (first | ((with_reducible refine (CL _).mono ?_); rintro e u ⟨rfl, hb⟩; (replace hO := hO.step hb; clear hb)) | ((with_reducible refine zad ?_); refine zbx rfl hO rfl rfl ?_; (refine nm 0 rfl ?_; clear hO; intro b0 u hO); simp only [zL, zK] at hO) | ((with_reducible refine zaa ?_); refine zlb rfl hO rfl _ (by exact at0) ?_) | fail)
  refine shape_r2 C4 C5 (by omega) hO ?_
  clear hO
  intro c' x10 x11 x12 x13 x14 x15 x16 x17 x18 x19 x20 x21 x22 x23 x24 x25 x26 x27 x28 x29 x30 x31 x32 u hc' hO
  have H2 := Lib.hid hc'
  clear hc' C4 C5
  cases c' with
  | true =>
    have HR := Lib.hid (HQ'.out _ _ _ _ _ _ H2.out rfl rfl rfl rfl rfl)
    go_wp2_with fail
    go_ret
    exact FIN _ hO.below (by rw [HR.out]; rfl)
  | false =>
  go_upto_region 4 with fail
  refine shape_r4 C3 hO ?_
  clear hO
  intro c' x34 x35 x36 x37 x38 x39 x40 x41 x42 x43 x44 x45 x46 x47 x48 u hc' hO
  have H4 := Lib.hid hc'
  clear hc' C3
  cases c' with
  | true =>
    have HR := Lib.hid (HQ'.out _ _ _ _ _ _ H2.out H4.out rfl rfl rfl rfl)
    go_wp2_with fail
    go_ret
    exact FIN _ hO.below (by rw [HR.out]; rfl)
  | false =>
  go_wp2_with (first | ((with_reducible refine zaa ?_); refine zlf rfl hO rfl _ (by exact at0) ?_) | fail)
  go_loopw [53] (fun i u => ∃ m : Nat, m ≤ nn ∧ i = .int .i64 m ∧ Hid (zbk (ns.take m) = true) ∧ Own w [box b0 28 [.int .i64 k, .slice Ai ni ci, .slice Ap np cp, .slice An nn cn, .slice Ac nc cc, .slice Al nl cl, .int .i64 c, .int .i64 e]] u) (fun i _ => nn - (intOf i).toNat)
  case atStart => exact ⟨0, Nat.zero_le _, rfl, rfl, hO⟩
  case round =>
    clear hO
    obtain ⟨m, hm, rfl, hsh, hO⟩ := hrel
    by_cases hlt : m < nn
    · have hml : m < ns.length := by rw [HLn.out]; exact hlt
      obtain ⟨g, off, rfl, hg, hc⟩ := Sl.txn h3 hO.below hlt hml
      have HT := Lib.hid (shortB_take hml)
      have HF := Lib.hid (fun he => shortB_false (l := ns) hml he)
      obtain ⟨x, hx⟩ : ∃ x, ns[m]'hml = x := ⟨_, rfl⟩
      rw [hx] at hc HT HF
      clear hx hml
      by_cases e2 : 60 < x.size
      · have HR := Lib.hid (HQ'.out _ _ _ _ _ _ H2.out H4.out rfl rfl rfl rfl)
        have HS := Lib.hid (HF.out e2)
        go_wp2_with fail
        go_ret
        exact FIN _ hO.below (by rw [HR.out, HS.out]; simp)
      · have HD := Lib.hid (decide_eq_true (show x.size ≤ 60 by omega))
        go_wp2_with fail
        go_roundw
        case rel => exact ⟨m + 1, by omega, by go_num, by show _ = _; rw [HT.out, hsh.out, HD.out]; rfl, hO⟩
        case measure => simp [intOf]; omega
    · have hmn : m = nn := by omega
      have HS : Hid (zbk ns = true) := Lib.hid (by rw [← hsh.out, List.take_of_length_le (by rw [HLn.out]; omega)])
      clear hsh h3
      obtain rfl : nn = m := hmn.symm
      clear hmn
      go_upto_region 12 with fail
      refine shape_r12 hO ?_
      clear hO
      intro c' x61 x62 x63 x64 x65 x66 x67 x68 x69 x70 x71 x72 x73 x74 x75 x76 x77 x78 x79 u hc' hO
      have H12 := Lib.hid hc'
      clear hc'
      cases c' with
      | true =>
        have HR := Lib.hid (HQ'.out _ _ _ _ _ _ H2.out H4.out H12.out rfl rfl rfl)
        go_wp2_with fail
        go_ret
        exact FIN _ hO.below (by rw [HR.out]; simp)
      | false =>
      go_upto_region 14 with fail
      refine shape_r14 hO ?_
      clear hO
      intro c' x81 x82 x83 x84 x85 x86 x87 x88 x89 x90 x91 x92 u hc' hO
      have H14 := Lib.hid hc'
      clear hc'
      cases c' with
      | true =>
        have HR := Lib.hid (HQ'.out _ _ _ _ _ _ H2.out H4.out H12.out H14.out rfl rfl)
        go_wp2_with fail
        go_ret
        exact FIN _ hO.below (by rw [HR.out]; simp)
      | false =>
      go_upto_region 16 with fail
      refine shape_r16 hO ?_
      clear hO
      intro c' x94 x95 x96 x97 x98 x99 x100 x101 x102 x103 x104 x105 x106 x107 x108 x109 x110 x111 x112 x113 x114 x115 x116 x117 x118 x119 x120 x121 x122 x123 x124 x125 x126 x127 u hc' hO
      have H16 := Lib.hid hc'
      clear hc'
      cases c' with
      | true =>
        have HR := Lib.hid (HQ'.out _ _ _ _ _ _ H2.out H4.out H12.out H14.out H16.out rfl)
        go_wp2_with fail
        go_ret
        exact FIN _ hO.below (by rw [HR.out]; simp)
      | false =>
      go_upto_region 18 with fail
      refine shape_r18 hO ?_
      clear hO
      intro c' x129 x130 x131 x132 x133 x134 x135 x136 x137 x138 x139 x140 x141 x142 u hc' hO
      have H18 := Lib.hid hc'
      clear hc'
      cases c' with
      | true =>
        have HR := Lib.hid (HQ'.out _ _ _ _ _ _ H2.out H4.out H12.out H14.out H16.out H18.out)
        go_wp2_with fail
        go_ret
        exact FIN _ hO.below (by rw [HR.out]; simp)
      | false =>
      have HB : Hid (hB = true) := Lib.hid (by rw [HQ'.out _ _ _ _ _ _ H2.out H4.out H12.out H14.out H16.out H18.out, HS.out]; rfl)
      clear HQ' H2 H4 H12 H14 H16 H18 HS FIN
      have CA := fun u => impl_isAtomic k (.slice Ai ni ci) (.slice Ap np cp) (.slice An nn cn) (.slice Ac nc cc) (.slice Al nl cl) (.int .i64 c) (.int .i64 e) u
      obtain ⟨qa, hqa⟩ : ∃ q, decide (1 ≤ k ∧ k ≤ 3) = q := ⟨_, rfl⟩
      rw [hqa] at CA
      have HA := Lib.hid hqa
      clear hqa
      go_wp2_with (first | ((with_reducible refine zaa ?_); refine zlf rfl hO rfl _ (by exact at0) ?_) | fail)
      go_loopw [147] (fun i u => ∃ m : Nat, m ≤ ni ∧ i = .int .i64 m ∧ Hid ((is.take m).all (itB k ls) = true) ∧ Own w [box b0 28 [.int .i64 k, .slice Ai ni ci, .slice Ap np cp, .slice An nn cn, .slice Ac nc cc, .slice Al nl cl, .int .i64 c, .int .i64 e]] u) (fun i _ => ni - (intOf i).toNat)
      case atStart => exact ⟨0, Nat.zero_le _, rfl, rfl, hO⟩
      case round =>
        clear hO
        obtain ⟨m, hm, rfl, hal, hO⟩ := hrel
        by_cases hlt : m < ni
        · have hml : m < is.length := by rw [HLi.out]; exact hlt
          have hsz := Nat.le_trans (itz_mem hml) z2
          obtain ⟨x, hx⟩ : ∃ x, is[m]'hml = x := ⟨_, rfl⟩
          obtain ⟨g, off, rfl, hg, d0, d1, d2⟩ := Sl.itn h1 hO.below hlt hml hx
          have HT := Lib.hid (all_take (f := itB k ls) hml)
          have HF := Lib.hid (fun he => all_false (f := itB k ls) hml he)
          rw [hx] at HT HF hsz
          clear hx hml
          have HI := Lib.hid (HIT'.out x)
          have CI := fun u => impl_itemValid k x.num x.den x.text u (by unfold maxLen; omega)
          have CM := fun u => zba x.num x.den x.text u
          obtain ⟨xn, xd, xt⟩ := x
          simp only at d0 d1 d2 CI CM
          obtain ⟨qb, hqb⟩ : ∃ q, itemB k ⟨xn, xd, xt⟩ = q := ⟨_, rfl⟩
          obtain ⟨qm, hqm⟩ : ∃ q, misB ⟨xn, xd, xt⟩ = q := ⟨_, rfl⟩
          rw [HA.out, hqb, hqm] at HI
          rw [hqb] at CI
          rw [hqm] at CM
          clear hqb hqm hsz
          go_upto_region 23 with (first | ((with_reducible refine zac ?_); refine zal rfl hO rfl ?_; (refine nm 1 rfl ?_; clear hO; intro b1 u hO); simp only [zL, zK] at hO) | ((with_reducible refine zab ?_); refine zsb rfl hO rfl _ (by exact at1) rfl ?_; clear hO; intro u hO; simp only [zC, zB] at hO) | fail)
          clear d0 d1 d2
          refine shape_r23 CA CI hO ?_
          clear hO
          intro c' x151 x152 x153 x154 x155 x156 x157 x158 x159 u hc' hO
          have H23 := Lib.hid hc'
          clear hc'
          cases c' with
          | true =>
            have HR := Lib.hid (HF.out (by rw [HI.out _ _ H23.out rfl]; rfl))
            go_wp2_with fail
            go_ret
            exact ⟨zap (by rw [HR.out, Bool.and_false]), hO.below⟩
          | false =>
          go_upto_region 25 with fail
          refine shape_r25 CM hO ?_
          clear hO
          intro c' x161 x162 x163 x164 x165 x166 x167 x168 x169 x170 x171 x172 x173 x174 x175 x176 x177 x178 x179 x180 x181 x182 x183 x184 x185 x186 u hc' hO
          have H25 := Lib.hid hc'
          clear hc'
          cases c' with
          | true =>
            have HR := Lib.hid (HF.out (by rw [HI.out _ _ H23.out H25.out]; rfl))
            go_wp2_with fail
            go_ret
            exact ⟨zap (by rw [HR.out, Bool.and_false]), hO.below⟩
          | false =>
          have HR := Lib.hid (HI.out _ _ H23.out H25.out)
          replace hO := hO.pick [0] (by decide)
          simp only [zN, zO, zE, zD] at hO
          go_wp2_with fail
          go_roundw
          case rel => exact ⟨m + 1, by omega, by go_num, by show _ = _; rw [HT.out, hal.out, HR.out]; rfl, hO⟩
          case measure => simp [intOf]; omega
        · have hmn : m = ni := by omega
          have HS : Hid (is.all (itB k ls) = true) := Lib.hid (by rw [← hal.out, List.take_of_length_le (by rw [HLi.out]; omega)])
          clear hal h1
          obtain rfl : ni = m := hmn.symm
          go_wp2_with fail
          go_ret
          exact ⟨zap (by rw [HB.out, HS.out]; rfl), hO.below⟩

end

end Go.Proofs.YtmofcbpabdbjlaaGreat
