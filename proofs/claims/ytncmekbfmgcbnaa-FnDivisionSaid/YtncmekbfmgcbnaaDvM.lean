/-
  What is proved: the tests of FnDivision, all ways together.
  Condition: none.
-/
import Derived.Test.YtncmekbfmgcbnaaDvB11
import Derived.Test.YtncmekbfmgcbnaaDvB12
import Derived.Test.YtncmekbfmgcbnaaDvB13
import Derived.Test.YtncmekbfmgcbnaaDvB14
import Derived.Test.YtncmekbfmgcbnaaDvB21
import Derived.Test.YtncmekbfmgcbnaaDvB22
import Derived.Test.YtncmekbfmgcbnaaDvB23
import Derived.Test.YtncmekbfmgcbnaaDvB24
import Derived.Test.YtncmekbfmgcbnaaDvC11
import Derived.Test.YtncmekbfmgcbnaaDvC12
import Derived.Test.YtncmekbfmgcbnaaDvC21
import Derived.Test.YtncmekbfmgcbnaaDvC22
namespace Go.Proofs.Ytncmekbfmgcbnaa
open Go.RowKit Go.ChangeShapes Go.WideShapes Go.Deep
set_option linter.unusedVariables false
set_option linter.unusedSimpArgs false



theorem dv_waysZ {z1 z2 x1 x2 : Int} {xt : ByteArray} (h : z2 = 0 ∨ ((z1 = x1 ∧ z2 = x2) ∧ xt = ⟨#[]⟩)) : z2 = 0 ∨ ((z2 != 0) = true ∧ z1 = x1 ∧ z2 = x2 ∧ xt = ⟨#[]⟩) := by
  by_cases g : z2 = 0
  · exact .inl g
  · rcases h with h | ⟨⟨h1, h2⟩, h3⟩
    · exact absurd h g
    · exact .inr ⟨by simp [g], h1, h2, h3⟩
theorem dv_waysR {r1 r2 y1 : Int} (h : r2 = 0 ∨ r1 = 0 ∨ (r1 < 0 ∧ y1 < 0) ∨ (¬ r1 < 0 ∧ ¬ y1 < 0)) : r2 = 0 ∨ ((r2 != 0) = true ∧ r1 = 0) ∨ ((r2 != 0) = true ∧ (r1 != 0) = true ∧ r1 < 0 ∧ y1 < 0) ∨ ((r2 != 0) = true ∧ (r1 != 0) = true ∧ ¬ r1 < 0 ∧ ¬ y1 < 0) := by
  by_cases g : r2 = 0
  · exact .inl g
  · have g' : (r2 != 0) = true := by simp [g]
    by_cases g1 : r1 = 0
    · exact .inr (.inl ⟨g', g1⟩)
    · have g2 : (r1 != 0) = true := by simp [g1]
      rcases h with h | h | h | h
      · exact absurd h g
      · exact absurd h g1
      · exact .inr (.inr (.inl ⟨g', g2, h.1, h.2⟩))
      · exact .inr (.inr (.inr ⟨g', g2, h.1, h.2⟩))

set_option maxRecDepth 20000 in
set_option maxHeartbeats 8000000 in
theorem dv_mid {u0 u1 u2 u5 u8 u9 u10 u11 u12 u13 u14 u15 u16 u17 u18 u19 u20 u21 u22 u23 u24 u25 u26 u27 u28 u29 u30 u31 u32 u33 u34 u35 u36 u37 u38 u39 u40 u41 u42 u43 u44 u45 u46 u47 u48 u49 u50 u51 u52 u53 u54 u55 u56 u57 u58 u59 u60 u61 u62 u63 u64 u65 u66 u67 u68 u69 u70 u71 u72 u73 u74 u75 u76 u77 u78 u79 u80 u81 u82 u83 u84 u85 u86 u87 u88 u89 u90 u91 u92 u93 u94 u95 u96 u97 u98 u99 u100 u101 u102 u103 u104 u105 u106 u107 u108 u109 u110 u111 u112 u113 u114 u115 u116 u117 u118 u119 u120 u121 u122 u123 u124 u125 u126 u127 u128 u129 u130 u131 u132 u133 u134 u135 u136 u137 u138 u139 u140 u141 u142 : Value} {w0 wc : World} {bx by_ br bz : Nat} {x1 x2 y1 y2 r1 r2 z1 z2 m1 m2 k1 k2 c : Int} {xt yt : ByteArray} (CM : ∀ u, Calls Try.prog 51 #[.agg #[.int .i64 r1, .int .i64 r2, .string ⟨#[]⟩], .agg #[.int .i64 r1, .int .i64 r2, .string ⟨#[]⟩]] u fun e w' => e = .returned (.agg #[.int .i64 m1, .int .i64 m2, .string ⟨#[]⟩]) ∧ Below u.heap.size u w') (CK : ∀ u, Calls Try.prog 51 #[.agg #[.int .i64 y1, .int .i64 y2, .string yt], .agg #[.int .i64 y1, .int .i64 y2, .string yt]] u fun e w' => e = .returned (.agg #[.int .i64 k1, .int .i64 k2, .string ⟨#[]⟩]) ∧ Below u.heap.size u w') (CC : ∀ u, Calls Try.prog 58 #[.agg #[.int .i64 m1, .int .i64 m2, .string ⟨#[]⟩], .agg #[.int .i64 k1, .int .i64 k2, .string ⟨#[]⟩]] u fun e w' => e = .returned (.int .i64 c) ∧ Below u.heap.size u w') (HC : r2 = 0 ∨ (c == 1) = false) (LZ : z2 = 0 ∨ ((z1 = x1 ∧ z2 = x2) ∧ xt = ⟨#[]⟩)) (LR : r2 = 0 ∨ r1 = 0 ∨ (r1 < 0 ∧ y1 < 0) ∨ (¬ r1 < 0 ∧ ¬ y1 < 0)) (hO : Own w0 [box bx 25 [.int .i64 x1, .int .i64 x2, .string xt], box by_ 25 [.int .i64 y1, .int .i64 y2, .string yt], box br 25 [.int .i64 r1, .int .i64 r2, .string ⟨#[]⟩], box bz 25 [.int .i64 z1, .int .i64 z2, .string ⟨#[]⟩]] wc) {Jq : Act → World → Prop} {Q' : Exit → Act → World → Prop}
    (hJ : ∀ (c' : Bool) (x42 x43 x44 x45 x46 x47 x48 x49 x50 x51 x52 x53 x54 x55 x56 x57 x58 x59 x60 x61 x62 x63 x64 x65 x66 x67 x68 x69 x70 x71 x72 x73 x74 x75 x76 x77 x78 x79 x80 x81 x82 : Value) (wx : World), c' = (false) → Own w0 [box bx 25 [.int .i64 x1, .int .i64 x2, .string xt], box by_ 25 [.int .i64 y1, .int .i64 y2, .string yt], box br 25 [.int .i64 r1, .int .i64 r2, .string ⟨#[]⟩], box bz 25 [.int .i64 z1, .int .i64 z2, .string ⟨#[]⟩]] wx → Jq ⟨(u0 :: u1 :: u2 :: .pointer (some ⟨bx, 0, none⟩) :: .pointer (some ⟨by_, 0, none⟩) :: u5 :: .pointer (some ⟨br, 0, none⟩) :: .pointer (some ⟨bz, 0, none⟩) :: u8 :: u9 :: u10 :: u11 :: u12 :: u13 :: u14 :: u15 :: u16 :: u17 :: u18 :: u19 :: u20 :: u21 :: u22 :: u23 :: u24 :: u25 :: u26 :: u27 :: u28 :: u29 :: u30 :: u31 :: u32 :: u33 :: u34 :: u35 :: u36 :: u37 :: u38 :: u39 :: u40 :: u41 :: x42 :: x43 :: x44 :: x45 :: x46 :: x47 :: x48 :: x49 :: x50 :: x51 :: x52 :: x53 :: x54 :: x55 :: x56 :: x57 :: x58 :: x59 :: x60 :: x61 :: x62 :: x63 :: x64 :: x65 :: x66 :: x67 :: x68 :: x69 :: x70 :: x71 :: x72 :: x73 :: x74 :: x75 :: x76 :: x77 :: x78 :: x79 :: x80 :: x81 :: x82 :: .bool c' :: u84 :: u85 :: u86 :: u87 :: u88 :: u89 :: u90 :: u91 :: u92 :: u93 :: u94 :: u95 :: u96 :: u97 :: u98 :: u99 :: u100 :: u101 :: u102 :: u103 :: u104 :: u105 :: u106 :: u107 :: u108 :: u109 :: u110 :: u111 :: u112 :: u113 :: u114 :: u115 :: u116 :: u117 :: u118 :: u119 :: u120 :: u121 :: u122 :: u123 :: u124 :: u125 :: u126 :: u127 :: u128 :: u129 :: u130 :: u131 :: u132 :: u133 :: u134 :: u135 :: u136 :: u137 :: u138 :: u139 :: u140 :: u141 :: u142 :: []).toArray, []⟩ wx) :
    Code.wp Try.prog (((Try.f12.body).bind (findRegB 9)).getD .skip) (Exit.then Jq Q') ⟨(u0 :: u1 :: u2 :: .pointer (some ⟨bx, 0, none⟩) :: .pointer (some ⟨by_, 0, none⟩) :: u5 :: .pointer (some ⟨br, 0, none⟩) :: .pointer (some ⟨bz, 0, none⟩) :: u8 :: u9 :: u10 :: u11 :: u12 :: u13 :: u14 :: u15 :: u16 :: u17 :: u18 :: u19 :: u20 :: u21 :: u22 :: u23 :: u24 :: u25 :: u26 :: u27 :: u28 :: u29 :: u30 :: u31 :: u32 :: u33 :: u34 :: u35 :: u36 :: u37 :: u38 :: u39 :: u40 :: u41 :: u42 :: u43 :: u44 :: u45 :: u46 :: u47 :: u48 :: u49 :: u50 :: u51 :: u52 :: u53 :: u54 :: u55 :: u56 :: u57 :: u58 :: u59 :: u60 :: u61 :: u62 :: u63 :: u64 :: u65 :: u66 :: u67 :: u68 :: u69 :: u70 :: u71 :: u72 :: u73 :: u74 :: u75 :: u76 :: u77 :: u78 :: u79 :: u80 :: u81 :: u82 :: u83 :: u84 :: u85 :: u86 :: u87 :: u88 :: u89 :: u90 :: u91 :: u92 :: u93 :: u94 :: u95 :: u96 :: u97 :: u98 :: u99 :: u100 :: u101 :: u102 :: u103 :: u104 :: u105 :: u106 :: u107 :: u108 :: u109 :: u110 :: u111 :: u112 :: u113 :: u114 :: u115 :: u116 :: u117 :: u118 :: u119 :: u120 :: u121 :: u122 :: u123 :: u124 :: u125 :: u126 :: u127 :: u128 :: u129 :: u130 :: u131 :: u132 :: u133 :: u134 :: u135 :: u136 :: u137 :: u138 :: u139 :: u140 :: u141 :: u142 :: []).toArray, []⟩ wc := by
  conv => arg 2; whnf
  have HC' : (r2 != 0) = true → (c == 1) = false := fun g => by rcases HC with h | h; exact absurd h (by simpa using g); exact h
  rcases dv_waysZ LZ with Z1 | ⟨Z0, Z1, Z2, Z3⟩
  · rcases dv_waysR LR with R1 | ⟨R0, R1⟩ | ⟨R0, R1, R2, R3⟩ | ⟨R0, R1, R2, R3⟩
    · exact dv_mid11 CM CK CC Z1 R1 hO hJ
    · exact dv_mid12 CM CK CC (HC' R0) Z1 R0 R1 hO hJ
    · exact dv_mid13 CM CK CC (HC' R0) Z1 R0 R1 R2 R3 hO hJ
    · exact dv_mid14 CM CK CC (HC' R0) Z1 R0 R1 R2 R3 hO hJ
  · rcases dv_waysR LR with R1 | ⟨R0, R1⟩ | ⟨R0, R1, R2, R3⟩ | ⟨R0, R1, R2, R3⟩
    · exact dv_mid21 CM CK CC Z0 Z1 Z2 Z3 R1 hO hJ
    · exact dv_mid22 CM CK CC (HC' R0) Z0 Z1 Z2 Z3 R0 R1 hO hJ
    · exact dv_mid23 CM CK CC (HC' R0) Z0 Z1 Z2 Z3 R0 R1 R2 R3 hO hJ
    · exact dv_mid24 CM CK CC (HC' R0) Z0 Z1 Z2 Z3 R0 R1 R2 R3 hO hJ

set_option maxRecDepth 20000 in
set_option maxHeartbeats 8000000 in
theorem dv_last {u0 u1 u2 u4 u5 u6 u7 u12 u13 u14 u15 u16 u17 u18 u19 u20 u21 u22 u23 u24 u25 u26 u27 u28 u29 u30 u31 u32 u33 u34 u35 u36 u37 u38 u39 u40 u41 u42 u43 u44 u45 u46 u47 u48 u49 u50 u51 u52 u53 u54 u55 u56 u57 u58 u59 u60 u61 u62 u63 u64 u65 u66 u67 u68 u69 u70 u71 u72 u73 u74 u75 u76 u77 u78 u79 u80 u81 u82 u83 u84 u85 u86 u87 u88 u89 u90 u91 u92 u93 u94 u95 u96 u97 u98 u99 u100 u101 u102 u103 u104 u105 u106 u107 u108 u109 u110 u111 u112 u113 u114 u115 u116 u117 u118 u119 u120 u121 u122 u123 u124 u125 u126 u127 u128 u129 u130 u131 u132 u133 u134 u135 u136 u137 u138 u139 u140 u141 u142 : Value} {w0 wc : World} {bx bf bg bh bk : Nat} {x1 x2 f1 f2 g1 g2 h1 h2 k1 k2 : Int} {xt : ByteArray} (CF : ∀ u, Calls Try.prog 60 #[.agg #[.int .i64 x1, .int .i64 x2, .string xt]] u fun e w' => e = .returned (.agg #[.int .i64 f1, .int .i64 f2, .string ⟨#[]⟩]) ∧ Below u.heap.size u w') (CG : ∀ u, Calls Try.prog 16 #[.agg #[.int .i64 x1, .int .i64 x2, .string xt]] u fun e w' => e = .returned (.agg #[.int .i64 g1, .int .i64 g2, .string ⟨#[]⟩]) ∧ Below u.heap.size u w') (LH : h2 = 0 ∨ ((h2 == 0) = false ∧ 0 ≤ h1 ∧ h1 < h2 ∧ h2 ≤ 999999999)) (LK : k2 = 0 ∨ ((k2 == 0) = false ∧ -k2 ≤ 2 * k1 ∧ 2 * k1 < k2 ∧ k2 ≤ 999999999 ∧ -999999999 ≤ k1 ∧ k1 ≤ 999999999)) (hO : Own w0 [box bx 25 [.int .i64 x1, .int .i64 x2, .string xt], box bf 25 [.int .i64 f1, .int .i64 f2, .string ⟨#[]⟩], box bg 25 [.int .i64 g1, .int .i64 g2, .string ⟨#[]⟩], box bh 25 [.int .i64 h1, .int .i64 h2, .string ⟨#[]⟩], box bk 25 [.int .i64 k1, .int .i64 k2, .string ⟨#[]⟩]] wc) {Jq : Act → World → Prop} {Q' : Exit → Act → World → Prop}
    (hJ : ∀ (c' : Bool) (x94 x95 x96 x97 x98 x99 x100 x101 x102 x103 x104 x105 x106 x107 x108 x109 x110 x111 x112 x113 x114 x115 x116 x117 x118 x119 x120 x121 x122 x123 x124 x125 x126 x127 x128 x129 x130 x131 x132 x133 x134 x135 x136 x137 x138 x139 x140 x141 x142 : Value) (wx : World), c' = (true) → Own w0 [box bx 25 [.int .i64 x1, .int .i64 x2, .string xt], box bf 25 [.int .i64 f1, .int .i64 f2, .string ⟨#[]⟩], box bg 25 [.int .i64 g1, .int .i64 g2, .string ⟨#[]⟩], box bh 25 [.int .i64 h1, .int .i64 h2, .string ⟨#[]⟩], box bk 25 [.int .i64 k1, .int .i64 k2, .string ⟨#[]⟩]] wx → Jq ⟨(u0 :: u1 :: .bool c' :: .pointer (some ⟨bx, 0, none⟩) :: u4 :: u5 :: u6 :: u7 :: .pointer (some ⟨bf, 0, none⟩) :: .pointer (some ⟨bg, 0, none⟩) :: .pointer (some ⟨bh, 0, none⟩) :: .pointer (some ⟨bk, 0, none⟩) :: u12 :: u13 :: u14 :: u15 :: u16 :: u17 :: u18 :: u19 :: u20 :: u21 :: u22 :: u23 :: u24 :: u25 :: u26 :: u27 :: u28 :: u29 :: u30 :: u31 :: u32 :: u33 :: u34 :: u35 :: u36 :: u37 :: u38 :: u39 :: u40 :: u41 :: u42 :: u43 :: u44 :: u45 :: u46 :: u47 :: u48 :: u49 :: u50 :: u51 :: u52 :: u53 :: u54 :: u55 :: u56 :: u57 :: u58 :: u59 :: u60 :: u61 :: u62 :: u63 :: u64 :: u65 :: u66 :: u67 :: u68 :: u69 :: u70 :: u71 :: u72 :: u73 :: u74 :: u75 :: u76 :: u77 :: u78 :: u79 :: u80 :: u81 :: u82 :: u83 :: u84 :: u85 :: u86 :: u87 :: u88 :: u89 :: u90 :: u91 :: u92 :: u93 :: x94 :: x95 :: x96 :: x97 :: x98 :: x99 :: x100 :: x101 :: x102 :: x103 :: x104 :: x105 :: x106 :: x107 :: x108 :: x109 :: x110 :: x111 :: x112 :: x113 :: x114 :: x115 :: x116 :: x117 :: x118 :: x119 :: x120 :: x121 :: x122 :: x123 :: x124 :: x125 :: x126 :: x127 :: x128 :: x129 :: x130 :: x131 :: x132 :: x133 :: x134 :: x135 :: x136 :: x137 :: x138 :: x139 :: x140 :: x141 :: x142 :: []).toArray, []⟩ wx) :
    Code.wp Try.prog (((Try.f12.body).bind (findRegB 15)).getD .skip) (Exit.then Jq Q') ⟨(u0 :: u1 :: u2 :: .pointer (some ⟨bx, 0, none⟩) :: u4 :: u5 :: u6 :: u7 :: .pointer (some ⟨bf, 0, none⟩) :: .pointer (some ⟨bg, 0, none⟩) :: .pointer (some ⟨bh, 0, none⟩) :: .pointer (some ⟨bk, 0, none⟩) :: u12 :: u13 :: u14 :: u15 :: u16 :: u17 :: u18 :: u19 :: u20 :: u21 :: u22 :: u23 :: u24 :: u25 :: u26 :: u27 :: u28 :: u29 :: u30 :: u31 :: u32 :: u33 :: u34 :: u35 :: u36 :: u37 :: u38 :: u39 :: u40 :: u41 :: u42 :: u43 :: u44 :: u45 :: u46 :: u47 :: u48 :: u49 :: u50 :: u51 :: u52 :: u53 :: u54 :: u55 :: u56 :: u57 :: u58 :: u59 :: u60 :: u61 :: u62 :: u63 :: u64 :: u65 :: u66 :: u67 :: u68 :: u69 :: u70 :: u71 :: u72 :: u73 :: u74 :: u75 :: u76 :: u77 :: u78 :: u79 :: u80 :: u81 :: u82 :: u83 :: u84 :: u85 :: u86 :: u87 :: u88 :: u89 :: u90 :: u91 :: u92 :: u93 :: u94 :: u95 :: u96 :: u97 :: u98 :: u99 :: u100 :: u101 :: u102 :: u103 :: u104 :: u105 :: u106 :: u107 :: u108 :: u109 :: u110 :: u111 :: u112 :: u113 :: u114 :: u115 :: u116 :: u117 :: u118 :: u119 :: u120 :: u121 :: u122 :: u123 :: u124 :: u125 :: u126 :: u127 :: u128 :: u129 :: u130 :: u131 :: u132 :: u133 :: u134 :: u135 :: u136 :: u137 :: u138 :: u139 :: u140 :: u141 :: u142 :: []).toArray, []⟩ wc := by
  conv => arg 2; whnf
  rcases LH with H1 | ⟨H0, H1, H2, H3⟩
  · rcases LK with K1 | ⟨K0, K1, K2, K3, K4, K5⟩
    · exact dv_last11 CF CG H1 K1 hO hJ
    · exact dv_last12 CF CG H1 K0 K1 K2 K3 K4 K5 (by omega) hO hJ
  · rcases LK with K1 | ⟨K0, K1, K2, K3, K4, K5⟩
    · exact dv_last21 CF CG H0 H1 H2 H3 K1 hO hJ
    · exact dv_last22 CF CG H0 H1 H2 H3 K0 K1 K2 K3 K4 K5 (by omega) hO hJ

end Go.Proofs.Ytncmekbfmgcbnaa
