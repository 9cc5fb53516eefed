/- WorkerMemory: what it computes, and its row. Conditions: none. -/
import Derived.Test.YtcpkneemhfnanaaGreatProg
import Derived.Test.YtcpkneemhfnanaaGreatWorkT
import Derived.Test.YtcpkneemhfnanaaGreatRows
import Derived.Test.YtcpkneemhfnanaaGreatSxT
import Derived.Test.YtcpkneemhfnanaaGreatSxNc
namespace Go.Proofs.YtcpkneemhfnanaaGreat
open Go.Sx
set_option maxRecDepth 100000
set_option linter.unusedVariables false
set_option linter.unusedSimpArgs false
/- reprise/repriselaw17.WorkerMemory -/
def sx6 (d_0 : Int) (d_1 : Int) (d_2 : Int) (d_3 : Option Addr) (d_3_n d_3_c : Nat) (d_4 : Int) (d_5 : Int) (d_6 : Int) (d_7 : Int) (d_8 : Option Addr) (d_8_n d_8_c : Nat) (d_9 : Int) (d_10 : Option Addr) (d_10_n d_10_c : Nat) (R : Ending → World → Prop) (w : World) : Prop :=
  ∀ w1, Grew w w1 → CallsW Tryz.prog 8 [] w1 (RetR R fun u3 w2 => ∃ (b4 : Bool), u3 = .bool b4 ∧ (((!b4) = true → R (.returned (.bool false)) w2) ∧ ((!b4) = false → ∀ w6, Grew w2 w6 → ∀ (b7 : Nat) (w8 : World), Alloc w6 w8
    b7 (.cells #[] 79) → SemW Tryz.prog (Builtin.append_ #[22, 22] 22 #[.slice (some ⟨b7, 0, none⟩) 0 0, .slice d_3 d_3_n d_3_c]) (fun u10 w9 => ∃ (a11 : Option Addr) (l11 c11 : Nat), u10 = .slice a11 l11 c11 ∧ CallsW
    Tryz.prog 23 [.agg #[.int .i64 d_0, .int .i64 d_1, .int .i64 d_2, .slice a11 l11 c11, .int .i64 d_4, .int .i64 d_5, .int .i64 d_6, .int .i64 d_7, .slice d_8 d_8_n d_8_c, .int .i64 d_9, .slice d_10 d_10_n d_10_c]] w9
    (RetR R fun u13 w12 => ∃ (p14 : Option Addr) (p15 : Option Addr) (a16 : Option Addr) (l16 c16 : Nat), u13 = .tuple #[.pointer p14, .pointer p15, .slice a16 l16 c16] ∧ (((Option.isNone p15) = true → CallsW Tryz.prog 24
    [.agg #[.int .i64 d_0, .int .i64 d_1, .int .i64 d_2, .slice a11 l11 c11, .int .i64 d_4, .int .i64 d_5, .int .i64 d_6, .int .i64 d_7]] w12 (RetR R fun u19 w18 => ∃ (n20 : Int), u19 = .int .i64 n20 ∧ R (.returned (.bool
    (n20 != 0))) w18)) ∧ ((Option.isNone p15) = false → ∃ (I22 : Int → World → Prop) (m22 : Int → World → Nat), I22 0 w12 ∧ ∀ (n23 : Int) (w24 : World), I22 n23 w24 → (((decide (n23 < ((l11 : Nat) : Int))) = true →
    withSome a11 (fun d25 => (0 ≤ n23 ∧ n23 < (l11 : Nat)) ∧ RoomAt w24 (Addr.add d25 (n23.toNat * 3)) 0 [.int .i64 1, .int .i64 0, .float .f64 13830554455654793216] ∧ ∀ w26, w26 = setCells w24 (Addr.add d25 (n23.toNat *
    3)) 0 [.int .i64 1, .int .i64 0, .float .f64 13830554455654793216] → (I22 (IntKind.i64.wrap (n23 + 1)) w26 ∧ m22 (IntKind.i64.wrap (n23 + 1)) w26 < m22 n23 w24))) ∧ ((decide (n23 < ((l11 : Nat) : Int))) = false → ∀
    (b27 : Nat) (w28 : World), Alloc w24 w28 b27 (.cells #[] 3) → SemW Tryz.prog (Builtin.append_ #[44, 44] 44 #[.slice (some ⟨b27, 0, none⟩) 0 0, .slice a16 l16 c16]) (fun u30 w29 => ∃ (a31 : Option Addr) (l31 c31 : Nat),
    u30 = .slice a31 l31 c31 ∧ ∀ (b32 : Nat) (w33 : World), Alloc w29 w33 b32 (.cells #[.int .i64 71] 3) → SemW Tryz.prog (Builtin.append_ #[44, 44] 44 #[.slice a31 l31 c31, .slice (some ⟨b32, 0, none⟩) 1 1]) (fun u35 w34
    => ∃ (a36 : Option Addr) (l36 c36 : Nat), u35 = .slice a36 l36 c36 ∧ (0 ≤ ((l16 : Nat) : Int) ∧ ((l16 : Nat) : Int) ≤ (c36 : Nat)) ∧ CallsW Tryz.prog 25 [.int .i64 1, .int .i64 0, .int .i64 0, .slice a36 (((l16 : Nat)
    : Int).toNat) c36] w34 (RetR R fun u38 w37 => ∃ (n39 : Int) (n40 : Int) (n41 : Int) (n42 : Int) (n43 : Int) (n44 : Int) (a45 : Option Addr) (l45 c45 : Nat) (a46 : Option Addr) (l46 c46 : Nat) (a47 : Option Addr) (l47
    c47 : Nat), u38 = .agg #[.int .i64 n39, .int .i64 n40, .int .i64 n41, .int .i64 n42, .int .i64 n43, .int .i64 n44, .slice a45 l45 c45, .slice a46 l46 c46, .slice a47 l47 c47] ∧ CallsW Tryz.prog 13 [.pointer p15,
    .pointer p14, .agg #[.int .i64 n39, .int .i64 n40, .int .i64 n41, .int .i64 n42, .int .i64 n43, .int .i64 n44, .slice a45 l45 c45, .slice a46 l46 c46, .slice a47 l47 c47]] w37 (RetR R fun u50 w49 => ∃ (a51 : Option
    Addr) (l51 c51 : Nat) (n52 : Int), u50 = .tuple #[.slice a51 l51 c51, .int .i64 n52] ∧ CallsW Tryz.prog 26 [.slice a51 l51 c51, .int .i64 n52, .int .i64 2, .int .i64 0] w49 (RetR R fun u55 w54 => ∃ (n56 : Int) (n57 :
    Int) (n58 : Int) (n59 : Int) (n60 : Int) (n61 : Int) (a62 : Option Addr) (l62 c62 : Nat) (a63 : Option Addr) (l63 c63 : Nat) (a64 : Option Addr) (l64 c64 : Nat) (b65 : Bool), u55 = .tuple #[.agg #[.int .i64 n56, .int
    .i64 n57, .int .i64 n58, .int .i64 n59, .int .i64 n60, .int .i64 n61, .slice a62 l62 c62, .slice a63 l63 c63, .slice a64 l64 c64], .bool b65] ∧ ∀ w67, Grew w54 w67 → (((!b65) = true → R (.returned (.bool false)) w67)
    ∧ ((!b65) = false → CallsW Tryz.prog 27 [.slice a36 (((l16 : Nat) : Int).toNat) c36, .slice a16 l16 c16] w67 (RetR R fun u69 w68 => ∃ (b70 : Bool), u69 = .bool b70 ∧ (((!b70) = true → R (.returned (.bool false)) w68) ∧
    ((!b70) = false → ∀ (b72 : Nat) (w73 : World), Alloc w68 w73 b72 (.cells #[] 3) → SemW Tryz.prog (Builtin.append_ #[44, 44] 44 #[.slice (some ⟨b72, 0, none⟩) 0 0, .slice a62 l62 c62]) (fun u75 w74 => ∃ (a76 : Option
    Addr) (l76 c76 : Nat), u75 = .slice a76 l76 c76 ∧ ∃ (I77 : Int → World → Prop) (m77 : Int → World → Nat), I77 0 w74 ∧ ∀ (n78 : Int) (w79 : World), I77 n78 w79 → (((decide (n78 < ((((l16 : Nat) : Int).toNat : Nat) :
    Int))) = true → withSome a36 (fun d80 => (0 ≤ n78 ∧ n78 < (((l16 : Nat) : Int).toNat : Nat)) ∧ RoomAt w79 (Addr.add d80 (n78.toNat * 1)) 0 [.int .i64 250] ∧ ∀ w81, w81 = setCells w79 (Addr.add d80 (n78.toNat * 1)) 0
    [.int .i64 250] → withSome a62 (fun d82 => (0 ≤ n78 ∧ n78 < (l62 : Nat)) ∧ RoomAt w81 (Addr.add d82 (n78.toNat * 1)) 0 [.int .i64 251] ∧ ∀ w83, w83 = setCells w81 (Addr.add d82 (n78.toNat * 1)) 0 [.int .i64 251] →
    (I77 (IntKind.i64.wrap (n78 + 1)) w83 ∧ m77 (IntKind.i64.wrap (n78 + 1)) w83 < m77 n78 w79)))) ∧ ((decide (n78 < ((((l16 : Nat) : Int).toNat : Nat) : Int))) = false → CallsW Tryz.prog 21 [.pointer p15] w79 (RetR R fun
    u85 w84 => ∃ (a86 : Option Addr) (l86 c86 : Nat), u85 = .slice a86 l86 c86 ∧ (((((l86 : Nat) : Int) != 1) = true → R (.returned (.bool false)) w84) ∧ ((((l86 : Nat) : Int) != 1) = false → withSome a86 (fun d88 => (0 ≤
    (0 : Int) ∧ (0 : Int) < (l86 : Nat)) ∧ ∃ (a89 : Option Addr) (l89 c89 : Nat), w84.cell? (Addr.add d88 2) = some (.slice a89 l89 c89) ∧ CallsW Tryz.prog 27 [.slice a89 l89 c89, .slice a76 l76 c76] w84 (RetR R fun u91
    w90 => ∃ (b92 : Bool), u91 = .bool b92 ∧ (((!b92) = true → R (.returned (.bool false)) w90) ∧ ((!b92) = false → withSome a86 (fun d94 => (0 ≤ (0 : Int) ∧ (0 : Int) < (l86 : Nat)) ∧ ∃ (a95 : Option Addr) (l95 c95 :
    Nat), w90.cell? (Addr.add d94 2) = some (.slice a95 l95 c95) ∧ withSome a95 (fun d96 => (0 ≤ (0 : Int) ∧ (0 : Int) < (l95 : Nat)) ∧ RoomAt w90 d96 0 [.int .i64 252] ∧ ∀ w97, w97 = setCells w90 d96 0 [.int .i64 252] →
    CallsW Tryz.prog 25 [.int .i64 3, .int .i64 0, .int .i64 0, .slice a76 l76 c76] w97 (RetR R fun u99 w98 => ∃ (n100 : Int) (n101 : Int) (n102 : Int) (n103 : Int) (n104 : Int) (n105 : Int) (a106 : Option Addr) (l106 c106
    : Nat) (a107 : Option Addr) (l107 c107 : Nat) (a108 : Option Addr) (l108 c108 : Nat), u99 = .agg #[.int .i64 n100, .int .i64 n101, .int .i64 n102, .int .i64 n103, .int .i64 n104, .int .i64 n105, .slice a106 l106 c106,
    .slice a107 l107 c107, .slice a108 l108 c108] ∧ CallsW Tryz.prog 13 [.pointer p15, .pointer p14, .agg #[.int .i64 n100, .int .i64 n101, .int .i64 n102, .int .i64 n103, .int .i64 n104, .int .i64 n105, .slice a106 l106
    c106, .slice a107 l107 c107, .slice a108 l108 c108]] w98 (RetR R fun u111 w110 => ∃ (a112 : Option Addr) (l112 c112 : Nat) (n113 : Int), u111 = .tuple #[.slice a112 l112 c112, .int .i64 n113] ∧ (((n113 != 0) = true →
    R (.returned (.bool false)) w110) ∧ ((n113 != 0) = false → (((((l112 : Nat) : Int) != d_1) = true → R (.returned (.bool false)) w110) ∧ ((((l112 : Nat) : Int) != d_1) = false → CallsW Tryz.prog 21 [.pointer p15] w110
    (RetR R fun u116 w115 => ∃ (a117 : Option Addr) (l117 c117 : Nat), u116 = .slice a117 l117 c117 ∧ withSome a117 (fun d119 => (0 ≤ (0 : Int) ∧ (0 : Int) < (l117 : Nat)) ∧ ∃ (a120 : Option Addr) (l120 c120 : Nat),
    w115.cell? (Addr.add d119 2) = some (.slice a120 l120 c120) ∧ CallsW Tryz.prog 27 [.slice a120 l120 c120, .slice a76 l76 c76] w115 (RetR R fun u122 w121 => ∃ (b123 : Bool), u122 = .bool b123 ∧ (((!b123) = true → R
    (.returned (.bool false)) w121) ∧ ((!b123) = false → ∃ (I125 : Option Addr → Nat → Nat → Int → World → Prop) (m125 : Option Addr → Nat → Nat → Int → World → Nat), I125 none 0 0 0 w121 ∧ ∀ (a126 : Option Addr) (l126
    c126 : Nat) (n127 : Int) (w128 : World), I125 a126 l126 c126 n127 w128 → (((decide (n127 < d_1)) = true → ∀ n129 : Int, n129 = IntKind.i64.wrap ((1 : Int) + d_2) → ∀ n130 : Int, n130 = IntKind.i64.wrap (n129 + n127) →
    CallsW Tryz.prog 25 [.int .i64 5, .int .i64 n130, .int .i64 0, .slice none 0 0] w128 (RetR R fun u132 w131 => ∃ (n133 : Int) (n134 : Int) (n135 : Int) (n136 : Int) (n137 : Int) (n138 : Int) (a139 : Option Addr) (l139
    c139 : Nat) (a140 : Option Addr) (l140 c140 : Nat) (a141 : Option Addr) (l141 c141 : Nat), u132 = .agg #[.int .i64 n133, .int .i64 n134, .int .i64 n135, .int .i64 n136, .int .i64 n137, .int .i64 n138, .slice a139 l139
    c139, .slice a140 l140 c140, .slice a141 l141 c141] ∧ CallsW Tryz.prog 13 [.pointer p15, .pointer p14, .agg #[.int .i64 n133, .int .i64 n134, .int .i64 n135, .int .i64 n136, .int .i64 n137, .int .i64 n138, .slice a139
    l139 c139, .slice a140 l140 c140, .slice a141 l141 c141]] w131 (RetR R fun u144 w143 => ∃ (a145 : Option Addr) (l145 c145 : Nat) (n146 : Int), u144 = .tuple #[.slice a145 l145 c145, .int .i64 n146] ∧ (((n146 != 0) =
    true → R (.returned (.bool false)) w143) ∧ ((n146 != 0) = false → (((((l145 : Nat) : Int) != 1) = true → R (.returned (.bool false)) w143) ∧ ((((l145 : Nat) : Int) != 1) = false → ∀ (b148 : Nat) (w149 : World), Alloc
    w143 w149 b148 (.cells #[] 83) → withSome a145 (fun d150 => (0 ≤ (0 : Int) ∧ (0 : Int) < (l145 : Nat)) ∧ ∃ (a151 : Option Addr) (l151 c151 : Nat), w149.cell? (Addr.add d150 8) = some (.slice a151 l151 c151) ∧ SemW
    Tryz.prog (Builtin.append_ #[46, 46] 46 #[.slice (some ⟨b148, 0, none⟩) 0 0, .slice a151 l151 c151]) (fun u153 w152 => ∃ (a154 : Option Addr) (l154 c154 : Nat), u153 = .slice a154 l154 c154 ∧ ∃ (I155 : Int → World →
    Prop) (m155 : Int → World → Nat), I155 0 w152 ∧ ∀ (n156 : Int) (w157 : World), I155 n156 w157 → withSome a145 (fun d158 => (0 ≤ (0 : Int) ∧ (0 : Int) < (l145 : Nat)) ∧ ∃ (a159 : Option Addr) (l159 c159 : Nat),
    w157.cell? (Addr.add d158 8) = some (.slice a159 l159 c159) ∧ (((decide (n156 < ((l159 : Nat) : Int))) = true → withSome a145 (fun d160 => (0 ≤ (0 : Int) ∧ (0 : Int) < (l145 : Nat)) ∧ ∃ (a161 : Option Addr) (l161 c161
    : Nat), w157.cell? (Addr.add d160 8) = some (.slice a161 l161 c161) ∧ withSome a161 (fun d162 => (0 ≤ n156 ∧ n156 < (l161 : Nat)) ∧ RoomAt w157 (Addr.add d162 (n156.toNat * 3)) 0 [.int .u64 0, .bool false, .int .u64
    0] ∧ ∀ w163, w163 = setCells w157 (Addr.add d162 (n156.toNat * 3)) 0 [.int .u64 0, .bool false, .int .u64 0] → ∀ n164 : Int, n164 = IntKind.i64.wrap (n156 + 1) → (I155 n164 w163 ∧ m155 n164 w163 < m155 n156 w157)))) ∧
    ((decide (n156 < ((l159 : Nat) : Int))) = false → CallsW Tryz.prog 25 [.int .i64 5, .int .i64 n130, .int .i64 0, .slice none 0 0] w157 (RetR R fun u166 w165 => ∃ (n167 : Int) (n168 : Int) (n169 : Int) (n170 : Int)
    (n171 : Int) (n172 : Int) (a173 : Option Addr) (l173 c173 : Nat) (a174 : Option Addr) (l174 c174 : Nat) (a175 : Option Addr) (l175 c175 : Nat), u166 = .agg #[.int .i64 n167, .int .i64 n168, .int .i64 n169, .int .i64
    n170, .int .i64 n171, .int .i64 n172, .slice a173 l173 c173, .slice a174 l174 c174, .slice a175 l175 c175] ∧ CallsW Tryz.prog 13 [.pointer p15, .pointer p14, .agg #[.int .i64 n167, .int .i64 n168, .int .i64 n169, .int
    .i64 n170, .int .i64 n171, .int .i64 n172, .slice a173 l173 c173, .slice a174 l174 c174, .slice a175 l175 c175]] w165 (RetR R fun u178 w177 => ∃ (a179 : Option Addr) (l179 c179 : Nat) (n180 : Int), u178 = .tuple
    #[.slice a179 l179 c179, .int .i64 n180] ∧ ∀ w182, Grew w177 w182 → (((n180 != 0) = true → R (.returned (.bool false)) w182) ∧ ((n180 != 0) = false → (((((l179 : Nat) : Int) != 1) = true → R (.returned (.bool false))
    w182) ∧ ((((l179 : Nat) : Int) != 1) = false → withSome a179 (fun d183 => (0 ≤ (0 : Int) ∧ (0 : Int) < (l179 : Nat)) ∧ ∃ (a184 : Option Addr) (l184 c184 : Nat), w182.cell? (Addr.add d183 8) = some (.slice a184 l184
    c184) ∧ CallsW Tryz.prog 28 [.slice a184 l184 c184, .slice a154 l154 c154] w182 (RetR R fun u186 w185 => ∃ (b187 : Bool), u186 = .bool b187 ∧ SameB w182 w185 [(Addr.add d183 8)] ∧ (((!b187) = true → R (.returned (.bool
    false)) w185) ∧ ((!b187) = false → withSome a112 (fun d189 => (0 ≤ n127 ∧ n127 < (l112 : Nat)) ∧ ∃ (a190 : Option Addr) (l190 c190 : Nat), w185.cell? (Addr.add (Addr.add d189 (n127.toNat * 9)) 7) = some (.slice a190
    l190 c190) ∧ CallsW Tryz.prog 30 [.slice a154 l154 c154] w185 (RetR R fun u192 w191 => ∃ (a193 : Option Addr) (l193 c193 : Nat), u192 = .slice a193 l193 c193 ∧ SameB w185 w191 [(Addr.add (Addr.add d189 (n127.toNat *
    9)) 7), (Addr.add d183 8)] ∧ CallsW Tryz.prog 29 [.slice a190 l190 c190, .slice a193 l193 c193] w191 (RetR R fun u196 w195 => ∃ (b197 : Bool), u196 = .bool b197 ∧ SameB w191 w195 [(Addr.add (Addr.add d189 (n127.toNat *
    9)) 7), (Addr.add d183 8)] ∧ (((!b197) = true → R (.returned (.bool false)) w195) ∧ ((!b197) = false → CallsW Tryz.prog 31 [.int .i64 d_4, .slice a126 l126 c126, .slice a154 l154 c154] w195 (RetR R fun u200 w199 => ∃
    (a201 : Option Addr) (l201 c201 : Nat) (n202 : Int), u200 = .tuple #[.slice a201 l201 c201, .int .i64 n202] ∧ (((n202 != 0) = true → R (.returned (.bool false)) w199) ∧ ((n202 != 0) = false → ∀ n204 : Int, n204 =
    IntKind.i64.wrap (n127 + 1) → (I125 a201 l201 c201 n204 w199 ∧ m125 a201 l201 c201 n204 w199 < m125 a126 l126 c126 n127 w128))))))))))))))))))))))) w149)))))))) ∧ ((decide (n127 < d_1)) = false → CallsW Tryz.prog 32
    [.pointer p14, .slice a16 l16 c16, .slice a76 l76 c76] w128 (RetR R fun u206 w205 => ∃ (a207 : Option Addr) (l207 c207 : Nat) (n208 : Int), u206 = .tuple #[.slice a207 l207 c207, .int .i64 n208] ∧ CallsW Tryz.prog 33
    [.slice d_3 d_3_n d_3_c, .int .i64 d_4, .slice a207 l207 c207] w205 (RetR R fun u211 w210 => ∃ (a212 : Option Addr) (l212 c212 : Nat) (n213 : Int) (n214 : Int), u211 = .tuple #[.slice a212 l212 c212, .int .i64 n213,
    .int .i64 n214] ∧ (((n208 == 0) = true → (((n214 == 0) = true → CallsW Tryz.prog 28 [.slice a126 l126 c126, .slice a212 l212 c212] w210 (RetR R fun u217 w216 => ∃ (b218 : Bool), u217 = .bool b218 ∧ R (.returned (.bool
    b218)) w216)) ∧ ((n214 == 0) = false → R (.returned (.bool false)) w210))) ∧ ((n208 == 0) = false → R (.returned (.bool false)) w210))))))))))))))))))))))))))))) w73))))))))) w33) w28)))))) w8)))
theorem sx6.ok {d_0 : Int} {d_1 : Int} {d_2 : Int} {d_3 : Option Addr} {d_3_n d_3_c : Nat} {d_4 : Int} {d_5 : Int} {d_6 : Int} {d_7 : Int} {d_8 : Option Addr} {d_8_n d_8_c : Nat} {d_9 : Int} {d_10 : Option Addr} {d_10_n d_10_c : Nat} {R : Ending → World → Prop} {w : World} (h : sx6 d_0 d_1 d_2 d_3 d_3_n d_3_c d_4 d_5 d_6 d_7 d_8 d_8_n d_8_c d_9 d_10 d_10_n d_10_c R w) : CallsW Tryz.prog 6 [.agg #[.int .i64 d_0, .int .i64 d_1, .int .i64 d_2, .slice d_3 d_3_n d_3_c, .int .i64 d_4, .int .i64 d_5, .int .i64 d_6, .int .i64 d_7, .slice d_8 d_8_n d_8_c, .int .i64 d_9, .slice d_10 d_10_n d_10_c]] w R :=
  callsW_of mix Tryz.func6 (by kernel_rfl) (by kernel_rfl) (Eq.mpr (by kernel_rfl : denFn Tryz.prog { locals := [1, 3, 13], sem := [39, 68, 70, 99, 190], named := [164, 167, 169, 199], draws := [(47, { order := (.cons 0 (.cons 1 (.cons 2 (.cons 3 (.cons 4 (.cons 5 (.cons 6 (.cons 7 (.cons 8 (.cons 9 (.cons 10 (.cons 11 (.cons 12 (.cons 13 (.cons 14 (.cons 15 (.cons 16 (.cons 17 (.cons 18 (.cons 19 (.cons 20 (.cons 21 (.cons 22 (.cons 23 (.cons 24 (.cons 25 (.cons 26 .nil))))))))))))))))))))))))))), bars := [] })], loops := [(12, { slots := [(9, .int .i64)], cells := [] }), (22, { slots := [(16, .int .i64)], cells := [] }), (43, { slots := [(25, .int .i64)], cells := [] }), (1035, { slots := [(19, .slice), (20, .int .i64)], cells := [] })] } Tryz.f6 [.agg #[.int .i64 d_0, .int .i64 d_1, .int .i64 d_2, .slice d_3 d_3_n d_3_c, .int .i64 d_4, .int .i64 d_5, .int .i64 d_6, .int .i64 d_7, .slice d_8 d_8_n d_8_c, .int .i64 d_9, .slice d_10 d_10_n d_10_c]] R w = sx6 d_0 d_1 d_2 d_3 d_3_n d_3_c d_4 d_5 d_6 d_7 d_8 d_8_n d_8_c d_9 d_10 d_10_n d_10_c R w) h)

theorem msg_cells {w : World} {d : Addr} {k : Nat} {x : Msg} (h : CellsAt w (d.add (k * Enc.msg.sz)) 0 (Enc.msg.f x)) : w.cell? (Addr.add (Addr.add d (((k : Nat) : Int).toNat * 9)) 7) = some (.slice x.k.1 x.k.2.1 x.k.2.2) ∧ w.cell? (Addr.add (Addr.add d (((k : Nat) : Int).toNat * 9)) 8) = some (.slice x.p.1 x.p.2.1 x.p.2.2) := by
  have h7 := cellsAt_get h 7 _ rfl
  have h8 := cellsAt_get h 8 _ rfl
  exact ⟨by simpa [Enc.msg] using h7, by simpa [Enc.msg] using h8⟩

set_option maxHeartbeats 8000000 in
theorem WorkerMemory_ok {x : CaseX} {w : World} (hx : CaseIn w x) :
    CallsW Tryz.prog 6 [x.val] w (Rets fun v w' => v = .bool true ∧ Grew w w') := by
  refine sx6.ok ?_
  unfold sx6
  obtain ⟨rs, hrs, hrf⟩ := hx.rl
  obtain ⟨fr, hfr⟩ := hx.fl
  have nb : ∀ {x y : World}, SameB x y [] := by intro x y; simp [SameB]
  intro w1 hg1
  refine awakeW_ok.use fun v wa ⟨hv, hga⟩ => ?_
  subst hv
  have hga := hg1.trans hga
  refine ⟨_, rfl, fun h => (by cases h), fun _ w2 hg2 b7 w8 hal8 => ?_⟩
  have hg2 := hga.trans hg2
  have hg8 := hg2.trans hal8.grew
  have ho8 : Own w8 w2.heap.size 79 Enc.op3 (some ⟨b7, 0, none⟩) 0 0 [] := Own.alloc (l := []) hal8 (Nat.le_refl _) rfl (by simp [maxLen])
  have hp8 := hx.plan.grew hg8
  refine append_sl elOp ho8 hp8.1 hp8.2.1 hp8.2.2.1 hal8.grew.size (by have := hx.opl.1; simpa using this) (by have := hx.opl.2; simp; omega) ?_
  rintro v w9 ⟨a11, l11, c11, rfl, ho11, hu11, hb11⟩
  rw [List.nil_append] at ho11
  have hg29 : Grew w2 w9 := hal8.grew.then_own hu11 fun b hb => (ho8.blk hb).1
  have hg9 := hg2.trans hg29
  refine ⟨_, _, _, rfl, ?_⟩
  have hpl : Plan.At w9 ⟨x.p.c, (a11, l11, c11)⟩ := ho11.reads
  refine (ready_ok (p := ⟨x.p.c, (a11, l11, c11)⟩) (off := x.off) hpl hx.ops (hrs.grew hg9) hrf (hfr.grew hg9)).use fun u w12 ⟨hg12, hc⟩ => ?_
  have hg12' := hg9.trans hg12
  rcases hc with ⟨hb, hv⟩ | ⟨hgd, sx, s, X, a16, l10, c16, f, hv, P0, ho16, hap16, hE, hsp, hsl⟩
  · subst hv
    refine ⟨_, _, _, _, _, rfl, fun _ => (PCheck_ok (x := ⟨x.p.c, (a11, l11, c11)⟩) (hpl.grew hg12)).use fun u w18 ⟨hv, hg18⟩ => ?_, fun h => (by cases h)⟩
    subst hv
    refine ⟨_, rfl, _, rfl, ?_, hg12'.trans hg18⟩
    have : checkP x.p.c ≠ 0 := fun h => by simp only at hb; rw [checkP_good.1 h] at hb; cases hb
    simp [this]
  subst hv
  simp only at hgd P0 hsp hsl
  have hG := goodP_iff.1 hgd
  have hfit := P0.src.fits
  have hSt := hG.stores; have hWk := hG.workers; have hPt := hG.parts
  obtain ⟨hf1, hf2⟩ := ends_256 hfit hE
  have ht1 := take_new hG hfit hE
  have hnA := newA_is (s := s) (f := f) hG hE (V := W0 x.p.c) rfl 7 1
  have hl10 : l10 = f.length := ho16.len
  refine ⟨_, _, _, _, _, rfl, fun h => (by cases h), fun _ => ?_⟩
  -- the plan's steps are written over
  refine fill_own (E := Enc.op3) (ho11.grew hg12) (⟨1, 0, 13830554455654793216⟩ : OpV) fun l' w24 hl' ho24 hu24 => ?_
  have z9 := hg29.size
  have z11 : ∀ b, Blk a11 b → w2.heap.size ≤ b ∧ b < w9.heap.size := fun b hb => ho11.blk hb
  have P24 : Pair2 w2 w24 sx s X ⟨x.p.c, 1, []⟩ := ⟨(srcBase P0.src z9).upd hu24 fun b hb hb' => by have := (P0.src.foot hb).1; have := z11 b hb'; omega, (P0.wrk.base z9).upd hu24 fun b hb hb' => by have := (P0.wrk.foot hb).1; have := z11 b hb'; omega, P0.apart, (hg29.trans hg12).then_own hu24 fun b hb => (z11 b hb).1⟩
  have ho24f := ho16.upd hu24 fun b hb hb' => by have := (ho16.blk hb).1; have := z11 b hb'; omega
  intro b27 w28 hal28
  have ho28 : Own w28 w24.heap.size 3 (Enc.int .i64) (some ⟨b27, 0, none⟩) 0 0 [] := Own.alloc (l := []) hal28 (Nat.le_refl _) rfl (by simp [maxLen])
  have ho28f := ho24f.grew hal28.grew
  refine append_sl elCI ho28 ho28f.sl ho28f.len ho28f.out_none hal28.grew.size (by simp only [maxLen, List.length_nil]; omega) (by simp; omega) ?_
  rintro v w29 ⟨a31, l31, c31, rfl, ho29, hu29, hb29⟩
  rw [List.nil_append] at ho29
  have hg29' : Grew w24 w29 := hal28.grew.then_own hu29 fun b hb => (ho28.blk hb).1
  refine ⟨_, _, _, rfl, fun b32 w33 hal33 => ?_⟩
  refine append_new (l2 := [71]) elCI ho29 hal33 rfl rfl hg29'.size (by simp only [maxLen, List.length_singleton]; omega) (by simp only [List.length_singleton]; omega) ?_
  rintro v w34 ⟨a10, l36, c10, rfl, ho34, hu34, hb34⟩
  have hg34' : Grew w24 w34 := hg29'.then_own hu34 fun b hb => (ho29.blk hb).1
  have hl36 := ho34.len
  have hle36 := ho34.le
  simp only [List.length_append, List.length_singleton] at hl36
  refine ⟨_, _, _, rfl, ⟨by omega, by omega⟩, ?_⟩
  rw [Int.toNat_natCast]
  have ho10 : Own w34 w24.heap.size 3 (Enc.int .i64) a10 l10 c10 f := by
    have := ho34.take (k := l10) (by omega)
    rw [hl10, List.take_left] at this
    rwa [hl10]
  have P0' := P24.more hg34'
  have fromC : Clear w34 sx X (Blk a16) := ⟨fun b hb => ⟨by have := (ho24f.blk hb).2; have := hg34'.size; omega, hap16 b hb⟩⟩
  have ho34f := ho24f.grew hg34'
  have mineC : Clear w34 sx X (Blk a10) := Clear.new P24 fun b hb => ho34.blk hb
  have hap10 : ∀ b, Blk a10 b → ¬ sx.Foot b ∧ ¬ WFoot X b := fun b hb => (mineC.out b hb).2
  have mineFrom : ∀ b, Blk a10 b → ¬ Blk a16 b := fun b h1 h2 => by have := (ho34.blk h1).1; have := (ho24f.blk h2).2; omega
  clear P0
  have P0 := P0'
  -- MsgAssign of attempt 7: from here on the worker holds it
  have P16 := P0.more (Grew.refl w34)
  refine msgK_ok.use fun u w17 ⟨hv, hg17⟩ => ?_
  subst hv
  refine ⟨_, _, _, _, _, _, _, _, _, _, _, _, _, _, _, rfl, ?_⟩
  have P17 := P16.more hg17
  have ho17 := (ho10.grew (Grew.refl w34)).grew hg17
  refine (play_ok (m := ⟨msgK 1 0 0 f, (a10, l10, c10), (none, 0, 0), (none, 0, 0)⟩) P17 ⟨ho17.reads, Reads.nil, Reads.nil⟩ (by simp only [msgK]; omega) (by simp [msgK]) (by simp [msgK])).use fun u w29 ⟨a31, l31, c31, X1, xs1, hv, P1⟩ => ?_
  rw [show (⟨x.p.c, 1, []⟩ : WorkV) = W0 x.p.c from rfl] at hv P1
  rw [ht1] at hv P1
  subst hv
  generalize hA : (W0 x.p.c).newA s (msgK 1 0 0 f) = a at P1
  have ha : a = ⟨7, toV s x.p.c.batch f, dealP x.p.c.stores (tableT (bAll x.p.c.ops x.p.c.agg (btwV s f (toV s x.p.c.batch f) f.length)).1), false, []⟩ := hA.symm.trans hnA
  generalize hto : toV s x.p.c.batch f = to at P1 ha
  have hto4 : (1 ≤ to.length ∧ to.length ≤ 4) ∧ ∀ e ∈ to, 0 ≤ e ∧ e ≤ 256 := by
    rw [← hto]
    exact ⟨by rw [toV_len]; exact hf1, toV_256 hfit hG.batch.1 hE⟩
  have hab : a.begun = false := by rw [ha]
  have haa : a.applied = [] := by rw [ha]
  have han : a.number = 7 := by rw [ha]
  have hae : a.ends = to := by rw [ha]
  obtain ⟨r, hr1, hrc, hone⟩ := one_ok (kind := 2) (to := 0) P1.out.own.own.reads P1.is rfl rfl rfl rfl rfl
  subst hr1
  have hre : r.c.ends = to := by rw [hrc]
  have B29 : Base w2 w29 sx s X1 (W1 x.p.c a) f a10 l10 c10 r := base_new (V := ⟨x.p.c, 1, []⟩) P17 ho17.reads ⟨fun b hb => ⟨(ho17.blk hb).2, hap10 b hb⟩⟩ (Grew.refl _) P1
  refine ⟨_, _, _, _, rfl, hone.use fun u w34 ⟨hv, hg34⟩ => ?_⟩
  subst hv
  have B34 := B29.more hg34
  have htol : to.length = f.length := by rw [← hto, toV_len]
  have mine29 := ho17.upd P1.upd fun b hb => (hap10 b hb).2
  have rO29 : Own w29 w17.heap.size 3 (Enc.int .i64) r.e.1 r.e.2.1 r.e.2.2 to := by
    have := (P1.new.each r (by simp)).e
    rwa [hre] at this
  have fromC17 := fromC.more hg17.size
  have fromC29 := fromC17.play P1
  have from29 := (ho34f.grew hg17).upd P1.upd fun b hb => (fromC17.out b hb).2.2
  have z17 := hg17.size
  have rMine : ∀ b, Blk r.e.1 b → ¬ Blk a10 b ∧ ¬ Blk a16 b := fun b hb => ⟨fun h => by have := (rO29.blk hb).1; have := (ho34.blk h).2; omega, fun h => by have := (rO29.blk hb).1; have := (ho34f.blk h).2; omega⟩
  refine ⟨_, _, _, _, _, _, _, _, _, _, _, _, _, _, _, _, rfl, fun w67 hg67 => ⟨fun h => (by cases h), fun _ => ?_⟩⟩
  have hg67' := hg34.trans hg67
  refine (ints_ok (mine29.grew hg67').reads (from29.grew hg67').reads (by omega)).use fun u w68 ⟨hv, hg68⟩ => ?_
  subst hv
  have hg68' := hg67'.trans hg68
  have B68 := B29.more hg68'
  refine ⟨_, rfl, fun h => (by simp at h), fun _ b72 w73 hal73 => ?_⟩
  have ho73 : Own w73 w68.heap.size 3 (Enc.int .i64) (some ⟨b72, 0, none⟩) 0 0 [] := Own.alloc (l := []) hal73 (Nat.le_refl _) rfl (by simp [maxLen])
  have rO73 := (rO29.grew hg68').grew hal73.grew
  refine append_sl elCI ho73 rO73.sl rO73.len rO73.out_none hal73.grew.size (by simp only [maxLen, List.length_nil]; omega) (by simp; omega) ?_
  rintro v w74 ⟨a76, l76, c76, rfl, ho74, hu74, hb74⟩
  rw [List.nil_append] at ho74
  have hg74 : Grew w68 w74 := hal73.grew.then_own hu74 fun b hb => (ho73.blk hb).1
  have B74 := B68.more hg74
  have lR := rO29.len
  -- both lists are written over
  refine ⟨_, _, _, rfl, fun i w' => ∃ (k : Nat) (m1 m2 : List Int), i = k ∧ k ≤ l10 ∧ m1.length = f.length ∧ m2.length = to.length ∧ Own w' w24.heap.size 3 (Enc.int .i64) a10 l10 c10 m1 ∧ Own w' w17.heap.size 3 (Enc.int .i64) r.e.1 r.e.2.1 r.e.2.2 m2 ∧ Upd (fun b => Blk a10 b ∨ Blk r.e.1 b) w74 w', fun i _ => l10 - i.toNat, ⟨0, f, to, rfl, Nat.zero_le _, rfl, rfl, (mine29.grew hg68').grew hg74, (rO29.grew hg68').grew hg74, Upd.refl _ _⟩, ?_⟩
  rintro n78 w79 ⟨k, m1, m2, rfl, hk, hm1, hm2, hoM, hoR, hu79⟩
  refine ⟨fun hlt => ?_, fun _ => ?_⟩
  · simp only [decide_eq_true_eq] at hlt
    have hw : IntKind.i64.wrap ((k : Int) + 1) = ((k + 1 : Nat) : Int) := by rw [IntKind.wrap_i64]; omega
    obtain ⟨d1, hd1, hroom1, hset1, hu1⟩ := hoM.set (i := k) (by omega) 250
    rw [hd1]
    refine ⟨⟨by omega, by omega⟩, by simpa [Enc.int] using hroom1, ?_⟩
    rintro w81 rfl
    have hset1' : Own (setCells w79 (Addr.add d1 (((k : Nat) : Int).toNat * 1)) 0 [.int .i64 250]) w24.heap.size 3 (Enc.int .i64) a10 l10 c10 (m1.set k 250) := by simpa [Enc.int] using hset1
    have hu1' : Upd (Blk a10) w79 (setCells w79 (Addr.add d1 (((k : Nat) : Int).toNat * 1)) 0 [.int .i64 250]) := by simpa [Enc.int] using hu1
    generalize setCells w79 (Addr.add d1 (((k : Nat) : Int).toNat * 1)) 0 [.int .i64 250] = w81 at hset1' hu1'
    have hoR81 := hoR.upd hu1' fun b hb hb' => (rMine b hb).1 hb'
    obtain ⟨d2, hd2, hroom2, hset2, hu2⟩ := hoR81.set (i := k) (by omega) 251
    rw [hd2]
    refine ⟨⟨by omega, by omega⟩, by simpa [Enc.int] using hroom2, ?_⟩
    rintro w83 rfl
    have hset2' : Own (setCells w81 (Addr.add d2 (((k : Nat) : Int).toNat * 1)) 0 [.int .i64 251]) w17.heap.size 3 (Enc.int .i64) r.e.1 r.e.2.1 r.e.2.2 (m2.set k 251) := by simpa [Enc.int] using hset2
    have hu2' : Upd (Blk r.e.1) w81 (setCells w81 (Addr.add d2 (((k : Nat) : Int).toNat * 1)) 0 [.int .i64 251]) := by simpa [Enc.int] using hu2
    have h1 := hset1'.upd hu2' fun b hb hb' => (rMine b hb').1 hb
    rw [← hd1, ← hd2]
    exact ⟨⟨k + 1, _, _, hw, by omega, by rw [List.length_set]; exact hm1, by rw [List.length_set]; exact hm2, h1, hset2', (hu79.trans (hu1'.mono fun b _ h => .inl h)).trans (hu2'.mono fun b _ h => .inr h)⟩, by simp only [hw]; omega⟩
  clear hk
  have clr74 := B74.clr
  have s74 : ∀ b, (Blk a10 b ∨ Blk r.e.1 b) → b < w68.heap.size ∧ ¬ sx.Foot b ∧ ¬ WFoot X1 b ∧ ¬ Blk a16 b ∧ w2.heap.size ≤ b := fun b hb => by
    have g1 := P24.grew.size
    have g2 := P17.grew.size
    rcases hb with hb | hb
    · have := B68.clr.out b (.inl hb)
      exact ⟨this.1, this.2.1, this.2.2, mineFrom b hb, by have := (ho34.blk hb).1; omega⟩
    · have := B68.clr.out b (.inr (.inl hb))
      exact ⟨this.1, this.2.1, this.2.2, (rMine b hb).2, by have := (rO29.blk hb).1; omega⟩
  have P79 : Pair2 w2 w79 sx s X1 (W1 x.p.c a) := ⟨B74.pair.src.upd hu79 fun b hb hb' => (s74 b hb').2.1 hb, B74.pair.wrk.upd hu79 fun b hb hb' => (s74 b hb').2.2.1 hb, B74.pair.apart, B74.pair.grew.then_own hu79 fun b hb => (s74 b hb).2.2.2.2⟩
  have from79 := (((from29.grew hg68').grew hg74)).upd hu79 fun b hb hb' => (s74 b hb').2.2.2.1 hb
  have to79 := ho74.upd hu79 fun b hb hb' => by have := (ho74.blk hb).1; have := (s74 b hb').1; omega
  have z79 := hu79.size
  have fromC79 := fromC29.more (hg68'.trans hg74).size |>.more z79
  have toC74 : Clear w74 sx X1 (Blk a76) := Clear.new B68.pair fun b hb => ho74.blk hb
  have toC79 := toC74.more z79
  rw [← P1.p]
  refine (WHeld_ok P79.wrk (by simp [W1])).use fun u w84 ⟨a86, l86, c86, hs, hv, HO84, hh84, hg84⟩ => ?_
  rw [tell_W1] at hh84
  subst hv
  obtain ⟨h0, rfl, hh0⟩ : ∃ h0 : HeldX, hs = [h0] ∧ h0.c = heldOf 3 a := by
    match hs, hh84 with
    | [h], hh => exact ⟨h, rfl, by simpa using hh⟩
    | [], hh => simp at hh
    | _ :: _ :: _, hh => simp at hh
  have hl86 : l86 = 1 := HO84.own.len
  subst hl86
  have h0e : h0.c.ends = to := by rw [hh0]; exact hae
  refine ⟨_, _, _, rfl, fun h => (by cases h), fun _ => ?_⟩
  obtain ⟨dh, y, hdh, hy, hyc⟩ := HO84.own.reads.at0 (k := 0) (by omega)
  cases hy
  obtain ⟨-, -, c2, -, -⟩ := held_cells hyc
  simp only [Int.toNat_zero, Nat.zero_mul, Addr.add_zero', Int.natCast_zero] at c2
  have bd : (0 : Int) ≤ (0 : Int) ∧ (0 : Int) < ((1 : Nat) : Int) := by omega
  have hE84 := HO84.each h0 (by simp)
  rw [h0e] at hE84
  rw [hdh]
  refine ⟨bd, _, _, _, c2, (ints_ok hE84.reads (to79.grew hg84).reads (by omega)).use fun u w90 ⟨hv, hg90⟩ => ?_⟩
  subst hv
  refine ⟨_, rfl, fun h => (by simp at h), fun _ => ⟨bd, _, _, _, hg90.cell c2, ?_⟩⟩
  obtain ⟨g0, hg0, hroom0, hset0, hu0⟩ := (hE84.grew hg90).set (i := 0) (by omega) 252
  rw [Nat.zero_mul, Addr.add_zero'] at hroom0 hset0 hu0
  have hl0 : h0.e.2.1 = to.length := hE84.len
  rw [hg0]
  refine ⟨⟨by omega, by omega⟩, hroom0, ?_⟩
  rintro w97 rfl
  generalize hW97 : setCells w90 g0 0 [.int .i64 252] = w97
  have hu97 : Upd (Blk h0.e.1) w90 w97 := hW97 ▸ hu0
  have hg90' := hg84.trans hg90
  have z90 := hg90'.size
  have f97 : ∀ b, Blk h0.e.1 b → w79.heap.size ≤ b := fun b hb => (hE84.blk hb).1
  have P97 : Pair2 w2 w97 sx s X1 (W1 x.p.c a) := ⟨(P79.src.grew hg90').upd hu97 fun b hb hb' => by have := (P79.src.foot hb).2; have := f97 b hb'; omega, (P79.wrk.grew hg90').upd hu97 fun b hb hb' => by have := (P79.wrk.foot hb).2; have := f97 b hb'; omega, P79.apart, (P79.grew.trans hg90').then_own hu97 fun b hb => by have := f97 b hb; have := P79.grew.size; omega⟩
  have from97 := (from79.grew hg90').upd hu97 fun b hb hb' => by have := (from79.blk hb).2; have := f97 b hb'; omega
  have to97 := (to79.grew hg90').upd hu97 fun b hb hb' => by have := (to79.blk hb).2; have := f97 b hb'; omega
  have z97 := hu97.size
  obtain ⟨q, hq⟩ : ∃ q : Msg, q = ⟨msgK 3 0 0 to, (a76, l76, c76), (none, 0, 0), (none, 0, 0)⟩ := ⟨_, rfl⟩
  have hqB : ∀ b, q.Blk b → Blk a76 b := fun b hb => by
    rw [hq] at hb
    rcases hb with hb | hb | hb
    · exact hb
    · exact (Blk.none hb).elim
    · exact (Blk.none hb).elim
  have BQ : Base w2 w97 sx s X1 (W1 x.p.c a) f a16 l10 c16 q := by
    refine ⟨P97, from97.reads, by rw [hq]; exact ⟨to97.reads, Reads.nil, Reads.nil⟩, ⟨fun b hb => ?_⟩⟩
    rcases hb with hb | hb
    · exact ((fromC79.more z90).more z97).out b hb
    · exact ((toC79.more z90).more z97).out b (hqB b hb)
  have hqe : q.e = (a76, l76, c76) ∧ q.c.ends = to := by rw [hq]; exact ⟨rfl, rfl⟩
  -- MsgGo
  refine msgK_ok.use fun u w98 ⟨hv, hg98⟩ => ?_
  subst hv
  refine ⟨_, _, _, _, _, _, _, _, _, _, _, _, _, _, _, rfl, ?_⟩
  have B98 := BQ.more hg98
  have e4 := take_go (s := s) hG han hab (by rw [hae]; exact hto4.1) (by rw [hae]; exact hto4.2)
  replace e4 : (W1 x.p.c a).take s (msgK 3 0 0 to) = ⟨W1 x.p.c { a with begun := true }, (List.range x.p.c.stores.toNat).map ((W1 x.p.c a).begins (msgK 3 0 0 to) a), 0⟩ := by rw [← hae]; exact e4
  have hqE98 := B98.rat.e
  rw [hqe.1, hqe.2] at hqE98
  refine (play_ok (m := ⟨msgK 3 0 0 to, (a76, l76, c76), (none, 0, 0), (none, 0, 0)⟩) B98.pair ⟨hqE98, Reads.nil, Reads.nil⟩ (by simp only [msgK]; omega) (by simp [msgK]) (by simp [msgK])).use fun u w110 ⟨a112, l112, c112, X4, xs4, hv, P4⟩ => ?_
  rw [e4] at hv P4
  subst hv
  have hx4 : xs4.length = x.p.c.stores.toNat := by have := congrArg List.length P4.is; simpa using this
  have hl112 : (l112 : Int) = x.p.c.stores := by rw [P4.new.own.len, hx4]; omega
  have B110 := B98.play P4
  refine ⟨_, _, _, _, rfl, fun h => (by cases h), fun _ => ⟨fun h => (by rw [hl112] at h; simp at h), fun _ => ?_⟩⟩
  rw [← P4.p]
  refine (WHeld_ok B110.pair.wrk (by simp [W1])).use fun u w115 ⟨a117, l117, c117, hs2, hv, HO115, hh115, hg115⟩ => ?_
  rw [show (⟨W1 x.p.c { a with begun := true }, (List.range x.p.c.stores.toNat).map ((W1 x.p.c a).begins (msgK 3 0 0 to) a), 0⟩ : TookV).w = W1 x.p.c { a with begun := true } from rfl, tell_W1] at hh115
  subst hv
  obtain ⟨h1, rfl, hh1⟩ : ∃ h1 : HeldX, hs2 = [h1] ∧ h1.c = heldOf 3 { a with begun := true } := by
    match hs2, hh115 with
    | [h], hh => exact ⟨h, rfl, by simpa using hh⟩
    | [], hh => simp at hh
    | _ :: _ :: _, hh => simp at hh
  have hl117 : l117 = 1 := HO115.own.len
  subst hl117
  have h1e : h1.c.ends = to := by rw [hh1]; exact hae
  obtain ⟨dg, y, hdg, hy, hyc⟩ := HO115.own.reads.at0 (k := 0) (by omega)
  cases hy
  obtain ⟨-, -, c2', -, -⟩ := held_cells hyc
  simp only [Int.toNat_zero, Nat.zero_mul, Addr.add_zero', Int.natCast_zero] at c2'
  have hE115 := HO115.each h1 (by simp)
  rw [h1e] at hE115
  have B115 := B110.more hg115
  have hqE115 := B115.rat.e
  rw [hqe.1, hqe.2] at hqE115
  refine ⟨_, _, _, rfl, ?_⟩
  rw [hdg]
  refine ⟨bd, _, _, _, c2', (ints_ok hE115.reads hqE115 (by omega)).use fun u w121 ⟨hv, hg121⟩ => ?_⟩
  subst hv
  refine ⟨_, rfl, fun h => (by simp at h), fun _ => ?_⟩
  -- the tables
  have hrl : (btwV s f to f.length).length ≤ 64 := by rw [← hto]; have := btwV_16 (v := s) hG.batch hE f.length; omega
  have hrF : ∀ y ∈ btwV s f to f.length, y.Fits := btwV_fits hfit _ _ _
  have toGet : ∀ (i : Nat) (e : Int), to[i]? = some e → ∃ e0, f[i]? = some e0 ∧ e0 ≤ e ∧ 0 ≤ e ∧ e ≤ s.len (i : Int) := by
    intro i e he
    have hil : i < f.length := by have := (List.getElem?_eq_some_iff.1 he).1; omega
    have hf0 := List.getElem?_eq_getElem hil
    rw [← hto, toV_get hf0] at he
    have h1 := (endsE_ok.1 hE).2 i _ hf0
    have h2 := len_256 hfit (i : Int)
    have hb := hG.batch
    cases he
    refine ⟨_, hf0, ?_⟩
    unfold toI
    split <;> omega
  have hEto : endsE s to = 0 := endsE_ok.2 ⟨by rw [htol]; exact (endsE_ok.1 hE).1, fun i e he => by obtain ⟨e0, h1, h2, h3, h4⟩ := toGet i e he; omega⟩
  have hfw : forwB f to = true := forwB_iff.2 ⟨htol.symm, fun i e0 e h0 he => by obtain ⟨e1, h1, h2, -⟩ := toGet i e he; rw [h0] at h1; cases h1; exact h2⟩
  have hag : againV s f to = (btwV s f to f.length, 0) := by unfold againV; rw [if_pos ⟨hE, hEto, hfw⟩]
  generalize hR : btwV s f to f.length = R at hrl hrF hag ha
  have tF := tabl_fits (kind := x.p.c.agg) hx.ops hrF
  have tL := tabl_len (l := x.p.c.ops) (kind := x.p.c.agg) (rs := R)
  rw [batch_same] at tF tL
  obtain ⟨tR, tV⟩ := batch_fitV (kind := x.p.c.agg) hG.agg hx.ops hrF
  have haT : a.pairs = dealP x.p.c.stores (tableT (bAll x.p.c.ops x.p.c.agg R).1) := by rw [ha]
  generalize hTT : tableT (bAll x.p.c.ops x.p.c.agg R).1 = T at haT tF tL tR tV
  have S0 : TabSt w2 w121 sx s X4 x.p.c { a with begun := true } f a16 l10 c16 q T [] a112 l112 c112 xs4 none 0 0 none 0 0 0 :=
    ⟨B115.more hg121, P4.out.more (hg115.trans hg121), Reads.nil, ⟨fun b hb => (Blk.none hb).elim⟩, by rw [upTo_zero (by omega)]; exact Reads.nil, ⟨fun b hb => (Blk.none hb).elim⟩⟩
  refine ⟨fun aa nn cc i w' => ∃ (k : Nat) (Y : WorkX), i = k ∧ (k : Int) ≤ x.p.c.stores ∧ Y.p = X4.p ∧ TabSt w2 w' sx s Y x.p.c { a with begun := true } f a16 l10 c16 q T [] a112 l112 c112 xs4 none 0 0 aa nn cc k, fun _ _ _ i _ => 4 - i.toNat, ⟨0, X4, rfl, by omega, rfl, S0⟩, ?_⟩
  rintro a126 l126 c126 n127 w128 ⟨k, Y, rfl, hkS, hY, S1⟩
  rw [← hY]
  refine ⟨fun hlt n129 h129 n130 h130 => ?_, fun hge => ?_⟩
  · simp only [decide_eq_true_eq] at hlt
    have hks : k < x.p.c.stores.toNat := by omega
    have hw : IntKind.i64.wrap ((k : Int) + 1) = ((k + 1 : Nat) : Int) := by rw [IntKind.wrap_i64]; omega
    have e130 : n130 = 1 + x.p.c.workers + (k : Int) := by rw [h130, h129, IntKind.wrap_i64, IntKind.wrap_i64]; omega
    subst e130
    have dl := dealI_len x.p.c.stores T k
    have hbk : a.pairs.getD k [] = dealI x.p.c.stores T k := by rw [haT, List.getD_eq_getElem?_getD, dealP_get hks]; rfl
    refine msgK_ok.use fun u w131 ⟨hv, hg131⟩ => ?_
    subst hv
    refine ⟨_, _, _, _, _, _, _, _, _, _, _, _, _, _, _, rfl, ?_⟩
    have S2 := S1.more hg131
    have e5 := take_began (s := s) hG (a := { a with begun := true }) han rfl hks
    replace e5 : (W1 x.p.c { a with begun := true }).take s (msgK 5 (1 + x.p.c.workers + (k : Int)) 0 []) = ⟨W1 x.p.c { a with begun := true }, [⟨6, 1, 1 + x.p.c.workers + (k : Int), 3, 7, 0, [], [], dealI x.p.c.stores T k⟩], 0⟩ := by rw [← hbk]; exact e5
    refine (play_ok (m := ⟨msgK 5 (1 + x.p.c.workers + (k : Int)) 0 [], (none, 0, 0), (none, 0, 0), (none, 0, 0)⟩) S2.base.pair ⟨Reads.nil, Reads.nil, Reads.nil⟩ (by simp [msgK]) (by simp [msgK]) (by simp [msgK])).use fun u w143 ⟨a145, l145, c145, Y5, xs5, hv, P5⟩ => ?_
    rw [e5] at hv P5
    subst hv
    have S3 := S2.play P5
    obtain ⟨r5, rfl, hr5⟩ : ∃ r5 : Msg, xs5 = [r5] ∧ r5.c.pairs = dealI x.p.c.stores T k := by
      match xs5, P5.is with
      | [h], hh => exact ⟨h, rfl, by have e := hh; simp only [List.map_cons, List.map_nil, List.cons.injEq, and_true] at e; rw [e]⟩
      | [], hh => simp at hh
      | _ :: _ :: _, hh => simp at hh
    have hl145 : l145 = 1 := P5.new.own.len
    subst hl145
    refine ⟨_, _, _, _, rfl, fun h => (by cases h), fun _ => ⟨fun h => (by cases h), fun _ b148 w149 hal149 => ?_⟩⟩
    have rP143 := (P5.new.each r5 (by simp)).p
    rw [hr5] at rP143
    have row149 := P5.new.own.grew hal149.grew
    obtain ⟨dm, ym, hdm, hym, hymc⟩ := row149.reads.at0 (k := 0) (by omega)
    cases hym
    have c8 := (msg_cells hymc).2
    simp only [Int.toNat_zero, Nat.zero_mul, Addr.add_zero', Int.natCast_zero] at c8
    rw [hdm]
    have ho149 : Own w149 w143.heap.size 83 Enc.pair (some ⟨b148, 0, none⟩) 0 0 [] := Own.alloc (l := []) hal149 (Nat.le_refl _) rfl (by simp [maxLen])
    have rP149 := rP143.grew hal149.grew
    refine ⟨bd, _, _, _, c8, append_sl elPair ho149 rP149.sl rP149.len rP149.out_none hal149.grew.size (by simp only [maxLen, List.length_nil]; omega) (by simp; omega) ?_⟩
    rintro v w152 ⟨a154, l154, c154, rfl, ho154, hu154, hb154⟩
    rw [List.nil_append] at ho154
    have hg152 : Grew w143 w152 := hal149.grew.then_own hu154 fun b hb => (ho149.blk hb).1
    have rP152 := rP143.grew hg152
    have row152 := P5.new.own.grew hg152
    have hne : ∀ b, Blk r5.p.1 b → ¬ Blk (some dm) b := fun b hb hb' => own_ne rP143 P5.new.own (by decide) b hb (by rw [hdm]; exact hb')
    have z131 := P5.upd.size
    have bR : ∀ b, Blk r5.p.1 b → w131.heap.size ≤ b ∧ b < w143.heap.size := fun b hb => rP143.blk hb
    refine ⟨_, _, _, rfl, ?_⟩
    refine fill_at (S := Blk r5.p.1) (E := Enc.pair) (w := w152) (Over.refl _ _) rP152 (fun b hb => hb) (vs := [.int .u64 0, .bool false, .int .u64 0]) rfl (ar := some dm) rfl (fun d => Addr.add d 8) bd (fun w2 hov => ?_) fun w157 hov => ?_
    · obtain ⟨d', y', hd', hy', hyc'⟩ := row152.reads.at0 (k := 0) (by omega)
      cases hy'
      rw [hdm] at hd'; cases hd'
      have c8' := (msg_cells hyc').2
      simp only [Int.toNat_zero, Nat.zero_mul, Addr.add_zero', Int.natCast_zero] at c8'
      exact hov.1.cell (fun h => hne _ h ⟨dm, rfl, by simp [add_block]⟩) c8'
    have S4 := TabSt.upd_new S2 (S3.more hg152) hov.1 (by have := hg152.size; omega) fun b hb => ⟨(bR b hb).1, P5.out.x r5 (by simp) b (.inr (.inr hb))⟩
    have ho157 := ho154.upd hov.1 fun b hb hb' => by have := (ho154.blk hb).1; have := (bR b hb').2; omega
    have C157 : Clear w157 sx Y5 (Blk a154) := (Clear.new S3.base.pair fun b hb => ho154.blk hb).more hov.1.size
    refine msgK_ok.use fun u w165 ⟨hv, hg165⟩ => ?_
    subst hv
    refine ⟨_, _, _, _, _, _, _, _, _, _, _, _, _, _, _, rfl, ?_⟩
    have S5 := S4.more hg165
    rw [← P5.p]
    refine (play_ok (m := ⟨msgK 5 (1 + x.p.c.workers + (k : Int)) 0 [], (none, 0, 0), (none, 0, 0), (none, 0, 0)⟩) S5.base.pair ⟨Reads.nil, Reads.nil, Reads.nil⟩ (by simp [msgK]) (by simp [msgK]) (by simp [msgK])).use fun u w177 ⟨a179, l179, c179, Y6, xs6, hv, P6⟩ => ?_
    rw [e5] at hv P6
    subst hv
    have S6 := S5.play P6
    obtain ⟨r6, rfl, hr6⟩ : ∃ r6 : Msg, xs6 = [r6] ∧ r6.c.pairs = dealI x.p.c.stores T k := by
      match xs6, P6.is with
      | [h], hh => exact ⟨h, rfl, by have e := hh; simp only [List.map_cons, List.map_nil, List.cons.injEq, and_true] at e; rw [e]⟩
      | [], hh => simp at hh
      | _ :: _ :: _, hh => simp at hh
    have hl179 : l179 = 1 := P6.new.own.len
    subst hl179
    refine ⟨_, _, _, _, rfl, fun w182 hg182 => ⟨fun h => (by cases h), fun _ => ⟨fun h => (by cases h), fun _ => ?_⟩⟩⟩
    have w182p := ((P6.new.each r6 (by simp)).p).grew hg182
    rw [hr6] at w182p
    obtain ⟨dn, yn, hdn, hyn, hync⟩ := (P6.new.own.grew hg182).reads.at0 (k := 0) (by omega)
    cases hyn
    have c9 := (msg_cells hync).2
    simp only [Int.toNat_zero, Nat.zero_mul, Addr.add_zero', Int.natCast_zero] at c9
    have C165 := C157.more hg165.size
    have ho182 := ((ho157.grew hg165).upd P6.upd fun b hb => (C165.out b hb).2.2).grew hg182
    rw [hdn]
    refine ⟨bd, _, _, _, c9, (pairs_okW w182p.reads ho182.reads (by omega)).use fun u w185 ⟨hv, hg185⟩ => ?_⟩
    subst hv
    have bn := World.block_lt_of_cell? w182 _ c9
    refine ⟨_, rfl, ⟨hg185.block _ bn, trivial⟩, fun h => (by simp at h), fun _ => ?_⟩
    have S7 := (S6.more hg182).more hg185
    have hxk : ∃ xk, xs4[k]? = some xk := ⟨_, List.getElem?_eq_getElem (by omega)⟩
    obtain ⟨xk, hxk⟩ := hxk
    have hxkc : xk.c = (W1 x.p.c a).begins (msgK 3 0 0 to) a k := by
      have h1 : (xs4.map (·.c))[k]? = some xk.c := by rw [List.getElem?_map, hxk]; rfl
      rw [P4.is] at h1
      simp only at h1
      rw [List.getElem?_map, List.getElem?_range hks] at h1
      exact (Option.some.inj h1).symm
    have hkeys : xk.c.keys = (dealI x.p.c.stores T k).map (·.key) := by rw [hxkc]; show (a.pairs.getD k []).map _ = _; rw [hbk]
    obtain ⟨db, yb, hdb, hyb, hybc⟩ := S7.out.own.own.reads.at0 (k := k) (by omega)
    rw [hxk] at hyb; cases hyb
    have c7 := (msg_cells hybc).1
    rw [hdb]
    have ho185 := ho182.grew hg185
    refine ⟨⟨by omega, by omega⟩, _, _, _, c7, (FKeys_ok ho185.reads (by simp only [maxLen]; omega) (by omega)).use fun u w191 ⟨a193, l193, c193, hv, ho193, hg191⟩ => ?_⟩
    subst hv
    have bb := World.block_lt_of_cell? w185 _ c7
    have bn185 : (Addr.add dn 8).block < w185.heap.size := Nat.lt_of_lt_of_le bn hg185.size
    refine ⟨_, _, _, rfl, ⟨hg191.block _ bb, hg191.block _ bn185, trivial⟩, ?_⟩
    have S8 := S7.more hg191
    have hkR := (S8.out.own.each xk (List.mem_of_getElem? hxk)).at.k
    rw [hkeys] at hkR
    refine (keys_okW hkR ho193.reads (by rw [List.length_map]; omega)).use fun u w195 ⟨hv, hg195⟩ => ?_
    subst hv
    refine ⟨_, rfl, ⟨hg195.block _ (Nat.lt_of_lt_of_le bb hg191.size), hg195.block _ (Nat.lt_of_lt_of_le bn185 hg191.size), trivial⟩, fun h => (by simp at h), fun _ => ?_⟩
    have S9 := S8.more hg195
    have ho195 := (ho185.grew hg191).grew hg195
    have ul : (upTo x.p.c.stores T k).length ≤ T.length := List.length_filter_le _ _
    have uF : ∀ z ∈ upTo x.p.c.stores T k, z.Fits := fun z hz => tF z (List.mem_filter.1 hz).1
    have dF : ∀ z ∈ dealI x.p.c.stores T k, z.Fits := fun z hz => tF z (List.mem_filter.1 hz).1
    have uR : Rise (upTo x.p.c.stores T k) := rise_filter tR _
    have dR : Rise (dealI x.p.c.stores T k) := rise_filter tR _
    have uS : soundB (upTo x.p.c.stores T k) = true := by unfold soundB; rw [decide_eq_true_eq]; exact ⟨fun z hz => (tV z (List.mem_filter.1 hz).1).2, uR⟩
    have dS : soundB (dealI x.p.c.stores T k) = true := by unfold soundB; rw [decide_eq_true_eq]; exact ⟨fun z hz => (tV z (List.mem_filter.1 hz).1).2, dR⟩
    refine (Add_ok (kind := x.p.c.agg) S9.all uF (by simp only [maxLen]; omega) ho195.reads dF (by simp only [maxLen]; omega) (by omega)).use fun u w199 ⟨a201, l201, c201, hv, ho201, hg199⟩ => ?_
    simp only [hG.agg, uS, dS, and_self, if_true] at hv ho201
    subst hv
    rw [add_same uR dR, part_merge tR (fun z hz => (tV z hz).1) k] at ho201
    refine ⟨_, _, _, _, rfl, fun h => (by cases h), fun _ n204 h204 => ?_⟩
    rw [h204, hw]
    have S10 := S9.more hg199
    rw [← hdb]
    exact ⟨⟨k + 1, Y6, rfl, by omega, by first | exact P6.p.trans P5.p | exact P6.p.trans (P5.p.trans hY) | exact P6.p, S10.base, S10.out, S10.want, S10.wclr, ho201.reads, Clear.new S9.base.pair fun b hb => ho201.blk hb⟩, by show 4 - (((k + 1 : Nat) : Int)).toNat < 4 - ((k : Int)).toNat; omega⟩
  · simp only [decide_eq_false_iff_not] at hge
    have hkn : k = x.p.c.stores.toNat := by omega
    subst hkn
    have hall := S1.all
    rw [upTo_all (by omega)] at hall
    have hqE := S1.base.rat.e
    rw [hqe.1, hqe.2] at hqE
    refine (Again_ok S1.base.pair.src S1.base.from_ hqE).use fun u w205 ⟨a207, l207, c207, hv, ho207, hg205⟩ => ?_
    rw [hag] at hv ho207
    subst hv
    simp only at ho207
    have hgT : Grew w w205 := hg2.trans (S1.base.pair.grew.trans hg205)
    refine ⟨_, _, _, _, rfl, (Batch_ok (kind := x.p.c.agg) (hx.plan.grew hgT) hx.ops ho207.reads hrF (by omega)).use fun u w210 ⟨a212, l212, c212, hv, ho212, hg210⟩ => ?_⟩
    simp only [hG.ops, hG.agg, and_self, if_true] at hv ho212
    rw [batch_same, hTT] at ho212
    subst hv
    refine ⟨_, _, _, _, _, rfl, fun _ => ⟨fun _ => ?_, fun h => (by cases h)⟩, fun h => (by cases h)⟩
    refine (pairs_okW ((hall.grew hg205).grew hg210) ho212.reads (by omega)).use fun u w216 ⟨hv, hg216⟩ => ?_
    subst hv
    exact ⟨_, rfl, _, rfl, by simp, hgT.trans (hg210.trans hg216)⟩
open Go.ChangeShapes Go.WideShapes Go.ChangeAt Go.RowKit
set_option maxRecDepth 100000 in
theorem workerMemory_lifted (os : Os) (started : os.Started) (H : Type) (enc : TypeId × Value → H) :
    ReturnsInHanded {} Tryz.checked os 6 .any (Rows.workerMemorySpec.pre6 enc Tryz.prog Tryz.f6 Rows.workerMemoryRow.domain false) (Rows.workerMemorySpec.post enc Tryz.prog Tryz.f6 false true false false) := by
  refine returnsInHanded_of_change_sized (C := Tryz.checked) (by kernel_rfl) started (by kernel_rfl) Tryz.func6
    (ChangeSpec.witness6 (enc := enc) (C := Tryz.checked) false ⟨#[], #[.agg #[.int .i64 0, .int .i64 0, .int .i64 0, .slice none 0 0, .int .i64 0, .int .i64 0, .int .i64 0, .int .i64 0, .slice none 0 0, .int .i64 0, .slice none 0 0]], []⟩ 8 (by kernel_rfl) (by kernel_rfl) (by kernel_rfl) (by kernel_rfl)) ?_
  intro W base args ds gs before hval0 hW hcnd hsz0 _
  have hval : ∀ (j : Nat) t v, Tryz.f6.params[j]? = some t → args[j]? = some v → Value.okWide Tryz.prog W .any base t v := hval0
  have hW' := hW
  obtain ⟨p, q, hA0, hV, rfl, hfz, hnd⟩ := hW
  have hA : DataW.TrodAll enc Tryz.prog W 0 (fun _ => true) true Tryz.f6.params.toList args.toList ds p := hA0
  have hsz : (DataW.weightsEach Tryz.prog (Tryz.f6.params.toList ++ _) (ds ++ gs)).all (· ≤ reachBytes) = true := hsz0
  rw [show Tryz.f6.params = #[64] from by kernel_rfl] at hA hval hsz
  have hA1 := hA
  obtain ⟨v0, vs0, d0, ds0, p0, q0, hargs, rfl, rfl, h0, r0⟩ := trodAll_cons hA
  obtain ⟨rfl, rfl, rfl⟩ := trodAll_nil r0
  obtain rfl : args = #[v0] := by cases args; simp_all
  obtain ⟨x0, rfl, hx0⟩ := openCase (j := 0) hsz rfl rfl (hval 0 64 v0 rfl rfl) h0
  clear hA0 hA1 hval0 hsz0
  refine (CallsW.calls ⟨_, Tryz.func6, by kernel_rfl, by kernel_rfl⟩ (WorkerMemory_ok hx0)).mono fun e W' ⟨w', hh, hk, v, he, hv, hg⟩ => ?_
  subst he; subst hv
  exact ⟨_, rfl, post_true (tb := 4) (by kernel_rfl) rfl (by kernel_rfl) (by kernel_rfl) ⟨rfl, rfl, rfl⟩ (by decide +kernel) hW' (below_of hg hh hk)⟩

theorem workerMemory_holds : Rows.WorkerMemorySaid :=
  OpenClaim.holds_of_wide 6 Tryz.f6 rfl rfl rfl rfl rfl rfl rfl ⟨rfl, rfl, rfl, rfl, rfl⟩ rfl rfl rfl rfl rfl (by kernel_rfl) Tryz.func6 (by kernel_rfl)
    (of_decide_eq_true (by kernel_rfl)) (by unfold Func.isWrapper; first | (rw [if_pos (by decide +kernel)]; kernel_rfl) | (rw [if_neg (by decide +kernel)]; exact ⟨rfl, rfl⟩))
    (fun os started H enc _ => workerMemory_lifted os started H enc)
end Go.Proofs.YtcpkneemhfnanaaGreat
