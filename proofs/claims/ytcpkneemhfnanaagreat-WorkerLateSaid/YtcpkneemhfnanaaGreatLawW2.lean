/- WorkerLate: what it computes, and its row. Conditions: none. -/
import Derived.Test.YtcpkneemhfnanaaGreatProg
import Derived.Test.YtcpkneemhfnanaaGreatWorkN
import Derived.Test.YtcpkneemhfnanaaGreatRows
import Derived.Test.YtcpkneemhfnanaaGreatSxT
namespace Go.Proofs.YtcpkneemhfnanaaGreat
open Go.Sx
set_option maxRecDepth 100000
set_option linter.unusedVariables false
set_option linter.unusedSimpArgs false
/- reprise/repriselaw17.WorkerLate -/
def sx5 (d_0 : Int) (d_1 : Int) (d_2 : Int) (d_3 : Option Addr) (d_3_n d_3_c : Nat) (d_4 : Int) (d_5 : Int) (d_6 : Int) (d_7 : Int) (d_8 : Option Addr) (d_8_n d_8_c : Nat) (d_9 : Int) (d_10 : Option Addr) (d_10_n d_10_c : Nat) (i : Int) (p2 : Int) (R : Ending → World → Prop) (w : World) : Prop :=
  ∀ w1, Grew w w1 → CallsW Tryz.prog 8 [] w1 (RetR R fun u3 w2 => ∃ (b4 : Bool), u3 = .bool b4 ∧ (((!b4) = true → R (.returned (.bool false)) w2) ∧ ((!b4) = false → CallsW Tryz.prog 23 [.agg #[.int .i64 d_0, .int .i64 d_1,
    .int .i64 d_2, .slice d_3 d_3_n d_3_c, .int .i64 d_4, .int .i64 d_5, .int .i64 d_6, .int .i64 d_7, .slice d_8 d_8_n d_8_c, .int .i64 d_9, .slice d_10 d_10_n d_10_c]] w2 (RetR R fun u7 w6 => ∃ (p8 : Option Addr) (p9 :
    Option Addr) (a10 : Option Addr) (l10 c10 : Nat), u7 = .tuple #[.pointer p8, .pointer p9, .slice a10 l10 c10] ∧ (((Option.isNone p9) = true → CallsW Tryz.prog 24 [.agg #[.int .i64 d_0, .int .i64 d_1, .int .i64 d_2,
    .slice d_3 d_3_n d_3_c, .int .i64 d_4, .int .i64 d_5, .int .i64 d_6, .int .i64 d_7]] w6 (RetR R fun u13 w12 => ∃ (n14 : Int), u13 = .int .i64 n14 ∧ R (.returned (.bool (n14 != 0))) w12)) ∧ ((Option.isNone p9) = false
    → ∀ w16, Grew w6 w16 → CallsW Tryz.prog 25 [.int .i64 1, .int .i64 0, .int .i64 0, .slice a10 l10 c10] w16 (RetR R fun u18 w17 => ∃ (n19 : Int) (n20 : Int) (n21 : Int) (n22 : Int) (n23 : Int) (n24 : Int) (a25 : Option
    Addr) (l25 c25 : Nat) (a26 : Option Addr) (l26 c26 : Nat) (a27 : Option Addr) (l27 c27 : Nat), u18 = .agg #[.int .i64 n19, .int .i64 n20, .int .i64 n21, .int .i64 n22, .int .i64 n23, .int .i64 n24, .slice a25 l25 c25,
    .slice a26 l26 c26, .slice a27 l27 c27] ∧ CallsW Tryz.prog 13 [.pointer p9, .pointer p8, .agg #[.int .i64 n19, .int .i64 n20, .int .i64 n21, .int .i64 n22, .int .i64 n23, .int .i64 n24, .slice a25 l25 c25, .slice a26
    l26 c26, .slice a27 l27 c27]] w17 (RetR R fun u30 w29 => ∃ (a31 : Option Addr) (l31 c31 : Nat) (n32 : Int), u30 = .tuple #[.slice a31 l31 c31, .int .i64 n32] ∧ CallsW Tryz.prog 26 [.slice a31 l31 c31, .int .i64 n32,
    .int .i64 2, .int .i64 0] w29 (RetR R fun u35 w34 => ∃ (n36 : Int) (n37 : Int) (n38 : Int) (n39 : Int) (n40 : Int) (n41 : Int) (a42 : Option Addr) (l42 c42 : Nat) (a43 : Option Addr) (l43 c43 : Nat) (a44 : Option
    Addr) (l44 c44 : Nat) (b45 : Bool), u35 = .tuple #[.agg #[.int .i64 n36, .int .i64 n37, .int .i64 n38, .int .i64 n39, .int .i64 n40, .int .i64 n41, .slice a42 l42 c42, .slice a43 l43 c43, .slice a44 l44 c44], .bool
    b45] ∧ ∀ w47, Grew w34 w47 → (((!b45) = true → R (.returned (.bool false)) w47) ∧ ((!b45) = false → ∃ (I48 : Int → World → Prop) (m48 : Int → World → Nat), I48 0 w47 ∧ ∀ (n49 : Int) (w50 : World), I48 n49 w50 →
    (((decide (n49 < d_0)) = true → CallsW Tryz.prog 16 [.pointer p8, .int .i64 n49, .agg #[.int .u64 1, .float .f64 4607182418800017408]] w50 (RetR R fun u52 w51 => ∃ (n53 : Int), u52 = .int .i64 n53 ∧ CallsW Tryz.prog 18
    [.pointer p8, .int .i64 n49, .bool true] w51 (RetR R fun u56 w55 => ∃ (n57 : Int), u56 = .int .i64 n57 ∧ (I48 (IntKind.i64.wrap (n49 + 1)) w55 ∧ m48 (IntKind.i64.wrap (n49 + 1)) w55 < m48 n49 w50)))) ∧ ((decide (n49 <
    d_0)) = false → CallsW Tryz.prog 21 [.pointer p9] w50 (RetR R fun u60 w59 => ∃ (a61 : Option Addr) (l61 c61 : Nat), u60 = .slice a61 l61 c61 ∧ ∃ (I63 : Int → World → Prop) (m63 : Int → World → Nat), I63 0 w59 ∧ ∀ (n64
    : Int) (w65 : World), I63 n64 w65 → (((decide (n64 < 2)) = true → CallsW Tryz.prog 25 [.int .i64 1, .int .i64 0, .int .i64 0, .slice a10 l10 c10] w65 (RetR R fun u67 w66 => ∃ (n68 : Int) (n69 : Int) (n70 : Int) (n71 :
    Int) (n72 : Int) (n73 : Int) (a74 : Option Addr) (l74 c74 : Nat) (a75 : Option Addr) (l75 c75 : Nat) (a76 : Option Addr) (l76 c76 : Nat), u67 = .agg #[.int .i64 n68, .int .i64 n69, .int .i64 n70, .int .i64 n71, .int
    .i64 n72, .int .i64 n73, .slice a74 l74 c74, .slice a75 l75 c75, .slice a76 l76 c76] ∧ ∀ w78, Grew w66 w78 → ∀ n79 : Int, n79 = IntKind.i64.wrap ((7 : Int) - n64) → CallsW Tryz.prog 13 [.pointer p9, .pointer p8, .agg
    #[.int .i64 n68, .int .i64 n69, .int .i64 n70, .int .i64 n71, .int .i64 n79, .int .i64 n73, .slice a74 l74 c74, .slice a75 l75 c75, .slice a76 l76 c76]] w78 (RetR R fun u81 w80 => ∃ (a82 : Option Addr) (l82 c82 : Nat)
    (n83 : Int), u81 = .tuple #[.slice a82 l82 c82, .int .i64 n83] ∧ (((n83 != 0) = true → R (.returned (.bool false)) w80) ∧ ((n83 != 0) = false → (((((l82 : Nat) : Int) != 0) = true → R (.returned (.bool false)) w80) ∧
    ((((l82 : Nat) : Int) != 0) = false → CallsW Tryz.prog 21 [.pointer p9] w80 (RetR R fun u86 w85 => ∃ (a87 : Option Addr) (l87 c87 : Nat), u86 = .slice a87 l87 c87 ∧ CallsW Tryz.prog 20 [.slice a87 l87 c87, .slice a61
    l61 c61] w85 (RetR R fun u90 w89 => ∃ (b91 : Bool), u90 = .bool b91 ∧ (((!b91) = true → R (.returned (.bool false)) w89) ∧ ((!b91) = false → (I63 (IntKind.i64.wrap (n64 + 1)) w89 ∧ m63 (IntKind.i64.wrap (n64 + 1)) w89
    < m63 n64 w65)))))))))))) ∧ ((decide (n64 < 2)) = false → ∀ (b93 : Nat) (w94 : World), Alloc w65 w94 b93 (.cells #[] 3) → SemW Tryz.prog (Builtin.append_ #[44, 44] 44 #[.slice (some ⟨b93, 0, none⟩) 0 0, .slice a42 l42
    c42]) (fun u96 w95 => ∃ (a97 : Option Addr) (l97 c97 : Nat), u96 = .slice a97 l97 c97 ∧ ∃ (J98 : World → Prop), (withSome a97 (fun d99 => (0 ≤ (0 : Int) ∧ (0 : Int) < (l97 : Nat)) ∧ ∃ (n100 : Int), w95.cell? d99 =
    some (.int .i64 n100) ∧ (((decide (n100 > 0)) = true → withSome a97 (fun d101 => (0 ≤ (0 : Int) ∧ (0 : Int) < (l97 : Nat)) ∧ ∃ (n102 : Int), w95.cell? d101 = some (.int .i64 n102) ∧ ∀ n103 : Int, n103 =
    IntKind.i64.wrap (n102 - 1) → withSome a97 (fun d104 => (0 ≤ (0 : Int) ∧ (0 : Int) < (l97 : Nat)) ∧ RoomAt w95 d104 0 [.int .i64 n103] ∧ ∀ w105, w105 = setCells w95 d104 0 [.int .i64 n103] → J98 w105))) ∧ ((decide
    (n100 > 0)) = false → withSome a97 (fun d106 => (0 ≤ (0 : Int) ∧ (0 : Int) < (l97 : Nat)) ∧ ∃ (n107 : Int), w95.cell? d106 = some (.int .i64 n107) ∧ ∀ n108 : Int, n108 = IntKind.i64.wrap (n107 + 1) → withSome a97 (fun
    d109 => (0 ≤ (0 : Int) ∧ (0 : Int) < (l97 : Nat)) ∧ RoomAt w95 d109 0 [.int .i64 n108] ∧ ∀ w110, w110 = setCells w95 d109 0 [.int .i64 n108] → J98 w110)))))) ∧ ∀  (w111 : World), J98 w111 → CallsW Tryz.prog 25 [.int
    .i64 3, .int .i64 0, .int .i64 0, .slice a97 l97 c97] w111 (RetR R fun u113 w112 => ∃ (n114 : Int) (n115 : Int) (n116 : Int) (n117 : Int) (n118 : Int) (n119 : Int) (a120 : Option Addr) (l120 c120 : Nat) (a121 : Option
    Addr) (l121 c121 : Nat) (a122 : Option Addr) (l122 c122 : Nat), u113 = .agg #[.int .i64 n114, .int .i64 n115, .int .i64 n116, .int .i64 n117, .int .i64 n118, .int .i64 n119, .slice a120 l120 c120, .slice a121 l121
    c121, .slice a122 l122 c122] ∧ CallsW Tryz.prog 13 [.pointer p9, .pointer p8, .agg #[.int .i64 n114, .int .i64 n115, .int .i64 n116, .int .i64 n117, .int .i64 n118, .int .i64 n119, .slice a120 l120 c120, .slice a121
    l121 c121, .slice a122 l122 c122]] w112 (RetR R fun u125 w124 => ∃ (a126 : Option Addr) (l126 c126 : Nat) (n127 : Int), u125 = .tuple #[.slice a126 l126 c126, .int .i64 n127] ∧ (((n127 != 0) = true → R (.returned
    (.bool false)) w124) ∧ ((n127 != 0) = false → (((((l126 : Nat) : Int) != 0) = true → R (.returned (.bool false)) w124) ∧ ((((l126 : Nat) : Int) != 0) = false → CallsW Tryz.prog 21 [.pointer p9] w124 (RetR R fun u130
    w129 => ∃ (a131 : Option Addr) (l131 c131 : Nat), u130 = .slice a131 l131 c131 ∧ CallsW Tryz.prog 20 [.slice a131 l131 c131, .slice a61 l61 c61] w129 (RetR R fun u134 w133 => ∃ (b135 : Bool), u134 = .bool b135 ∧
    (((!b135) = true → R (.returned (.bool false)) w133) ∧ ((!b135) = false → (((2 : Int) = 0 → R (.panicked (divPanic Tryz.prog)) w133) ∧ ((2 : Int) ≠ 0 → ((((Int.tmod p2 2) == 0) = true → CallsW Tryz.prog 25 [.int .i64 1,
    .int .i64 0, .int .i64 0, .slice a10 l10 c10] w133 (RetR R fun u138 w137 => ∃ (n139 : Int) (n140 : Int) (n141 : Int) (n142 : Int) (n143 : Int) (n144 : Int) (a145 : Option Addr) (l145 c145 : Nat) (a146 : Option Addr)
    (l146 c146 : Nat) (a147 : Option Addr) (l147 c147 : Nat), u138 = .agg #[.int .i64 n139, .int .i64 n140, .int .i64 n141, .int .i64 n142, .int .i64 n143, .int .i64 n144, .slice a145 l145 c145, .slice a146 l146 c146,
    .slice a147 l147 c147] ∧ ∀ w149, Grew w137 w149 → CallsW Tryz.prog 13 [.pointer p9, .pointer p8, .agg #[.int .i64 n139, .int .i64 n140, .int .i64 n141, .int .i64 n142, .int .i64 8, .int .i64 n144, .slice a145 l145
    c145, .slice a146 l146 c146, .slice a147 l147 c147]] w149 (RetR R fun u151 w150 => ∃ (a152 : Option Addr) (l152 c152 : Nat) (n153 : Int), u151 = .tuple #[.slice a152 l152 c152, .int .i64 n153] ∧ CallsW Tryz.prog 21
    [.pointer p9] w150 (RetR R fun u156 w155 => ∃ (a157 : Option Addr) (l157 c157 : Nat), u156 = .slice a157 l157 c157 ∧ (((n153 != 0) = true → R (.returned (.bool false)) w155) ∧ ((n153 != 0) = false → (((((l152 : Nat) :
    Int) != 1) = true → R (.returned (.bool false)) w155) ∧ ((((l152 : Nat) : Int) != 1) = false → (((((l157 : Nat) : Int) != 1) = true → R (.returned (.bool false)) w155) ∧ ((((l157 : Nat) : Int) != 1) = false → withSome
    a157 (fun d159 => (0 ≤ (0 : Int) ∧ (0 : Int) < (l157 : Nat)) ∧ ∃ (n160 : Int), w155.cell? (Addr.add d159 1) = some (.int .i64 n160) ∧ (((n160 != 8) = true → R (.returned (.bool false)) w155) ∧ ((n160 != 8) = false →
    withSome a157 (fun d161 => (0 ≤ (0 : Int) ∧ (0 : Int) < (l157 : Nat)) ∧ ∃ (b162 : Bool), w155.cell? (Addr.add d161 3) = some (.bool b162) ∧ ((b162 = true → R (.returned (.bool false)) w155) ∧ (b162 = false → CallsW
    Tryz.prog 25 [.int .i64 3, .int .i64 0, .int .i64 0, .slice a42 l42 c42] w155 (RetR R fun u164 w163 => ∃ (n165 : Int) (n166 : Int) (n167 : Int) (n168 : Int) (n169 : Int) (n170 : Int) (a171 : Option Addr) (l171 c171 :
    Nat) (a172 : Option Addr) (l172 c172 : Nat) (a173 : Option Addr) (l173 c173 : Nat), u164 = .agg #[.int .i64 n165, .int .i64 n166, .int .i64 n167, .int .i64 n168, .int .i64 n169, .int .i64 n170, .slice a171 l171 c171,
    .slice a172 l172 c172, .slice a173 l173 c173] ∧ CallsW Tryz.prog 13 [.pointer p9, .pointer p8, .agg #[.int .i64 n165, .int .i64 n166, .int .i64 n167, .int .i64 n168, .int .i64 n169, .int .i64 n170, .slice a171 l171
    c171, .slice a172 l172 c172, .slice a173 l173 c173]] w163 (RetR R fun u176 w175 => ∃ (a177 : Option Addr) (l177 c177 : Nat) (n178 : Int), u176 = .tuple #[.slice a177 l177 c177, .int .i64 n178] ∧ (((n178 == 0) = true →
    (((((l177 : Nat) : Int) == 0) = true → CallsW Tryz.prog 21 [.pointer p9] w175 (RetR R fun u181 w180 => ∃ (a182 : Option Addr) (l182 c182 : Nat), u181 = .slice a182 l182 c182 ∧ CallsW Tryz.prog 20 [.slice a182 l182 c182,
    .slice a157 l157 c157] w180 (RetR R fun u185 w184 => ∃ (b186 : Bool), u185 = .bool b186 ∧ R (.returned (.bool b186)) w184))) ∧ ((((l177 : Nat) : Int) == 0) = false → R (.returned (.bool false)) w175))) ∧ ((n178 == 0)
    = false → R (.returned (.bool false)) w175)))))))))))))))))))) ∧ (((Int.tmod p2 2) == 0) = false → CallsW Tryz.prog 25 [.int .i64 3, .int .i64 0, .int .i64 0, .slice a42 l42 c42] w133 (RetR R fun u189 w188 => ∃ (n190 :
    Int) (n191 : Int) (n192 : Int) (n193 : Int) (n194 : Int) (n195 : Int) (a196 : Option Addr) (l196 c196 : Nat) (a197 : Option Addr) (l197 c197 : Nat) (a198 : Option Addr) (l198 c198 : Nat), u189 = .agg #[.int .i64 n190,
    .int .i64 n191, .int .i64 n192, .int .i64 n193, .int .i64 n194, .int .i64 n195, .slice a196 l196 c196, .slice a197 l197 c197, .slice a198 l198 c198] ∧ CallsW Tryz.prog 13 [.pointer p9, .pointer p8, .agg #[.int .i64
    n190, .int .i64 n191, .int .i64 n192, .int .i64 n193, .int .i64 n194, .int .i64 n195, .slice a196 l196 c196, .slice a197 l197 c197, .slice a198 l198 c198]] w188 (RetR R fun u201 w200 => ∃ (a202 : Option Addr) (l202
    c202 : Nat) (n203 : Int), u201 = .tuple #[.slice a202 l202 c202, .int .i64 n203] ∧ (((n203 != 0) = true → R (.returned (.bool false)) w200) ∧ ((n203 != 0) = false → (((((l202 : Nat) : Int) != d_1) = true → R
    (.returned (.bool false)) w200) ∧ ((((l202 : Nat) : Int) != d_1) = false → ∃ (J205 : Int → World → Prop), ((((4 : Int) = 0 → R (.panicked (divPanic Tryz.prog)) w200) ∧ ((4 : Int) ≠ 0 → ((((Int.tmod p2 4) == 1) = true →
    J205 7 w200) ∧ (((Int.tmod p2 4) == 1) = false → J205 5 w200))))) ∧ ∀ (n206 : Int) (w207 : World), J205 n206 w207 → ∀ n208 : Int, n208 = IntKind.i64.wrap ((1 : Int) + d_2) → (((1000 : Int) = 0 → R (.panicked (divPanic
    Tryz.prog)) w207) ∧ ((1000 : Int) ≠ 0 → ∀ n209 : Int, n209 = Int.tmod (IntKind.u64.wrap i) 1000 → ∀ n210 : Int, n210 = IntKind.i64.wrap ((1 : Int) + (IntKind.i64.wrap n209)) → CallsW Tryz.prog 25 [.int .i64 n206, .int
    .i64 n208, .int .i64 n210, .slice none 0 0] w207 (RetR R fun u212 w211 => ∃ (n213 : Int) (n214 : Int) (n215 : Int) (n216 : Int) (n217 : Int) (n218 : Int) (a219 : Option Addr) (l219 c219 : Nat) (a220 : Option Addr)
    (l220 c220 : Nat) (a221 : Option Addr) (l221 c221 : Nat), u212 = .agg #[.int .i64 n213, .int .i64 n214, .int .i64 n215, .int .i64 n216, .int .i64 n217, .int .i64 n218, .slice a219 l219 c219, .slice a220 l220 c220,
    .slice a221 l221 c221] ∧ CallsW Tryz.prog 13 [.pointer p9, .pointer p8, .agg #[.int .i64 n213, .int .i64 n214, .int .i64 n215, .int .i64 n216, .int .i64 n217, .int .i64 n218, .slice a219 l219 c219, .slice a220 l220
    c220, .slice a221 l221 c221]] w211 (RetR R fun u224 w223 => ∃ (a225 : Option Addr) (l225 c225 : Nat) (n226 : Int), u224 = .tuple #[.slice a225 l225 c225, .int .i64 n226] ∧ (((n226 != 0) = true → R (.returned (.bool
    false)) w223) ∧ ((n226 != 0) = false → (((((l225 : Nat) : Int) != 0) = true → R (.returned (.bool false)) w223) ∧ ((((l225 : Nat) : Int) != 0) = false → CallsW Tryz.prog 21 [.pointer p9] w223 (RetR R fun u229 w228 => ∃
    (a230 : Option Addr) (l230 c230 : Nat), u229 = .slice a230 l230 c230 ∧ (((((l230 : Nat) : Int) != 0) = true → R (.returned (.bool false)) w228) ∧ ((((l230 : Nat) : Int) != 0) = false → ∀ n232 : Int, n232 =
    IntKind.i64.wrap ((1 : Int) + d_2) → CallsW Tryz.prog 25 [.int .i64 5, .int .i64 n232, .int .i64 0, .slice none 0 0] w228 (RetR R fun u234 w233 => ∃ (n235 : Int) (n236 : Int) (n237 : Int) (n238 : Int) (n239 : Int)
    (n240 : Int) (a241 : Option Addr) (l241 c241 : Nat) (a242 : Option Addr) (l242 c242 : Nat) (a243 : Option Addr) (l243 c243 : Nat), u234 = .agg #[.int .i64 n235, .int .i64 n236, .int .i64 n237, .int .i64 n238, .int
    .i64 n239, .int .i64 n240, .slice a241 l241 c241, .slice a242 l242 c242, .slice a243 l243 c243] ∧ CallsW Tryz.prog 13 [.pointer p9, .pointer p8, .agg #[.int .i64 n235, .int .i64 n236, .int .i64 n237, .int .i64 n238,
    .int .i64 n239, .int .i64 n240, .slice a241 l241 c241, .slice a242 l242 c242, .slice a243 l243 c243]] w233 (RetR R fun u246 w245 => ∃ (a247 : Option Addr) (l247 c247 : Nat) (n248 : Int), u246 = .tuple #[.slice a247
    l247 c247, .int .i64 n248] ∧ (((n248 == 0) = true → R (.returned (.bool (((l247 : Nat) : Int) == 0))) w245) ∧ ((n248 == 0) = false → R (.returned (.bool false)) w245))))))))))))))))))))))))))))))))))))
    w94))))))))))))))))
theorem sx5.ok {d_0 : Int} {d_1 : Int} {d_2 : Int} {d_3 : Option Addr} {d_3_n d_3_c : Nat} {d_4 : Int} {d_5 : Int} {d_6 : Int} {d_7 : Int} {d_8 : Option Addr} {d_8_n d_8_c : Nat} {d_9 : Int} {d_10 : Option Addr} {d_10_n d_10_c : Nat} {i : Int} {p2 : Int} {R : Ending → World → Prop} {w : World} (h : sx5 d_0 d_1 d_2 d_3 d_3_n d_3_c d_4 d_5 d_6 d_7 d_8 d_8_n d_8_c d_9 d_10 d_10_n d_10_c i p2 R w) : CallsW Tryz.prog 5 [.agg #[.int .i64 d_0, .int .i64 d_1, .int .i64 d_2, .slice d_3 d_3_n d_3_c, .int .i64 d_4, .int .i64 d_5, .int .i64 d_6, .int .i64 d_7, .slice d_8 d_8_n d_8_c, .int .i64 d_9, .slice d_10 d_10_n d_10_c], .int .i64 i, .int .i64 p2] w R :=
  callsW_of mix Tryz.func5 (by kernel_rfl) (by kernel_rfl) (Eq.mpr (by kernel_rfl : denFn Tryz.prog { locals := [3, 10, 13, 18, 20], sem := [103], named := [77, 111, 116, 229, 232, 234, 257], loops := [(12, { slots := [(15, .int .i64)], cells := [] }), (18, { slots := [(17, .int .i64)], cells := [] })], cuts := [(29, { slots := [], cells := [] }), (47, { slots := [(22, .int .i64)], cells := [] })] } Tryz.f5 [.agg #[.int .i64 d_0, .int .i64 d_1, .int .i64 d_2, .slice d_3 d_3_n d_3_c, .int .i64 d_4, .int .i64 d_5, .int .i64 d_6, .int .i64 d_7, .slice d_8 d_8_n d_8_c, .int .i64 d_9, .slice d_10 d_10_n d_10_c], .int .i64 i, .int .i64 p2] R w = sx5 d_0 d_1 d_2 d_3 d_3_n d_3_c d_4 d_5 d_6 d_7 d_8 d_8_n d_8_c d_9 d_10 d_10_n d_10_c i p2 R w) h)

theorem hread_of {w : World} {B : Nat} {a : Option Addr} {n c : Nat} {hs : List HeldX} {ts : List HeldV} (h : HO w B a n c hs) (hh : hs.map (·.c) = ts) (hl : ∀ t ∈ ts, t.ends.length ≤ 4) : HRead w a n c hs :=
  ⟨h.own.reads, fun x hx => ⟨(h.each x hx).reads, by have := hl x.c (hh ▸ List.mem_map_of_mem (f := (·.c)) hx); omega⟩⟩
def HFeetS (a : Option Addr) (hs : List HeldX) (b : Nat) : Prop := Blk a b ∨ ∃ x ∈ hs, Blk x.e.1 b
theorem hread_upd {S : Nat → Prop} {w w' : World} {a : Option Addr} {n c : Nat} {hs : List HeldX} (h : HRead w a n c hs) (hu : Upd S w w') (hn : ∀ b, HFeetS a hs b → ¬ S b) : HRead w' a n c hs :=
  ⟨h.1.upd hu fun b hb => hn b (.inl hb), fun x hx => ⟨(h.2 x hx).1.upd hu fun b hb => hn b (.inr ⟨x, hx, hb⟩), (h.2 x hx).2⟩⟩
/-- with what was told before -/
structure Late (w0 w : World) (sx : SrcX) (s : SrcV) (X : WorkX) (V : WorkV) (f : List Int) (a : Option Addr) (n c : Nat) (r : Msg) (ha : Option Addr) (hn hc : Nat) (hs : List HeldX) : Prop where
  base : Base w0 w sx s X V f a n c r
  held : HRead w ha hn hc hs
  clr : Clear w sx X (HFeetS ha hs)
theorem Late.more {w0 w w' : World} {sx : SrcX} {s : SrcV} {X : WorkX} {V : WorkV} {f : List Int} {a : Option Addr} {n c : Nat} {r : Msg} {ha : Option Addr} {hn hc : Nat} {hs : List HeldX} (h : Late w0 w sx s X V f a n c r ha hn hc hs) (hg : Grew w w') : Late w0 w' sx s X V f a n c r ha hn hc hs := ⟨h.base.more hg, h.held.grew hg, h.clr.more hg.size⟩
theorem Late.play {w0 w w' : World} {sx : SrcX} {s : SrcV} {X X' : WorkX} {V : WorkV} {t : TookV} {a' : Option Addr} {n' c' : Nat} {xs : List Msg} {f : List Int} {a : Option Addr} {n c : Nat} {r : Msg} {ha : Option Addr} {hn hc : Nat} {hs : List HeldX} (h : Late w0 w sx s X V f a n c r ha hn hc hs) (P : Play w0 w sx s X t a' n' c' w' X' xs) : Late w0 w' sx s X' t.w f a n c r ha hn hc hs :=
  ⟨h.base.play P, hread_upd h.held P.upd fun b hb => (h.clr.out b hb).2.2, h.clr.play P⟩
theorem late_new {w0 w w' : World} {sx : SrcX} {s : SrcV} {X : WorkX} {V : WorkV} {f : List Int} {a : Option Addr} {n c : Nat} {r : Msg} {ha : Option Addr} {hn hc : Nat} {hs : List HeldX} (h : Base w0 w sx s X V f a n c r) (hg : Grew w w') (hO : HO w' w.heap.size ha hn hc hs) (hr : HRead w' ha hn hc hs) : Late w0 w' sx s X V f a n c r ha hn hc hs := by
  refine ⟨h.more hg, hr, Clear.new h.pair fun b hb => ?_⟩
  rcases hb with hb | ⟨x, hx, hb⟩
  · exact hO.own.blk hb
  · exact (hO.each x hx).blk hb
set_option maxHeartbeats 4000000 in
theorem WorkerLate_ok {x : CaseX} {code how : Int} {w : World} (hx : CaseIn w x) (hcw : (Lit.int .i64 code).wf = true) (hhw : (Lit.int .i64 how).wf = true) :
    CallsW Tryz.prog 5 [x.val, .int .i64 code, .int .i64 how] w (Rets fun v w' => v = .bool true ∧ Grew w w') := by
  refine sx5.ok ?_
  unfold sx5
  obtain ⟨rs, hrs, hrf⟩ := hx.rl
  obtain ⟨fr, hfr⟩ := hx.fl
  have nb : ∀ {x y : World}, SameB x y [] := by intro x y; simp [SameB]
  intro w1 hg1
  refine awakeW_ok.use fun v w2 ⟨hv, hg2⟩ => ?_
  subst hv
  have hg2 := hg1.trans hg2
  refine ⟨_, rfl, fun h => (by cases h), fun _ => (ready_ok (off := x.off) (hx.plan.grew hg2) hx.ops (hrs.grew hg2) hrf (hfr.grew hg2)).use fun u w6 ⟨hg6, hc⟩ => ?_⟩
  have hg6' := hg2.trans hg6
  rcases hc with ⟨hb, hv⟩ | ⟨hgd, sx, s, X, a10, l10, c10, f, hv, P0, ho10, hap10, hE, hsp, hsl⟩
  · subst hv
    refine ⟨_, _, _, _, _, rfl, fun _ => (PCheck_ok (hx.plan.grew hg6')).use fun u w12 ⟨hv, hg12⟩ => ?_, fun h => (by cases h)⟩
    subst hv
    refine ⟨_, rfl, _, rfl, ?_, hg6'.trans hg12⟩
    have : checkP x.p.c ≠ 0 := fun h => by rw [checkP_good.1 h] at hb; cases hb
    simp [this]
  subst hv
  have hG := goodP_iff.1 hgd
  have hfit := P0.src.fits
  have hSt := hG.stores; have hWk := hG.workers; have hPt := hG.parts
  obtain ⟨hf1, hf2⟩ := ends_256 hfit hE
  have ht1 := take_new hG hfit hE
  have hnA := newA_is (s := s) (f := f) hG hE (V := W0 x.p.c) rfl 7 1
  refine ⟨_, _, _, _, _, rfl, fun h => (by cases h), fun _ => ?_⟩
  intro w16 hg16
  -- MsgAssign of attempt 7: from here on the worker holds it
  have P16 := P0.more hg16
  refine msgK_ok.use fun u w17 ⟨hv, hg17⟩ => ?_
  subst hv
  refine ⟨_, _, _, _, _, _, _, _, _, _, _, _, _, _, _, rfl, ?_⟩
  have P17 := P16.more hg17
  have ho17 := (ho10.grew hg16).grew hg17
  refine (play_ok (m := ⟨msgK 1 0 0 f, (a10, l10, c10), (none, 0, 0), (none, 0, 0)⟩) P17 ⟨ho17.reads, Reads.nil, Reads.nil⟩ (by simp only [msgK]; omega) (by simp [msgK]) (by simp [msgK])).use fun u w29 ⟨a31, l31, c31, X1, xs1, hv, P1⟩ => ?_
  rw [show (⟨x.p.c, 1, []⟩ : WorkV) = W0 x.p.c from rfl] at hv P1
  rw [ht1] at hv P1
  subst hv
  generalize hA : (W0 x.p.c).newA s (msgK 1 0 0 f) = a at P1
  have ha : a = ⟨7, toV s x.p.c.batch f, dealP x.p.c.stores (tableT (bAll x.p.c.ops x.p.c.agg (btwV s f (toV s x.p.c.batch f) f.length)).1), false, []⟩ := hA.symm.trans hnA
  generalize hto : toV s x.p.c.batch f = to at P1 ha
  have hto4 : (1 ≤ to.length ∧ to.length ≤ 4) ∧ ∀ e ∈ to, 0 ≤ e ∧ e ≤ 256 := by
    rw [← hto]
    exact ⟨by rw [toV_len]; exact hf1, toV_256 hfit hG.batch.1 hE⟩
  have hab : a.begun = false := by rw [ha]
  have haa : a.applied = [] := by rw [ha]
  have han : a.number = 7 := by rw [ha]
  have hae : a.ends = to := by rw [ha]
  obtain ⟨r, hr1, hrc, hone⟩ := one_ok (kind := 2) (to := 0) P1.out.own.own.reads P1.is rfl rfl rfl rfl rfl
  subst hr1
  have hre : r.c.ends = to := by rw [hrc]
  have B29 : Base w2 w29 sx s X1 (W1 x.p.c a) f a10 l10 c10 r := base_new (V := ⟨x.p.c, 1, []⟩) P17 ho17.reads ⟨fun b hb => ⟨(ho17.blk hb).2, hap10 b hb⟩⟩ (Grew.refl _) P1
  refine ⟨_, _, _, _, rfl, hone.use fun u w34 ⟨hv, hg34⟩ => ?_⟩
  subst hv
  have B34 := B29.more hg34
  refine ⟨_, _, _, _, _, _, _, _, _, _, _, _, _, _, _, _, rfl, fun w47 hg47 => ⟨fun h => (by cases h), fun _ => ?_⟩⟩
  have B47 := B34.more hg47
  have fitR : RecV.Fits ⟨1, 4607182418800017408⟩ := ⟨⟨by decide, by decide⟩, by decide⟩
  -- the source grows
  refine ⟨fun i w' => ∃ (k : Nat) (sy : SrcX) (t : SrcV), i = k ∧ (k : Int) ≤ x.p.c.parts ∧ sy.p = sx.p ∧ Base w2 w' sy t X1 (W1 x.p.c a) f a10 l10 c10 r ∧ t.parts.length = s.parts.length ∧ (∀ j : Int, s.len j ≤ t.len j), fun i _ => 4 - i.toNat, ⟨0, sx, s, rfl, by omega, rfl, B47, rfl, fun j => Int.le_refl _⟩, ?_⟩
  rintro n49 w50 ⟨k, sy, t, rfl, hk, hsy, B50, htp, htl⟩
  refine ⟨fun hlt => ?_, fun _ => ?_⟩
  · simp only [decide_eq_true_eq] at hlt
    have hw : IntKind.i64.wrap ((k : Int) + 1) = ((k + 1 : Nat) : Int) := by rw [IntKind.wrap_i64]; omega
    rw [← hsy]
    refine (Produce_ok (p := (k : Int)) (r := ⟨1, 4607182418800017408⟩) B50.pair.src fitR B50.pair.grew.size).use fun u w51 ⟨hv, hM⟩ => ?_
    subst hv
    obtain ⟨sz, z1, B51⟩ := B50.src hM
    refine ⟨_, rfl, ?_⟩
    rw [← z1]
    refine (Switch_ok (p := (k : Int)) (on := true) B51.pair.src).use fun u w55 ⟨hv, hM2⟩ => ?_
    subst hv
    obtain ⟨sq, z2, B55⟩ := B51.src hM2
    refine ⟨_, rfl, ⟨k + 1, sq, _, hw, by omega, by rw [z2, z1, hsy], B55, ?_, fun j => ?_⟩, by simp only [hw]; omega⟩
    · rw [(switch_parts _ _ _).1, (produce_parts _ _ _).1]; exact htp
    · rw [(switch_len _ _ _ _).1]; exact Int.le_trans (htl j) (produce_len _ _ _ _)
  clear hk
  have hEt := endsE_more hE htp htl
  have hfitT := B50.pair.src.fits
  obtain ⟨ht1', ht2'⟩ := ends_256 hfitT hEt
  rw [← hsy, ← P1.p]
  refine (WHeld_ok B50.pair.wrk (by simp [W1])).use fun u w59 ⟨a61, l61, c61, hs, hv, HO59, hh59, hg59⟩ => ?_
  rw [tell_W1] at hh59
  subst hv
  have hts : ∀ h ∈ [heldOf 3 a], h.ends.length ≤ 4 := fun h hh => by simp at hh; subst hh; show a.ends.length ≤ 4; rw [hae]; omega
  have L59 := late_new B50 hg59 HO59 (hread_of HO59 hh59 hts)
  have hs1 : hs.length = 1 := by have := congrArg List.length hh59; simpa using this
  refine ⟨_, _, _, rfl, fun i w' => ∃ (k : Nat) (Y : WorkX), i = k ∧ k ≤ 2 ∧ Y.p = X1.p ∧ Late w2 w' sy t Y (W1 x.p.c a) f a10 l10 c10 r a61 l61 c61 hs, fun i _ => 2 - i.toNat, ⟨0, X1, rfl, by omega, rfl, L59⟩, ?_⟩
  rintro n64 w65 ⟨q, Y, rfl, hq, hY, L65⟩
  rw [← hY]
  refine ⟨fun hlt => ?_, fun _ b93 w94 hal94 => ?_⟩
  · simp only [decide_eq_true_eq] at hlt
    have hw : IntKind.i64.wrap ((q : Int) + 1) = ((q + 1 : Nat) : Int) := by rw [IntKind.wrap_i64]; omega
    refine msgK_ok.use fun u w66 ⟨hv, hg66⟩ => ?_
    subst hv
    refine ⟨_, _, _, _, _, _, _, _, _, _, _, _, _, _, _, rfl, fun w78 hg78 n79 h79 => ?_⟩
    have e79 : n79 = 7 - (q : Int) := by rw [h79, IntKind.wrap_i64]; omega
    subst e79
    have L78 := L65.more (hg66.trans hg78)
    have e1 := take_stale (s := t) hG (a := a) (att := 7 - (q : Int)) (by rw [han]; omega) (by omega) ht1' ht2'
    refine (play_ok (m := ⟨msgA 1 0 0 (7 - (q : Int)) f, (a10, l10, c10), (none, 0, 0), (none, 0, 0)⟩) L78.base.pair ⟨L78.base.from_, Reads.nil, Reads.nil⟩ (by simp only [msgA]; omega) (by simp [msgA]) (by simp [msgA])).use fun u w80 ⟨a82, l82, c82, X2, xs2, hv, P2⟩ => ?_
    rw [e1] at hv P2
    subst hv
    have hl82 := no_msgs P2
    have L80 := L78.play P2
    refine ⟨_, _, _, _, rfl, fun h => (by cases h), fun _ => ⟨fun h => (by rw [hl82] at h; cases h), fun _ => ?_⟩⟩
    rw [← P2.p]
    -- what the worker tells is what it told
    refine (WHeld_ok L80.base.pair.wrk (by simp [W0, W1])).use fun u wh2 ⟨ah2, lh2, ch2, hs2, hv, HO2, hh2, hgh2⟩ => ?_
    rw [tell_W1] at hh2
    subst hv
    have L2 := L80.more hgh2
    refine ⟨_, _, _, rfl, (held_ok (hread_of HO2 hh2 hts) L2.held (hh2.trans hh59.symm) (by have := congrArg List.length hh2; simp at this; omega)).use fun u w89 ⟨hv, hg89⟩ => ?_⟩
    subst hv
    rw [P2.p, hY]
    exact ⟨_, rfl, fun h => (by cases h), fun _ => ⟨⟨q + 1, X2, hw, by omega, P2.p.trans hY, L2.more hg89⟩, by simp only [hw]; omega⟩⟩
  clear hq
  -- other ends
  have L94 := L65.more hal94.grew
  have ho94 : Own w94 w65.heap.size 3 (Enc.int .i64) (some ⟨b93, 0, none⟩) 0 0 [] := Own.alloc (l := []) hal94 (Nat.le_refl _) rfl (by simp [maxLen])
  have hrE := L94.base.rat.e
  rw [hre] at hrE
  refine append_sl elCI ho94 hrE.1 hrE.2.1 hrE.2.2.1 hal94.grew.size (by simp only [maxLen, List.length_nil]; omega) (by simp; omega) ?_
  rintro v95 w95 ⟨a97, l97, c97, rfl, ho95, hu95, hb95⟩
  rw [List.nil_append] at ho95
  have hg95 : Grew w65 w95 := hal94.grew.then_own hu95 fun b hb => (ho94.blk hb).1
  have L95 := L65.more hg95
  obtain ⟨e0, er, het⟩ : ∃ e0 er, to = e0 :: er := by
    cases to with
    | nil => simp at hto4
    | cons e0 er => exact ⟨e0, er, rfl⟩
  have he0 : 0 ≤ e0 ∧ e0 ≤ 256 := hto4.2 e0 (by rw [het]; simp)
  have hl97 : l97 = to.length := ho95.len
  -- the state behind the change of the first end
  refine ⟨_, _, _, rfl, fun w' => ∃ e1 : Int, e1 ≠ e0 ∧ (0 ≤ e1 ∧ e1 ≤ 256) ∧ Late w2 w' sy t Y (W1 x.p.c a) f a10 l10 c10 r a61 l61 c61 hs ∧ Own w' w65.heap.size 3 (Enc.int .i64) a97 l97 c97 (e1 :: er) ∧ Grew w65 w', ?_, ?_⟩
  · obtain ⟨d, y, hd, hy, hyc⟩ := ho95.reads.at0 (k := 0) (by rw [hl97]; omega)
    rw [het] at hy; cases hy
    have hc : w95.cell? d = some (.int .i64 e0) := by have := cellsAt_get hyc 0 _ rfl; simpa [Enc.int, Addr.add_zero'] using this
    have st : ∀ e1 : Int, e1 ≠ e0 → (0 ≤ e1 ∧ e1 ≤ 256) → RoomAt w95 d 0 [.int .i64 e1] ∧ ∀ w', w' = setCells w95 d 0 [.int .i64 e1] → ∃ e1 : Int, e1 ≠ e0 ∧ (0 ≤ e1 ∧ e1 ≤ 256) ∧ Late w2 w' sy t Y (W1 x.p.c a) f a10 l10 c10 r a61 l61 c61 hs ∧ Own w' w65.heap.size 3 (Enc.int .i64) a97 l97 c97 (e1 :: er) ∧ Grew w65 w' := by
      intro e1 h1 h2
      obtain ⟨d', hd', hroom, hset, hu⟩ := ho95.set (i := 0) (by rw [het]; simp) e1
      rw [hd] at hd'; cases hd'
      rw [Nat.zero_mul, Addr.add_zero'] at hroom hset hu
      refine ⟨hroom, ?_⟩
      rintro w' rfl
      have hg' := hg95.then_own hu fun b hb => (ho95.blk hb).1
      rw [het, List.set_cons_zero] at hset
      exact ⟨e1, h1, h2, L65.more hg', hset, hg'⟩
    have bd : (0 : Int) ≤ (0 : Int) ∧ (0 : Int) < ((l97 : Nat) : Int) := ⟨by omega, by omega⟩
    rw [hd]
    refine ⟨bd, _, hc, fun hp => ⟨bd, _, hc, fun n103 h103 => ⟨bd, ?_⟩⟩, fun hp => ⟨bd, _, hc, fun n108 h108 => ⟨bd, ?_⟩⟩⟩
    · simp only [decide_eq_true_eq] at hp
      have : n103 = e0 - 1 := by rw [h103, IntKind.wrap_i64]; omega
      subst this
      rw [← hd]; exact st _ (by omega) (by omega)
    · simp only [decide_eq_false_iff_not] at hp
      have : n108 = e0 + 1 := by rw [h108, IntKind.wrap_i64]; omega
      subst this
      rw [← hd]; exact st _ (by omega) (by omega)
  rintro w111 ⟨e1, hne, he1, L111, ho111, hg111⟩
  have hlen1 : (e1 :: er).length = to.length := by rw [het]; rfl
  have hoth : ∀ e ∈ e1 :: er, 0 ≤ e ∧ e ≤ 256 := fun e he => by
    rcases List.mem_cons.1 he with rfl | he
    · exact he1
    · exact hto4.2 e (by rw [het]; exact List.mem_cons_of_mem _ he)
  refine msgK_ok.use fun u w112 ⟨hv, hg112⟩ => ?_
  subst hv
  refine ⟨_, _, _, _, _, _, _, _, _, _, _, _, _, _, _, rfl, ?_⟩
  have L112 := L111.more hg112
  have e2 := take_other (s := t) hG (a := a) (l := e1 :: er) (by rw [hlen1]; exact hto4.1) hoth (fun _ h => by rw [hae, het] at h; exact hne (List.cons.inj h).1.symm)
  refine (play_ok (m := ⟨msgK 3 0 0 (e1 :: er), (a97, l97, c97), (none, 0, 0), (none, 0, 0)⟩) L112.base.pair ⟨(ho111.grew hg112).reads, Reads.nil, Reads.nil⟩ (by simp only [msgK]; rw [hlen1]; omega) (by simp [msgK]) (by simp [msgK])).use fun u w124 ⟨a126, l126, c126, X3, xs3, hv, P3⟩ => ?_
  rw [e2] at hv P3
  subst hv
  have hl126 := no_msgs P3
  have L124 := L112.play P3
  refine ⟨_, _, _, _, rfl, fun h => (by cases h), fun _ => ⟨fun h => (by rw [hl126] at h; cases h), fun _ => ?_⟩⟩
  rw [← P3.p]
  -- what the worker tells is what it told
  refine (WHeld_ok L124.base.pair.wrk (by simp [W0, W1])).use fun u wh3 ⟨ah3, lh3, ch3, hs3, hv, HO3, hh3, hgh3⟩ => ?_
  rw [tell_W1] at hh3
  subst hv
  have L3 := L124.more hgh3
  refine ⟨_, _, _, rfl, (held_ok (hread_of HO3 hh3 hts) L3.held (hh3.trans hh59.symm) (by have := congrArg List.length hh3; simp at this; omega)).use fun u w133 ⟨hv, hg133⟩ => ?_⟩
  subst hv
  have B133 := (L3.more hg133).base
  refine ⟨_, rfl, fun h => (by cases h), fun _ => ⟨fun h => (by omega), fun _ => ⟨fun _ => ?_, fun _ => ?_⟩⟩⟩
  · -- a higher attempt
    refine msgK_ok.use fun u w137 ⟨hv, hg137⟩ => ?_
    subst hv
    refine ⟨_, _, _, _, _, _, _, _, _, _, _, _, _, _, _, rfl, fun w149 hg149 => ?_⟩
    have B149 := B133.more (hg137.trans hg149)
    have e4 := take_higher (s := t) hG hfitT hEt (a := a) (att := 8) (by rw [han]; decide) (by decide)
    refine (play_ok (m := ⟨msgA 1 0 0 8 f, (a10, l10, c10), (none, 0, 0), (none, 0, 0)⟩) B149.pair ⟨B149.from_, Reads.nil, Reads.nil⟩ (by simp only [msgA]; omega) (by simp [msgA]) (by simp [msgA])).use fun u w150 ⟨a152, l152, c152, X4, xs4, hv, P4⟩ => ?_
    rw [e4] at hv P4
    subst hv
    have hl152 : l152 = 1 := by have h1 := P4.new.own.len; have := congrArg List.length P4.is; simp at this; rw [h1, this]
    have hn8 := newA_is (s := t) (f := f) hG hEt (V := W1 x.p.c a) rfl 8 1
    generalize hA8 : (W1 x.p.c a).newA t (msgA 1 0 0 8 f) = a8 at P4
    have ha8 := hA8.symm.trans hn8
    have h8n : a8.number = 8 := by rw [ha8]
    have h8b : a8.begun = false := by rw [ha8]
    have h8e : a8.ends.length ≤ 4 := by rw [ha8]; show (toV t x.p.c.batch f).length ≤ 4; rw [toV_len]; omega
    have B150 := B149.play P4
    refine ⟨_, _, _, _, rfl, ?_⟩
    rw [← P4.p]
    -- what the worker tells
    refine (WHeld_ok B150.pair.wrk (by simp [W0, W1])).use fun u wh4 ⟨ah4, lh4, ch4, hs4, hv, HO4, hh4, hgh4⟩ => ?_
    rw [tell_W1] at hh4
    subst hv
    have B155 := B150.more hgh4
    have hts8 : ∀ h ∈ [heldOf 3 a8], h.ends.length ≤ 4 := fun h hh => by simp at hh; subst hh; exact h8e
    have L155 := late_new B150 hgh4 HO4 (hread_of HO4 hh4 hts8)
    obtain ⟨h0, rfl, hh0⟩ : ∃ h0 : HeldX, hs4 = [h0] ∧ h0.c = heldOf 3 a8 := by
      match hs4, hh4 with
      | [h], hh => exact ⟨h, rfl, by simpa using hh⟩
      | [], hh => simp at hh
      | _ :: _ :: _, hh => simp at hh
    have hl157 : lh4 = 1 := HO4.own.len
    subst hl157
    refine ⟨_, _, _, rfl, fun h => (by cases h), fun _ => ⟨fun h => (by rw [hl152] at h; cases h), fun _ => ⟨fun h => (by cases h), fun _ => ?_⟩⟩⟩
    obtain ⟨dh, y, hdh, hy, hyc⟩ := HO4.own.reads.at0 (k := 0) (by omega)
    cases hy
    obtain ⟨c0, c1, c2, c3, c4⟩ := held_cells hyc
    simp only [Int.toNat_zero, Nat.zero_mul, Addr.add_zero', Int.natCast_zero] at c0 c1 c2 c3 c4
    rw [hh0] at c0 c1 c3 c4
    have bd : (0 : Int) ≤ (0 : Int) ∧ (0 : Int) < ((1 : Nat) : Int) := by omega
    rw [hdh]
    refine ⟨bd, _, c1, fun h => (by simp [heldOf, h8n] at h), fun _ => ⟨bd, _, c3, fun h => (by simp [heldOf, h8b] at h), fun _ => ?_⟩⟩
    refine msgK_ok.use fun u w163 ⟨hv, hg163⟩ => ?_
    subst hv
    refine ⟨_, _, _, _, _, _, _, _, _, _, _, _, _, _, _, rfl, ?_⟩
    have L163 := L155.more hg163
    have hrE := L163.base.rat.e
    rw [hre] at hrE
    have e5 := take_other (s := t) hG (a := a8) (l := to) hto4.1 hto4.2 (fun h => by rw [h8n] at h; cases h)
    refine (play_ok (m := ⟨msgK 3 0 0 to, r.e, (none, 0, 0), (none, 0, 0)⟩) L163.base.pair ⟨hrE, Reads.nil, Reads.nil⟩ (by simp only [msgK]; omega) (by simp [msgK]) (by simp [msgK])).use fun u w175 ⟨a177, l177, c177, X5, xs5, hv, P5⟩ => ?_
    rw [e5] at hv P5
    subst hv
    have hl177 := no_msgs P5
    have L175 := L163.play P5
    refine ⟨_, _, _, _, rfl, fun _ => ⟨fun _ => ?_, fun h => (by rw [hl177] at h; cases h)⟩, fun h => (by cases h)⟩
    rw [← P5.p]
    -- what the worker tells is what it told
    refine (WHeld_ok L175.base.pair.wrk (by simp [W0, W1])).use fun u wh5 ⟨ah5, lh5, ch5, hs5, hv, HO5, hh5, hgh5⟩ => ?_
    rw [tell_W1] at hh5
    subst hv
    have L5 := L175.more hgh5
    refine ⟨_, _, _, rfl, ?_⟩
    rw [← hdh]
    refine (held_ok (hread_of HO5 hh5 hts8) L5.held (hh5.trans hh4.symm) (by have := congrArg List.length hh5; simp at this; omega)).use fun u w184 ⟨hv, hg184⟩ => ?_
    subst hv
    exact ⟨_, rfl, _, rfl, rfl, hg2.trans (L5.base.pair.grew.trans hg184)⟩
  · -- the attempt goes, and an answer with a code ends it
    refine msgK_ok.use fun u w188 ⟨hv, hg188⟩ => ?_
    subst hv
    refine ⟨_, _, _, _, _, _, _, _, _, _, _, _, _, _, _, rfl, ?_⟩
    have B188 := B133.more hg188
    have hrE := B188.rat.e
    rw [hre] at hrE
    have e4 := take_go (s := t) hG han hab (by rw [hae]; exact hto4.1) (by rw [hae]; exact hto4.2)
    replace e4 : (W1 x.p.c a).take t (msgK 3 0 0 to) = ⟨W1 x.p.c { a with begun := true }, (List.range x.p.c.stores.toNat).map ((W1 x.p.c a).begins (msgK 3 0 0 to) a), 0⟩ := by rw [← hae]; exact e4
    refine (play_ok (m := ⟨msgK 3 0 0 to, r.e, (none, 0, 0), (none, 0, 0)⟩) B188.pair ⟨hrE, Reads.nil, Reads.nil⟩ (by simp only [msgK]; omega) (by simp [msgK]) (by simp [msgK])).use fun u w200 ⟨a202, l202, c202, X4, xs4, hv, P4⟩ => ?_
    rw [e4] at hv P4
    subst hv
    have hl202 : (l202 : Int) = x.p.c.stores := by have h1 := P4.new.own.len; have := congrArg List.length P4.is; simp at this; rw [h1, this]; omega
    have B200 := B188.play P4
    refine ⟨_, _, _, _, rfl, fun h => (by cases h), fun _ => ⟨fun h => (by rw [hl202] at h; simp at h), fun _ => ?_⟩⟩
    refine ⟨fun k w' => (k = 5 ∨ k = 7) ∧ w' = w200, ⟨fun h => (by omega), fun _ => ⟨fun _ => ⟨.inr rfl, rfl⟩, fun _ => ⟨.inl rfl, rfl⟩⟩⟩, ?_⟩
    rintro n206 w207 ⟨hkk, rfl⟩ n208 h208
    refine ⟨fun h => (by omega), fun _ n209 h209 n210 h210 => ?_⟩
    have e208 : n208 = 1 + x.p.c.workers + ((0 : Nat) : Int) := by rw [h208, IntKind.wrap_i64]; omega
    have hu2 : 0 ≤ IntKind.u64.wrap code := by rw [IntKind.wrap_u64]; omega
    have t2 := Int.tmod_nonneg 1000 hu2
    have t3 := Int.tmod_lt_of_pos (IntKind.u64.wrap code) (show (0 : Int) < 1000 by omega)
    have hcd : 1 ≤ n210 ∧ n210 ≤ 1000 := by rw [h210, h209, IntKind.wrap_i64, IntKind.wrap_i64]; omega
    subst e208
    refine msgK_ok.use fun u w211 ⟨hv, hg211⟩ => ?_
    subst hv
    refine ⟨_, _, _, _, _, _, _, _, _, _, _, _, _, _, _, rfl, ?_⟩
    rw [← P4.p]
    have e5 := take_code (s := t) hG (a := { a with begun := true }) han rfl hkk hcd (i := 0) (by omega)
    have B211 := B200.more hg211
    refine (play_ok (m := ⟨msgK n206 (1 + x.p.c.workers + ((0 : Nat) : Int)) n210 [], (none, 0, 0), (none, 0, 0), (none, 0, 0)⟩) B211.pair ⟨Reads.nil, Reads.nil, Reads.nil⟩ (by simp [msgK]) (by simp [msgK]) (by simp [msgK])).use fun u w223 ⟨a225, l225, c225, X5, xs5, hv, P5⟩ => ?_
    rw [e5] at hv P5
    subst hv
    have hl225 := no_msgs P5
    have B223 := B211.play P5
    refine ⟨_, _, _, _, rfl, fun h => (by cases h), fun _ => ⟨fun h => (by rw [hl225] at h; cases h), fun _ => ?_⟩⟩
    rw [← P5.p]
    -- what the worker tells
    refine (WHeld_ok B223.pair.wrk (by simp [W0, W1])).use fun u wh6 ⟨ah6, lh6, ch6, hs6, hv, HO6, hh6, hgh6⟩ => ?_
    rw [tell_W0] at hh6
    subst hv
    have hl230 : lh6 = 0 := by rw [HO6.own.len]; simpa using congrArg List.length hh6
    refine ⟨_, _, _, rfl, fun h => (by rw [hl230] at h; cases h), fun _ n232 h232 => ?_⟩
    have e232 : n232 = 1 + x.p.c.workers + ((0 : Nat) : Int) := by rw [h232, IntKind.wrap_i64]; omega
    subst e232
    have B228 := B223.more hgh6
    have e7 := take_none (s := t) (p := x.p.c) hG (k := 5) (.inl rfl) (i := 0) (by omega)
    -- a message without a list: the base B228 goes on to B245
    refine msgK_ok.use fun u wm7 ⟨hv, hgm7⟩ => ?_
    subst hv
    refine ⟨_, _, _, _, _, _, _, _, _, _, _, _, _, _, _, rfl, ?_⟩
    refine (play_ok (m := ⟨msgK 5 (1 + x.p.c.workers + ((0 : Nat) : Int)) 0 [], (none, 0, 0), (none, 0, 0), (none, 0, 0)⟩) (B228.pair.more hgm7) ⟨Reads.nil, Reads.nil, Reads.nil⟩ (by simp [msgK]) (by simp [msgK]) (by simp [msgK])).use fun u wt7 ⟨at7, lt7, ct7, X7, xs7, hv, P7⟩ => ?_
    rw [e7] at hv P7
    subst hv
    have B245 := (B228.more hgm7).play P7
    have hl7 := no_msgs P7
    refine ⟨_, _, _, _, rfl, fun _ => ⟨_, rfl, by rw [hl7]; rfl, hg2.trans B245.pair.grew⟩, fun h => (by cases h)⟩
open Go.ChangeShapes Go.WideShapes Go.ChangeAt Go.RowKit
set_option maxRecDepth 100000 in
theorem workerLate_lifted (os : Os) (started : os.Started) (H : Type) (enc : TypeId × Value → H) :
    ReturnsInHanded {} Tryz.checked os 5 .any (Rows.workerLateSpec.pre6 enc Tryz.prog Tryz.f5 Rows.workerLateRow.domain false) (Rows.workerLateSpec.post enc Tryz.prog Tryz.f5 false true false false) := by
  refine returnsInHanded_of_change_sized (C := Tryz.checked) (by kernel_rfl) started (by kernel_rfl) Tryz.func5
    (ChangeSpec.witness6 (enc := enc) (C := Tryz.checked) false ⟨#[], #[.agg #[.int .i64 0, .int .i64 0, .int .i64 0, .slice none 0 0, .int .i64 0, .int .i64 0, .int .i64 0, .int .i64 0, .slice none 0 0, .int .i64 0, .slice none 0 0], .int .i64 0, .int .i64 0], []⟩ 8 (by kernel_rfl) (by kernel_rfl) (by kernel_rfl) (by kernel_rfl)) ?_
  intro W base args ds gs before hval0 hW hcnd hsz0 _
  have hval : ∀ (j : Nat) t v, Tryz.f5.params[j]? = some t → args[j]? = some v → Value.okWide Tryz.prog W .any base t v := hval0
  have hW' := hW
  obtain ⟨p, q, hA0, hV, rfl, hfz, hnd⟩ := hW
  have hA : DataW.TrodAll enc Tryz.prog W 0 (fun _ => true) true Tryz.f5.params.toList args.toList ds p := hA0
  have hsz : (DataW.weightsEach Tryz.prog (Tryz.f5.params.toList ++ _) (ds ++ gs)).all (· ≤ reachBytes) = true := hsz0
  rw [show Tryz.f5.params = #[64, 3, 3] from by kernel_rfl] at hA hval hsz
  have hA1 := hA
  obtain ⟨v0, vs0, d0, ds0, p0, q0, hargs, rfl, rfl, h0, r0⟩ := trodAll_cons hA
  obtain ⟨v1, vs1, d1, ds1, p1, q1, rfl, rfl, rfl, h1, r1⟩ := trodAll_cons r0
  obtain ⟨v2, vs2, d2, ds2, p2, q2, rfl, rfl, rfl, h2, r2⟩ := trodAll_cons r1
  obtain ⟨rfl, rfl, rfl⟩ := trodAll_nil r2
  obtain rfl : args = #[v0, v1, v2] := by cases args; simp_all
  obtain ⟨x0, rfl, hx0⟩ := openCase (j := 0) hsz rfl rfl (hval 0 64 v0 rfl rfl) h0
  obtain ⟨x1, rfl, hcl1⟩ := Go.Sx.open_int (P := Tryz.prog) (k := .i64) (t := 3) (by kernel_rfl) (hval 1 3 v1 rfl rfl) h1
  obtain ⟨x2, rfl, hcl2⟩ := Go.Sx.open_int (P := Tryz.prog) (k := .i64) (t := 3) (by kernel_rfl) (hval 2 3 v2 rfl rfl) h2
  clear hA0 hA1 hval0 hsz0
  refine (CallsW.calls ⟨_, Tryz.func5, by kernel_rfl, by kernel_rfl⟩ (WorkerLate_ok hx0 hcl1 hcl2)).mono fun e W' ⟨w', hh, hk, v, he, hv, hg⟩ => ?_
  subst he; subst hv
  exact ⟨_, rfl, post_true (tb := 4) (by kernel_rfl) rfl (by kernel_rfl) (by kernel_rfl) ⟨rfl, rfl, rfl⟩ (by decide +kernel) hW' (below_of hg hh hk)⟩

theorem workerLate_holds : Rows.WorkerLateSaid :=
  OpenClaim.holds_of_wide 5 Tryz.f5 rfl rfl rfl rfl rfl rfl rfl ⟨rfl, rfl, rfl, rfl, rfl⟩ rfl rfl rfl rfl rfl (by kernel_rfl) Tryz.func5 (by kernel_rfl)
    (of_decide_eq_true (by kernel_rfl)) (by unfold Func.isWrapper; first | (rw [if_pos (by decide +kernel)]; kernel_rfl) | (rw [if_neg (by decide +kernel)]; exact ⟨rfl, rfl⟩))
    (fun os started H enc _ => workerLate_lifted os started H enc)
end Go.Proofs.YtcpkneemhfnanaaGreat
