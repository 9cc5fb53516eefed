/- WorkerTables: what it computes, and its row. Conditions: none. -/
import Derived.Test.YtcpkneemhfnanaaGreatProg
import Derived.Test.YtcpkneemhfnanaaGreatWorkT
import Derived.Test.YtcpkneemhfnanaaGreatRows
import Derived.Test.YtcpkneemhfnanaaGreatSxT
import Derived.Test.YtcpkneemhfnanaaGreatSxWq
namespace Go.Proofs.YtcpkneemhfnanaaGreat
open Go.Sx
set_option maxRecDepth 100000
set_option linter.unusedVariables false
set_option linter.unusedSimpArgs false
/- reprise/repriselaw17.WorkerTables -/
def sx7 (d_0 : Int) (d_1 : Int) (d_2 : Int) (d_3 : Option Addr) (d_3_n d_3_c : Nat) (d_4 : Int) (d_5 : Int) (d_6 : Int) (d_7 : Int) (d_8 : Option Addr) (d_8_n d_8_c : Nat) (d_9 : Int) (d_10 : Option Addr) (d_10_n d_10_c : Nat) (i : Option Addr) (i_n i_c : Nat) (R : Ending → World → Prop) (w : World) : Prop :=
  ∀ w1, Grew w w1 → CallsW Tryz.prog 8 [] w1 (RetR R fun u3 w2 => ∃ (b4 : Bool), u3 = .bool b4 ∧ (((!b4) = true → R (.returned (.bool false)) w2) ∧ ((!b4) = false → CallsW Tryz.prog 23 [.agg #[.int .i64 d_0, .int .i64 d_1,
    .int .i64 d_2, .slice d_3 d_3_n d_3_c, .int .i64 d_4, .int .i64 d_5, .int .i64 d_6, .int .i64 d_7, .slice d_8 d_8_n d_8_c, .int .i64 d_9, .slice d_10 d_10_n d_10_c]] w2 (RetR R fun u7 w6 => ∃ (p8 : Option Addr) (p9 :
    Option Addr) (a10 : Option Addr) (l10 c10 : Nat), u7 = .tuple #[.pointer p8, .pointer p9, .slice a10 l10 c10] ∧ (((Option.isNone p9) = true → CallsW Tryz.prog 24 [.agg #[.int .i64 d_0, .int .i64 d_1, .int .i64 d_2,
    .slice d_3 d_3_n d_3_c, .int .i64 d_4, .int .i64 d_5, .int .i64 d_6, .int .i64 d_7]] w6 (RetR R fun u13 w12 => ∃ (n14 : Int), u13 = .int .i64 n14 ∧ R (.returned (.bool (n14 != 0))) w12)) ∧ ((Option.isNone p9) = false
    → ∀ w16, Grew w6 w16 → CallsW Tryz.prog 34 [.pointer p8, .slice a10 l10 c10, .int .i64 d_5] w16 (RetR R fun u18 w17 => ∃ (a19 : Option Addr) (l19 c19 : Nat) (a20 : Option Addr) (l20 c20 : Nat) (n21 : Int), u18 = .tuple
    #[.slice a19 l19 c19, .slice a20 l20 c20, .int .i64 n21] ∧ (((n21 != 0) = true → R (.returned (.bool false)) w17) ∧ ((n21 != 0) = false → CallsW Tryz.prog 25 [.int .i64 1, .int .i64 0, .int .i64 0, .slice a10 l10 c10]
    w17 (RetR R fun u24 w23 => ∃ (n25 : Int) (n26 : Int) (n27 : Int) (n28 : Int) (n29 : Int) (n30 : Int) (a31 : Option Addr) (l31 c31 : Nat) (a32 : Option Addr) (l32 c32 : Nat) (a33 : Option Addr) (l33 c33 : Nat), u24 =
    .agg #[.int .i64 n25, .int .i64 n26, .int .i64 n27, .int .i64 n28, .int .i64 n29, .int .i64 n30, .slice a31 l31 c31, .slice a32 l32 c32, .slice a33 l33 c33] ∧ CallsW Tryz.prog 13 [.pointer p9, .pointer p8, .agg #[.int
    .i64 n25, .int .i64 n26, .int .i64 n27, .int .i64 n28, .int .i64 n29, .int .i64 n30, .slice a31 l31 c31, .slice a32 l32 c32, .slice a33 l33 c33]] w23 (RetR R fun u36 w35 => ∃ (a37 : Option Addr) (l37 c37 : Nat) (n38 :
    Int), u36 = .tuple #[.slice a37 l37 c37, .int .i64 n38] ∧ CallsW Tryz.prog 26 [.slice a37 l37 c37, .int .i64 n38, .int .i64 2, .int .i64 0] w35 (RetR R fun u41 w40 => ∃ (n42 : Int) (n43 : Int) (n44 : Int) (n45 : Int)
    (n46 : Int) (n47 : Int) (a48 : Option Addr) (l48 c48 : Nat) (a49 : Option Addr) (l49 c49 : Nat) (a50 : Option Addr) (l50 c50 : Nat) (b51 : Bool), u41 = .tuple #[.agg #[.int .i64 n42, .int .i64 n43, .int .i64 n44, .int
    .i64 n45, .int .i64 n46, .int .i64 n47, .slice a48 l48 c48, .slice a49 l49 c49, .slice a50 l50 c50], .bool b51] ∧ ∀ w53, Grew w40 w53 → (((!b51) = true → R (.returned (.bool false)) w53) ∧ ((!b51) = false → CallsW
    Tryz.prog 27 [.slice a48 l48 c48, .slice a19 l19 c19] w53 (RetR R fun u55 w54 => ∃ (b56 : Bool), u55 = .bool b56 ∧ (((!b56) = true → R (.returned (.bool false)) w54) ∧ ((!b56) = false → ∃ (J58 : World → Prop), (∃ (I59
    : Int → World → Prop) (m59 : Int → World → Nat), I59 0 w54 ∧ ∀ (n60 : Int) (w61 : World), I59 n60 w61 → (((decide (n60 < ((i_n : Nat) : Int))) = true → (((decide (n60 < 40)) = true → ∀ w62, Grew w61 w62 → withSome i
    (fun d63 => (0 ≤ n60 ∧ n60 < (i_n : Nat)) ∧ ∃ (n64 : Int) (x65 : Nat), CellsAt w62 (Addr.add d63 (n60.toNat * 2)) 0 [.int .u64 n64, .float .f64 x65] ∧ ((d_0 = 0 → R (.panicked (divPanic Tryz.prog)) w62) ∧ (d_0 ≠ 0 →
    SameB w62 w62 [(Addr.add d63 (n60.toNat * 2))] ∧ CallsW Tryz.prog 16 [.pointer p8, .int .i64 (Int.tmod n60 d_0), .agg #[.int .u64 n64, .float .f64 x65]] w62 (RetR R fun u67 w66 => ∃ (n68 : Int), u67 = .int .i64 n68 ∧
    (I59 (IntKind.i64.wrap (n60 + 1)) w66 ∧ m59 (IntKind.i64.wrap (n60 + 1)) w66 < m59 n60 w61)))))) ∧ ((decide (n60 < 40)) = false → J58 w61))) ∧ ((decide (n60 < ((i_n : Nat) : Int))) = false → J58 w61))) ∧ ∀  (w70 :
    World), J58 w70 → ∃ (I71 : Int → World → Prop) (m71 : Int → World → Nat), I71 0 w70 ∧ ∀ (n72 : Int) (w73 : World), I71 n72 w73 → (((decide (n72 < d_0)) = true → CallsW Tryz.prog 18 [.pointer p8, .int .i64 n72, .bool
    false] w73 (RetR R fun u75 w74 => ∃ (n76 : Int), u75 = .int .i64 n76 ∧ (I71 (IntKind.i64.wrap (n72 + 1)) w74 ∧ m71 (IntKind.i64.wrap (n72 + 1)) w74 < m71 n72 w73))) ∧ ((decide (n72 < d_0)) = false → CallsW Tryz.prog 32
    [.pointer p8, .slice a10 l10 c10, .slice a19 l19 c19] w73 (RetR R fun u79 w78 => ∃ (a80 : Option Addr) (l80 c80 : Nat) (n81 : Int), u79 = .tuple #[.slice a80 l80 c80, .int .i64 n81] ∧ CallsW Tryz.prog 33 [.slice d_3
    d_3_n d_3_c, .int .i64 d_4, .slice a80 l80 c80] w78 (RetR R fun u84 w83 => ∃ (a85 : Option Addr) (l85 c85 : Nat) (n86 : Int) (n87 : Int), u84 = .tuple #[.slice a85 l85 c85, .int .i64 n86, .int .i64 n87] ∧ (((n81 != 0)
    = true → R (.returned (.bool false)) w83) ∧ ((n81 != 0) = false → (((n87 != 0) = true → R (.returned (.bool false)) w83) ∧ ((n87 != 0) = false → CallsW Tryz.prog 25 [.int .i64 3, .int .i64 0, .int .i64 0, .slice a19
    l19 c19] w83 (RetR R fun u90 w89 => ∃ (n91 : Int) (n92 : Int) (n93 : Int) (n94 : Int) (n95 : Int) (n96 : Int) (a97 : Option Addr) (l97 c97 : Nat) (a98 : Option Addr) (l98 c98 : Nat) (a99 : Option Addr) (l99 c99 :
    Nat), u90 = .agg #[.int .i64 n91, .int .i64 n92, .int .i64 n93, .int .i64 n94, .int .i64 n95, .int .i64 n96, .slice a97 l97 c97, .slice a98 l98 c98, .slice a99 l99 c99] ∧ CallsW Tryz.prog 13 [.pointer p9, .pointer p8,
    .agg #[.int .i64 n91, .int .i64 n92, .int .i64 n93, .int .i64 n94, .int .i64 n95, .int .i64 n96, .slice a97 l97 c97, .slice a98 l98 c98, .slice a99 l99 c99]] w89 (RetR R fun u102 w101 => ∃ (a103 : Option Addr) (l103
    c103 : Nat) (n104 : Int), u102 = .tuple #[.slice a103 l103 c103, .int .i64 n104] ∧ (((n104 != 0) = true → R (.returned (.bool false)) w101) ∧ ((n104 != 0) = false → (((((l103 : Nat) : Int) != d_1) = true → R
    (.returned (.bool false)) w101) ∧ ((((l103 : Nat) : Int) != d_1) = false → ∃ (I106 : Option Addr → Nat → Nat → Int → World → Prop) (m106 : Option Addr → Nat → Nat → Int → World → Nat), I106 none 0 0 0 w101 ∧ ∀ (a107 :
    Option Addr) (l107 c107 : Nat) (n108 : Int) (w109 : World), I106 a107 l107 c107 n108 w109 → (((decide (n108 < d_1)) = true → ∀ n110 : Int, n110 = IntKind.i64.wrap ((1 : Int) + d_2) → ∀ n111 : Int, n111 =
    IntKind.i64.wrap (n110 + n108) → ∀ n112 : Int, n112 = IntKind.i64.wrap (n108 + 1) → (0 ≤ n112 ∧ n112 ≤ (c103 : Nat)) ∧ (0 ≤ n108 ∧ n108 ≤ (n112.toNat : Nat)) ∧ CallsW Tryz.prog 26 [.slice (if c103 = n108.toNat then
    a103 else Option.map (fun x => Addr.add x (n108.toNat * 9)) a103) (n112.toNat - n108.toNat) (c103 - n108.toNat), .int .i64 0, .int .i64 4, .int .i64 n111] w109 (RetR R fun u114 w113 => ∃ (n115 : Int) (n116 : Int)
    (n117 : Int) (n118 : Int) (n119 : Int) (n120 : Int) (a121 : Option Addr) (l121 c121 : Nat) (a122 : Option Addr) (l122 c122 : Nat) (a123 : Option Addr) (l123 c123 : Nat) (b124 : Bool), u114 = .tuple #[.agg #[.int .i64
    n115, .int .i64 n116, .int .i64 n117, .int .i64 n118, .int .i64 n119, .int .i64 n120, .slice a121 l121 c121, .slice a122 l122 c122, .slice a123 l123 c123], .bool b124] ∧ ∀ w126, Grew w113 w126 → CallsW Tryz.prog 25
    [.int .i64 5, .int .i64 n111, .int .i64 0, .slice none 0 0] w126 (RetR R fun u128 w127 => ∃ (n129 : Int) (n130 : Int) (n131 : Int) (n132 : Int) (n133 : Int) (n134 : Int) (a135 : Option Addr) (l135 c135 : Nat) (a136 :
    Option Addr) (l136 c136 : Nat) (a137 : Option Addr) (l137 c137 : Nat), u128 = .agg #[.int .i64 n129, .int .i64 n130, .int .i64 n131, .int .i64 n132, .int .i64 n133, .int .i64 n134, .slice a135 l135 c135, .slice a136
    l136 c136, .slice a137 l137 c137] ∧ CallsW Tryz.prog 13 [.pointer p9, .pointer p8, .agg #[.int .i64 n129, .int .i64 n130, .int .i64 n131, .int .i64 n132, .int .i64 n133, .int .i64 n134, .slice a135 l135 c135, .slice
    a136 l136 c136, .slice a137 l137 c137]] w127 (RetR R fun u140 w139 => ∃ (a141 : Option Addr) (l141 c141 : Nat) (n142 : Int), u140 = .tuple #[.slice a141 l141 c141, .int .i64 n142] ∧ CallsW Tryz.prog 26 [.slice a141
    l141 c141, .int .i64 n142, .int .i64 6, .int .i64 n111] w139 (RetR R fun u145 w144 => ∃ (n146 : Int) (n147 : Int) (n148 : Int) (n149 : Int) (n150 : Int) (n151 : Int) (a152 : Option Addr) (l152 c152 : Nat) (a153 :
    Option Addr) (l153 c153 : Nat) (a154 : Option Addr) (l154 c154 : Nat) (b155 : Bool), u145 = .tuple #[.agg #[.int .i64 n146, .int .i64 n147, .int .i64 n148, .int .i64 n149, .int .i64 n150, .int .i64 n151, .slice a152
    l152 c152, .slice a153 l153 c153, .slice a154 l154 c154], .bool b155] ∧ ∀ w157, Grew w144 w157 → ∀ w158, Grew w157 w158 → (((!b124) = true → R (.returned (.bool false)) w158) ∧ ((!b124) = false → (((!b155) = true → R
    (.returned (.bool false)) w158) ∧ ((!b155) = false → CallsW Tryz.prog 30 [.slice a154 l154 c154] w158 (RetR R fun u160 w159 => ∃ (a161 : Option Addr) (l161 c161 : Nat), u160 = .slice a161 l161 c161 ∧ SameB w158 w159 []
    ∧ CallsW Tryz.prog 29 [.slice a122 l122 c122, .slice a161 l161 c161] w159 (RetR R fun u164 w163 => ∃ (b165 : Bool), u164 = .bool b165 ∧ SameB w159 w163 [] ∧ (((!b165) = true → R (.returned (.bool false)) w163) ∧
    ((!b165) = false → ∃ (I167 : Int → World → Prop) (m167 : Int → World → Nat), I167 0 w163 ∧ ∀ (n168 : Int) (w169 : World), I167 n168 w169 → (((decide (n168 < ((l154 : Nat) : Int))) = true → ∀ w170, Grew w169 w170 →
    withSome a154 (fun d171 => (0 ≤ n168 ∧ n168 < (l154 : Nat)) ∧ ∃ (n172 : Int), w170.cell? (Addr.add d171 (n168.toNat * 3)) = some (.int .u64 n172) ∧ CallsW Tryz.prog 35 [.agg #[.int .i64 d_0, .int .i64 d_1, .int .i64
    d_2, .slice d_3 d_3_n d_3_c, .int .i64 d_4, .int .i64 d_5, .int .i64 d_6, .int .i64 d_7], .int .u64 n172] w170 (RetR R fun u174 w173 => ∃ (n175 : Int), u174 = .int .i64 n175 ∧ (((n175 != n111) = true → R (.returned
    (.bool false)) w173) ∧ ((n175 != n111) = false → withSome a154 (fun d177 => (0 ≤ n168 ∧ n168 < (l154 : Nat)) ∧ ∃ (b178 : Bool) (n179 : Int), CellsAt w173 (Addr.add (Addr.add d177 (n168.toNat * 3)) 1) 0 [.bool b178,
    .int .u64 n179] ∧ withSome a154 (fun d180 => (0 ≤ n168 ∧ n168 < (l154 : Nat)) ∧ ∃ (b181 : Bool) (n182 : Int), CellsAt w173 (Addr.add (Addr.add d180 (n168.toNat * 3)) 1) 0 [.bool b181, .int .u64 n182] ∧ CallsW Tryz.prog
    36 [.int .i64 d_4, .agg #[.bool b178, .int .u64 n179]] w173 (RetR R fun u184 w183 => ∃ (b185 : Bool) (n186 : Int), u184 = .agg #[.bool b185, .int .u64 n186] ∧ SameB w173 w183 [(Addr.add (Addr.add d180 (n168.toNat *
    3)) 1), (Addr.add (Addr.add d177 (n168.toNat * 3)) 1)] ∧ ∃ (b188 : Bool), PureTo Tryz.prog (eqS .neq 81 (.tmp 228) (.tmp 234) (.agg #[.bool b185, .int .u64 n186]) (.agg #[.bool b181, .int .u64 n182])) (.bool b188) ∧
    ((b188 = true → R (.returned (.bool false)) w183) ∧ (b188 = false → ∀ n189 : Int, n189 = IntKind.i64.wrap (n168 + 1) → (I167 n189 w183 ∧ m167 n189 w183 < m167 n168 w169))))))))))) ∧ ((decide (n168 < ((l154 : Nat) :
    Int))) = false → CallsW Tryz.prog 31 [.int .i64 d_4, .slice a107 l107 c107, .slice a154 l154 c154] w169 (RetR R fun u191 w190 => ∃ (a192 : Option Addr) (l192 c192 : Nat) (n193 : Int), u191 = .tuple #[.slice a192 l192
    c192, .int .i64 n193] ∧ (((n193 != 0) = true → R (.returned (.bool false)) w190) ∧ ((n193 != 0) = false → ∀ n195 : Int, n195 = IntKind.i64.wrap (n108 + 1) → (I106 a192 l192 c192 n195 w190 ∧ m106 a192 l192 c192 n195
    w190 < m106 a107 l107 c107 n108 w109))))))))))))))))))) ∧ ((decide (n108 < d_1)) = false → CallsW Tryz.prog 28 [.slice a107 l107 c107, .slice a85 l85 c85] w109 (RetR R fun u197 w196 => ∃ (b198 : Bool), u197 = .bool
    b198 ∧ R (.returned (.bool b198)) w196))))))))))))))))))))))))))))))))))
theorem sx7.ok {d_0 : Int} {d_1 : Int} {d_2 : Int} {d_3 : Option Addr} {d_3_n d_3_c : Nat} {d_4 : Int} {d_5 : Int} {d_6 : Int} {d_7 : Int} {d_8 : Option Addr} {d_8_n d_8_c : Nat} {d_9 : Int} {d_10 : Option Addr} {d_10_n d_10_c : Nat} {i : Option Addr} {i_n i_c : Nat} {R : Ending → World → Prop} {w : World} (h : sx7 d_0 d_1 d_2 d_3 d_3_n d_3_c d_4 d_5 d_6 d_7 d_8 d_8_n d_8_c d_9 d_10 d_10_n d_10_c i i_n i_c R w) : CallsW Tryz.prog 7 [.agg #[.int .i64 d_0, .int .i64 d_1, .int .i64 d_2, .slice d_3 d_3_n d_3_c, .int .i64 d_4, .int .i64 d_5, .int .i64 d_6, .int .i64 d_7, .slice d_8 d_8_n d_8_c, .int .i64 d_9, .slice d_10 d_10_n d_10_c], .slice i i_n i_c] w R :=
  callsW_of mix Tryz.func7 (by kernel_rfl) (by kernel_rfl) (Eq.mpr (by kernel_rfl : denFn Tryz.prog { locals := [2, 8, 13, 25, 27], pureTo := [235], named := [156, 159, 161, 166, 208], draws := [(17, { order := (.cons 0 (.cons 1 (.cons 2 (.cons 3 (.cons 5 (.cons 6 (.cons 7 (.cons 8 (.cons 4 (.cons 9 .nil)))))))))), bars := [9] }), (37, { order := (.cons 0 (.cons 1 (.cons 2 (.cons 3 (.cons 4 (.cons 5 (.cons 6 (.cons 7 (.cons 8 (.cons 9 (.cons 10 (.cons 11 (.cons 12 (.cons 13 (.cons 14 .nil))))))))))))))), bars := [] }), (42, { order := (.cons 0 (.cons 1 (.cons 2 (.cons 3 (.cons 4 (.cons 5 (.cons 6 (.cons 8 (.cons 7 (.cons 9 (.cons 10 (.cons 11 (.cons 12 (.cons 13 (.cons 14 (.cons 15 (.cons 16 (.cons 17 (.cons 18 (.cons 20 (.cons 21 (.cons 22 (.cons 23 (.cons 24 (.cons 25 (.cons 19 (.cons 26 (.cons 27 .nil)))))))))))))))))))))))))))), bars := [7] })], loops := [(15, { slots := [(15, .int .i64)], cells := [] }), (19, { slots := [(16, .int .i64)], cells := [] }), (40, { slots := [(29, .int .i64)], cells := [] }), (1031, { slots := [(22, .slice), (23, .int .i64)], cells := [] })], cuts := [(18, { slots := [], cells := [] })] } Tryz.f7 [.agg #[.int .i64 d_0, .int .i64 d_1, .int .i64 d_2, .slice d_3 d_3_n d_3_c, .int .i64 d_4, .int .i64 d_5, .int .i64 d_6, .int .i64 d_7, .slice d_8 d_8_n d_8_c, .int .i64 d_9, .slice d_10 d_10_n d_10_c], .slice i i_n i_c] R w = sx7 d_0 d_1 d_2 d_3 d_3_n d_3_c d_4 d_5 d_6 d_7 d_8 d_8_n d_8_c d_9 d_10 d_10_n d_10_c i i_n i_c R w) h)

def valEqbW (x y : ValV) : Bool := x.has == y.has && (x.bits == y.bits && true)
theorem val_neqW {x y : ValV} {p q : Operand} (h : x = y) : PureTo Tryz.prog (eqS .neq 81 p q (.agg #[.bool x.has, .int .u64 x.bits]) (.agg #[.bool y.has, .int .u64 y.bits])) (.bool false) := by
  subst h
  have e : (false : Bool) = !valEqbW x x := by unfold valEqbW; simp
  rw [e]
  exact eqS_neq (b := valEqbW x x) (by kernel_rfl) (by kernel_rfl)
set_option maxHeartbeats 4000000 in
theorem WorkerTables_ok {x : CaseX} {ma : Option Addr} {mn mc : Nat} {mr : List RecV} {w : World} (hx : CaseIn w x) (hm : Reads w Enc.rcd (ma, mn, mc) mr) (hmf : ∀ r ∈ mr, r.Fits) (hml : mr.length ≤ maxLen) (hmb : mr.length * 16 ≤ 140737488351232) :
    CallsW Tryz.prog 7 [x.val, .slice ma mn mc] w (Rets fun v w' => v = .bool true ∧ Grew w w') := by
  refine sx7.ok ?_
  unfold sx7
  have hmn : mn = mr.length := hm.2.1
  subst hmn
  obtain ⟨rs, hrs, hrf⟩ := hx.rl
  obtain ⟨fr, hfr⟩ := hx.fl
  have nb : ∀ {x y : World}, SameB x y [] := by intro x y; simp [SameB]
  intro w1 hg1
  refine awakeW_ok.use fun v w2 ⟨hv, hg2⟩ => ?_
  subst hv
  have hg2 := hg1.trans hg2
  refine ⟨_, rfl, fun h => (by cases h), fun _ => (ready_ok (off := x.off) (hx.plan.grew hg2) hx.ops (hrs.grew hg2) hrf (hfr.grew hg2)).use fun u w6 ⟨hg6, hc⟩ => ?_⟩
  have hg6' := hg2.trans hg6
  rcases hc with ⟨hb, hv⟩ | ⟨hgd, sx, s, X, a10, l10, c10, f, hv, P0, ho10, hap10, hE, hsp, hsl⟩
  · subst hv
    refine ⟨_, _, _, _, _, rfl, fun _ => (PCheck_ok (hx.plan.grew hg6')).use fun u w12 ⟨hv, hg12⟩ => ?_, fun h => (by cases h)⟩
    subst hv
    refine ⟨_, rfl, _, rfl, ?_, hg6'.trans hg12⟩
    have : checkP x.p.c ≠ 0 := fun h => by rw [checkP_good.1 h] at hb; cases hb
    simp [this]
  subst hv
  have hG := goodP_iff.1 hgd
  have hfit := P0.src.fits
  have hSt := hG.stores; have hWk := hG.workers; have hPt := hG.parts
  obtain ⟨hf1, hf2⟩ := ends_256 hfit hE
  have ht1 := take_new hG hfit hE
  have hnA := newA_is (s := s) (f := f) hG hE (V := W0 x.p.c) rfl 7 1
  refine ⟨_, _, _, _, _, rfl, fun h => (by cases h), fun _ => ?_⟩
  intro w16 hg16
  have hFV := form_okV (s := s) (f := f) hG hE
  refine (Form_ok (most := x.p.c.batch) (P0.src.grew hg16) (ho10.grew hg16).reads).use fun u wF ⟨a19, l19, c19, a20, l20, c20, hv, ho19, ho20, hgF⟩ => ?_
  rw [hFV] at hv ho19
  subst hv
  refine ⟨_, _, _, _, _, _, _, rfl, fun h => (by cases h), fun _ => ?_⟩
  have C19 : Clear wF sx X (Blk a19) := Clear.new (P0.more hg16) fun b hb => ho19.blk hb
  simp only at ho19
  -- MsgAssign of attempt 7: from here on the worker holds it
  have P16 := P0.more (hg16.trans hgF)
  refine msgK_ok.use fun u w17 ⟨hv, hg17⟩ => ?_
  subst hv
  refine ⟨_, _, _, _, _, _, _, _, _, _, _, _, _, _, _, rfl, ?_⟩
  have P17 := P16.more hg17
  have ho17 := (ho10.grew (hg16.trans hgF)).grew hg17
  refine (play_ok (m := ⟨msgK 1 0 0 f, (a10, l10, c10), (none, 0, 0), (none, 0, 0)⟩) P17 ⟨ho17.reads, Reads.nil, Reads.nil⟩ (by simp only [msgK]; omega) (by simp [msgK]) (by simp [msgK])).use fun u w29 ⟨a31, l31, c31, X1, xs1, hv, P1⟩ => ?_
  rw [show (⟨x.p.c, 1, []⟩ : WorkV) = W0 x.p.c from rfl] at hv P1
  rw [ht1] at hv P1
  subst hv
  generalize hA : (W0 x.p.c).newA s (msgK 1 0 0 f) = a at P1
  have ha : a = ⟨7, toV s x.p.c.batch f, dealP x.p.c.stores (tableT (bAll x.p.c.ops x.p.c.agg (btwV s f (toV s x.p.c.batch f) f.length)).1), false, []⟩ := hA.symm.trans hnA
  generalize hto : toV s x.p.c.batch f = to at P1 ha
  have hto4 : (1 ≤ to.length ∧ to.length ≤ 4) ∧ ∀ e ∈ to, 0 ≤ e ∧ e ≤ 256 := by
    rw [← hto]
    exact ⟨by rw [toV_len]; exact hf1, toV_256 hfit hG.batch.1 hE⟩
  have hab : a.begun = false := by rw [ha]
  have haa : a.applied = [] := by rw [ha]
  have han : a.number = 7 := by rw [ha]
  have hae : a.ends = to := by rw [ha]
  obtain ⟨r, hr1, hrc, hone⟩ := one_ok (kind := 2) (to := 0) P1.out.own.own.reads P1.is rfl rfl rfl rfl rfl
  subst hr1
  have hre : r.c.ends = to := by rw [hrc]
  have B29 : Base w2 w29 sx s X1 (W1 x.p.c a) f a10 l10 c10 r := base_new (V := ⟨x.p.c, 1, []⟩) P17 ho17.reads ⟨fun b hb => ⟨(ho17.blk hb).2, hap10 b hb⟩⟩ (Grew.refl _) P1
  refine ⟨_, _, _, _, rfl, hone.use fun u w34 ⟨hv, hg34⟩ => ?_⟩
  subst hv
  have B34 := B29.more hg34
  rw [hto] at ho19
  have C19' := (C19.more hg17.size).play P1
  have ho29 := (ho19.grew hg17).upd P1.upd fun b hb => ((C19.more hg17.size).out b hb).2.2
  refine ⟨_, _, _, _, _, _, _, _, _, _, _, _, _, _, _, _, rfl, fun w53 hg53 => ⟨fun h => (by cases h), fun _ => ?_⟩⟩
  have B53 := B34.more hg53
  have hrE := B53.rat.e
  rw [hre] at hrE
  have ho53 := (ho29.grew hg34).grew hg53
  refine (ints_ok hrE ho53.reads (by omega)).use fun u w54 ⟨hv, hg54⟩ => ?_
  subst hv
  refine ⟨_, rfl, fun h => (by simp at h), fun _ => ?_⟩
  -- from here on what Form told stands for the message
  obtain ⟨q, hq⟩ : ∃ q : Msg, q = ⟨msgK 3 0 0 to, (a19, l19, c19), (none, 0, 0), (none, 0, 0)⟩ := ⟨_, rfl⟩
  have hqB : ∀ b, q.Blk b → Blk a19 b := fun b hb => by
    rw [hq] at hb
    rcases hb with hb | hb | hb
    · exact hb
    · exact (Blk.none hb).elim
    · exact (Blk.none hb).elim
  have BQ : Base w2 w54 sx s X1 (W1 x.p.c a) f a10 l10 c10 q := by
    have B54 := B53.more hg54
    refine ⟨B54.pair, B54.from_, by rw [hq]; exact ⟨(ho53.grew hg54).reads, Reads.nil, Reads.nil⟩, ⟨fun b hb => ?_⟩⟩
    rcases hb with hb | hb
    · exact B54.clr.out b (.inl hb)
    · exact (C19'.more (hg34.trans (hg53.trans hg54)).size).out b (hqB b hb)
  have hqe : q.e = (a19, l19, c19) ∧ q.c.ends = to := by rw [hq]; exact ⟨rfl, rfl⟩
  -- the source grows
  refine ⟨fun w' => ∃ (sy : SrcX) (t : SrcV), sy.p = sx.p ∧ Base w2 w' sy t X1 (W1 x.p.c a) f a10 l10 c10 q ∧ t.parts.length = s.parts.length ∧ LogsOn s t, ⟨fun i w' => ∃ (k : Nat) (sy : SrcX) (t : SrcV), i = k ∧ k ≤ mr.length ∧ sy.p = sx.p ∧ Base w2 w' sy t X1 (W1 x.p.c a) f a10 l10 c10 q ∧ t.parts.length = s.parts.length ∧ LogsOn s t, fun i _ => mr.length - i.toNat, ⟨0, sx, s, rfl, Nat.zero_le _, rfl, BQ, rfl, LogsOn.refl s⟩, ?_⟩, ?_⟩
  · rintro n60 w61 ⟨k, sy, t, rfl, hk, hsy, B61, htp, htl⟩
    refine ⟨fun hlt => ⟨fun h40 w62 hg62 => ?_, fun _ => ⟨sy, t, hsy, B61, htp, htl⟩⟩, fun _ => ⟨sy, t, hsy, B61, htp, htl⟩⟩
    simp only [decide_eq_true_eq] at hlt
    have hw : IntKind.i64.wrap ((k : Int) + 1) = ((k + 1 : Nat) : Int) := by rw [IntKind.wrap_i64]; omega
    have B62 := B61.more hg62
    obtain ⟨d, y, rfl, hyk, hyc⟩ := (hm.grew (hg2.trans B62.pair.grew)).at0 (k := k) (by omega)
    have hycell : CellsAt w62 (Addr.add d (((k : Nat) : Int).toNat * 2)) 0 [.int .u64 y.key, .float .f64 y.val] := hyc
    refine ⟨⟨by omega, by omega⟩, _, _, hycell, fun h => (by omega), fun _ => ⟨⟨rfl, trivial⟩, ?_⟩⟩
    rw [← hsy]
    refine (Produce_ok (p := Int.tmod (k : Int) x.p.c.parts) (r := y) B62.pair.src (hmf y (List.mem_of_getElem? hyk)) B62.pair.grew.size).use fun u w66 ⟨hv, hM⟩ => ?_
    subst hv
    obtain ⟨sz, z1, B66⟩ := B62.src hM
    exact ⟨_, rfl, ⟨k + 1, sz, _, hw, by omega, by first | exact z1 | exact z1.trans hsy, B66, by rw [(produce_parts _ _ _).1]; exact htp, htl.trans (produce_logs _ _ _)⟩, by simp only [hw]; omega⟩
  rintro w70 ⟨sy0, t0, hsy0, B70, htp0, htl0⟩
  refine ⟨fun i w' => ∃ (k : Nat) (sy : SrcX) (t : SrcV), i = k ∧ sy.p = sx.p ∧ Base w2 w' sy t X1 (W1 x.p.c a) f a10 l10 c10 q ∧ t.parts.length = s.parts.length ∧ LogsOn s t, fun i _ => 4 - i.toNat, ⟨0, sy0, t0, rfl, hsy0, B70, htp0, htl0⟩, ?_⟩
  rintro n72 w73 ⟨k, sy, t, rfl, hsy, B73, htp, htl⟩
  rw [← hsy]
  refine ⟨fun hlt => ?_, fun _ => ?_⟩
  · simp only [decide_eq_true_eq] at hlt
    have hw : IntKind.i64.wrap ((k : Int) + 1) = ((k + 1 : Nat) : Int) := by rw [IntKind.wrap_i64]; omega
    refine (Switch_ok (p := (k : Int)) (on := false) B73.pair.src).use fun u w74 ⟨hv, hM⟩ => ?_
    subst hv
    obtain ⟨sz, z1, B74⟩ := B73.src hM
    exact ⟨_, rfl, ⟨k + 1, sz, _, hw, by first | exact z1 | exact z1.trans hsy, B74, by rw [(switch_parts _ _ _).1]; exact htp, htl.trans (switch_logs _ _ _)⟩, by simp only [hw]; omega⟩
  have hEt := endsE_more hE htp htl.len
  have hfitT := B73.pair.src.fits
  have toGet : ∀ (i : Nat) (e : Int), to[i]? = some e → ∃ e0, f[i]? = some e0 ∧ e0 ≤ e ∧ 0 ≤ e ∧ e ≤ s.len (i : Int) := by
    intro i e he
    have hil : i < f.length := by have := (List.getElem?_eq_some_iff.1 he).1; rw [← hto, toV_len] at this; exact this
    have hf0 := List.getElem?_eq_getElem hil
    rw [← hto, toV_get hf0] at he
    have h1 := (endsE_ok.1 hE).2 i _ hf0
    have h2 := len_256 hfit (i : Int)
    have hb := hG.batch
    cases he
    refine ⟨_, hf0, ?_⟩
    unfold toI
    split <;> omega
  have htol : to.length = f.length := by rw [← hto, toV_len]
  have hEto : endsE t to = 0 := endsE_ok.2 ⟨by rw [htol, htp]; exact (endsE_ok.1 hE).1, fun i e he => by obtain ⟨e0, h1, h2, h3, h4⟩ := toGet i e he; have := htl.len (i : Int); omega⟩
  have hfw : forwB f to = true := forwB_iff.2 ⟨htol.symm, fun i e0 e h0 he => by obtain ⟨e1, h1, h2, -⟩ := toGet i e he; rw [h0] at h1; cases h1; exact h2⟩
  have hag : againV t f to = (btwV s f to f.length, 0) := by
    unfold againV
    rw [if_pos ⟨hEt, hEto, hfw⟩, btw_on htl fun i hi => ?_]
    have := List.getElem?_eq_getElem (show i < to.length by omega)
    obtain ⟨e0, -, -, -, h4⟩ := toGet i _ this
    rw [getD_of this]; exact h4
  have hqE := B73.rat.e
  rw [hqe.1, hqe.2] at hqE
  refine (Again_ok B73.pair.src B73.from_ hqE).use fun u w78 ⟨a80, l80, c80, hv, ho80, hg78⟩ => ?_
  rw [hag] at hv ho80
  subst hv
  simp only at ho80
  have hrl : (btwV s f to f.length).length ≤ 64 := by rw [← hto]; have := btwV_16 (v := s) hG.batch hE f.length; omega
  have hrF : ∀ y ∈ btwV s f to f.length, y.Fits := btwV_fits hfit _ _ _
  generalize hR : btwV s f to f.length = R at ho80 hrl hrF
  have hgT : Grew w w78 := hg2.trans (B73.pair.grew.trans hg78)
  refine ⟨_, _, _, _, rfl, (Batch_ok (kind := x.p.c.agg) (hx.plan.grew hgT) hx.ops ho80.reads hrF (by omega)).use fun u w83 ⟨a85, l85, c85, hv, ho85, hg83⟩ => ?_⟩
  simp only [hG.ops, hG.agg, and_self, if_true] at hv ho85
  rw [batch_same] at ho85
  subst hv
  have haT : a.pairs = dealP x.p.c.stores (tableT (bAll x.p.c.ops x.p.c.agg R).1) := by rw [ha, hR]
  have tF := tabl_fits (kind := x.p.c.agg) hx.ops hrF
  have tL := tabl_len (l := x.p.c.ops) (kind := x.p.c.agg) (rs := R)
  rw [batch_same] at tF tL
  obtain ⟨tR, tV⟩ := batch_fitV (kind := x.p.c.agg) hG.agg hx.ops hrF
  generalize tableT (bAll x.p.c.ops x.p.c.agg R).1 = T at ho85 haT tF tL tR tV
  refine ⟨_, _, _, _, _, rfl, fun h => (by cases h), fun _ => ⟨fun h => (by cases h), fun _ => ?_⟩⟩
  have B83 := (B73.more hg78).more hg83
  have C85 : Clear w83 sy X1 (Blk a85) := Clear.new (B73.more hg78).pair fun b hb => ho85.blk hb
  -- MsgGo
  refine msgK_ok.use fun u w89 ⟨hv, hg89⟩ => ?_
  subst hv
  refine ⟨_, _, _, _, _, _, _, _, _, _, _, _, _, _, _, rfl, ?_⟩
  have B89 := B83.more hg89
  have e4 := take_go (s := t) hG han hab (by rw [hae]; exact hto4.1) (by rw [hae]; exact hto4.2)
  replace e4 : (W1 x.p.c a).take t (msgK 3 0 0 to) = ⟨W1 x.p.c { a with begun := true }, (List.range x.p.c.stores.toNat).map ((W1 x.p.c a).begins (msgK 3 0 0 to) a), 0⟩ := by rw [← hae]; exact e4
  have hqE89 := B89.rat.e
  rw [hqe.1, hqe.2] at hqE89
  rw [← P1.p]
  refine (play_ok (m := ⟨msgK 3 0 0 to, (a19, l19, c19), (none, 0, 0), (none, 0, 0)⟩) B89.pair ⟨hqE89, Reads.nil, Reads.nil⟩ (by simp only [msgK]; omega) (by simp [msgK]) (by simp [msgK])).use fun u w101 ⟨a103, l103, c103, X4, xs4, hv, P4⟩ => ?_
  rw [e4] at hv P4
  subst hv
  have hx4 : xs4.length = x.p.c.stores.toNat := by have := congrArg List.length P4.is; simpa using this
  have hl103 : (l103 : Int) = x.p.c.stores := by rw [P4.new.own.len, hx4]; omega
  refine ⟨_, _, _, _, rfl, fun h => (by cases h), fun _ => ⟨fun h => (by rw [hl103] at h; simp at h), fun _ => ?_⟩⟩
  have C101 := (C85.more hg89.size).play P4
  have S0 : TabSt w2 w101 sy t X4 x.p.c { a with begun := true } f a10 l10 c10 q T T a103 l103 c103 xs4 a85 l85 c85 none 0 0 0 :=
    ⟨B89.play P4, P4.out, (ho85.grew hg89).reads.upd P4.upd fun b hb => ((C85.more hg89.size).out b hb).2.2, C101, by rw [upTo_zero (by omega)]; exact Reads.nil, ⟨fun b hb => (Blk.none hb).elim⟩⟩
  refine ⟨fun aa nn cc i w' => ∃ (k : Nat) (Y : WorkX), i = k ∧ (k : Int) ≤ x.p.c.stores ∧ Y.p = X4.p ∧ TabSt w2 w' sy t Y x.p.c { a with begun := true } f a10 l10 c10 q T T a103 l103 c103 xs4 a85 l85 c85 aa nn cc k, fun _ _ _ i _ => 4 - i.toNat, ⟨0, X4, rfl, by omega, rfl, ?_⟩, ?_⟩
  · exact S0
  rintro a107 l107 c107 n108 w109 ⟨k, Y, rfl, hkS, hY, S1⟩
  rw [← P4.p, ← hY]
  refine ⟨fun hlt n110 h110 n111 h111 n112 h112 => ?_, fun hge => ?_⟩
  · simp only [decide_eq_true_eq] at hlt
    have hks : k < x.p.c.stores.toNat := by omega
    have hw : IntKind.i64.wrap ((k : Int) + 1) = ((k + 1 : Nat) : Int) := by rw [IntKind.wrap_i64]; omega
    have e112 : n112 = ((k + 1 : Nat) : Int) := by rw [h112, hw]
    have e111 : n111 = 1 + x.p.c.workers + (k : Int) := by rw [h111, h110, IntKind.wrap_i64, IntKind.wrap_i64]; omega
    subst e112; subst e111
    have hl4 := S1.out.own.own.le
    have hx4k : ∃ xk, xs4[k]? = some xk := ⟨_, List.getElem?_eq_getElem (by omega)⟩
    obtain ⟨xk, hxk⟩ := hx4k
    have hxkc : xk.c = (W1 x.p.c a).begins (msgK 3 0 0 to) a k := by
      have h1 : (xs4.map (·.c))[k]? = some xk.c := by rw [List.getElem?_map, hxk]; rfl
      rw [P4.is] at h1
      simp only at h1
      rw [List.getElem?_map, List.getElem?_range hks] at h1
      exact (Option.some.inj h1).symm
    have hbk : a.pairs.getD k [] = dealI x.p.c.stores T k := by rw [haT, List.getD_eq_getElem?_getD, dealP_get hks]; rfl
    have hkeys : xk.c.keys = (dealI x.p.c.stores T k).map (·.key) := by rw [hxkc]; show (a.pairs.getD k []).map _ = _; rw [hbk]
    have hcut := S1.out.own.own.reads.cut (i := k) (j := k + 1) (by omega) (by omega)
    rw [take_drop_one hxk] at hcut
    refine ⟨⟨by omega, by omega⟩, ⟨by omega, by omega⟩, ?_⟩
    obtain ⟨b1, hb1, hb1c, hone1⟩ := one_ok (m := xk.c) (kind := 4) (to := 1 + x.p.c.workers + (k : Int)) hcut rfl (by rw [hxkc]; rfl) (by rw [hxkc]; rfl) (by rw [hxkc]; rfl) (by rw [hxkc]; rfl) (by rw [hxkc]; rfl)
    cases hb1
    refine hone1.use fun u w113 ⟨hv, hg113⟩ => ?_
    subst hv
    refine ⟨_, _, _, _, _, _, _, _, _, _, _, _, _, _, _, _, rfl, fun w126 hg126 => ?_⟩
    have S2 := S1.more (hg113.trans hg126)
    refine msgK_ok.use fun u w127 ⟨hv, hg127⟩ => ?_
    subst hv
    refine ⟨_, _, _, _, _, _, _, _, _, _, _, _, _, _, _, rfl, ?_⟩
    have S3 := S2.more hg127
    have e5 := take_began (s := t) hG (a := { a with begun := true }) han rfl hks
    replace e5 : (W1 x.p.c { a with begun := true }).take t (msgK 5 (1 + x.p.c.workers + (k : Int)) 0 []) = ⟨W1 x.p.c { a with begun := true }, [⟨6, 1, 1 + x.p.c.workers + (k : Int), 3, 7, 0, [], [], dealI x.p.c.stores T k⟩], 0⟩ := by rw [← hbk]; exact e5
    refine (play_ok (m := ⟨msgK 5 (1 + x.p.c.workers + (k : Int)) 0 [], (none, 0, 0), (none, 0, 0), (none, 0, 0)⟩) S3.base.pair ⟨Reads.nil, Reads.nil, Reads.nil⟩ (by simp [msgK]) (by simp [msgK]) (by simp [msgK])).use fun u w139 ⟨a141, l141, c141, Y5, xs5, hv, P5⟩ => ?_
    rw [e5] at hv P5
    subst hv
    have S4 := S3.play P5
    refine ⟨_, _, _, _, rfl, ?_⟩
    obtain ⟨r5, hr5, hr5c, hone5⟩ := one_ok (kind := 6) (to := 1 + x.p.c.workers + (k : Int)) P5.out.own.own.reads P5.is rfl rfl rfl rfl rfl
    subst hr5
    refine hone5.use fun u w144 ⟨hv, hg144⟩ => ?_
    subst hv
    refine ⟨_, _, _, _, _, _, _, _, _, _, _, _, _, _, _, _, rfl, fun w157 hg157 w158 hg158 => ⟨fun h => (by cases h), fun _ => ⟨fun h => (by cases h), fun _ => ?_⟩⟩⟩
    have hgk := hg144.trans (hg157.trans hg158)
    have S5 := S4.more hgk
    have hp5 := ((P5.out.own.each r5 (by simp)).at.grew hgk).p
    have hr5p : r5.c.pairs = dealI x.p.c.stores T k := by rw [hr5c]
    rw [hr5p] at hp5
    have dl := dealI_len x.p.c.stores T k
    have hl154 : r5.p.2.1 = (dealI x.p.c.stores T k).length := hp5.2.1
    refine (FKeys_ok hp5 (by simp only [maxLen]; omega) (by omega)).use fun u w159 ⟨a161, l161, c161, hv, ho161, hg159⟩ => ?_
    subst hv
    refine ⟨_, _, _, rfl, nb, ?_⟩
    have S6 := S5.more hg159
    have hkR := (S6.out.own.each xk (List.mem_of_getElem? hxk)).at.k
    rw [hkeys] at hkR
    refine (keys_okW hkR ho161.reads (by rw [List.length_map]; omega)).use fun u w163 ⟨hv, hg163⟩ => ?_
    subst hv
    have S7 := S6.more hg163
    have hp7 := (hp5.grew hg159).grew hg163
    have G2 : Grew w2 w163 := S7.base.pair.grew
    refine ⟨_, rfl, nb, fun h => (by simp at h), fun _ => ⟨fun i w' => ∃ j : Nat, i = j ∧ j ≤ (dealI x.p.c.stores T k).length ∧ Grew w163 w', fun i _ => (dealI x.p.c.stores T k).length - i.toNat, ⟨0, rfl, Nat.zero_le _, Grew.refl _⟩, ?_⟩⟩
    rintro n168 w169 ⟨j, rfl, hj, hg169⟩
    refine ⟨fun hltj w170 hg170 => ?_, fun _ => ?_⟩
    · simp only [decide_eq_true_eq] at hltj
      have hjn : j < r5.p.2.1 := Int.ofNat_lt.1 hltj
      have hwj : IntKind.i64.wrap ((j : Int) + 1) = ((j + 1 : Nat) : Int) := by rw [IntKind.wrap_i64]; omega
      have hgj := hg169.trans hg170
      obtain ⟨d, y, hd, hy, hyc⟩ := (hp7.grew hgj).at0 (k := j) hjn
      have hyT : y ∈ T := (List.mem_filter.1 (List.mem_of_getElem? hy)).1
      have hyk : y.key % x.p.c.stores = (k : Int) := by have := (List.mem_filter.1 (List.mem_of_getElem? hy)).2; simpa using this
      rw [hd]
      have bd : (0 : Int) ≤ (j : Int) ∧ (j : Int) < ((r5.p.2.1 : Nat) : Int) := ⟨by omega, hltj⟩
      refine ⟨bd, _, key_cell hyc, (PStoreOf_ok (x := x.p) (hx.plan.grew (hg2.trans (G2.trans hgj))) (tF y hyT).1).use fun u w173 ⟨hv, hg173⟩ => ?_⟩
      subst hv
      have hst : (if goodP x.p.c then storeP x.p.c y.key else -1) = 1 + x.p.c.workers + (k : Int) := by rw [if_pos hgd]; unfold storeP; rw [hyk]
      rw [hst]
      have vc := (val_cells hyc).grew hg173
      refine ⟨_, rfl, fun h => (by simp at h), fun _ => ⟨bd, _, _, vc, bd, _, _, vc, (Fit_ok (kind := x.p.c.agg) (v := y.val) ⟨(tF y hyT).2.1, (tF y hyT).2.2⟩).use fun u w183 ⟨hv, hg183⟩ => ?_⟩⟩
      rw [(tV y hyT).1] at hv
      subst hv
      have bb := hg183.block _ (World.block_lt_of_cell? w173 _ vc.1)
      simp only [add_block] at bb
      refine ⟨_, _, rfl, by simp only [SameB, add_block, and_true]; exact ⟨bb, bb⟩, _, val_neqW (x := y.val) (y := y.val) rfl, fun h => (by cases h), fun _ n189 h189 => ?_⟩
      rw [h189, hwj]
      exact ⟨⟨j + 1, rfl, by omega, hgj.trans (hg173.trans hg183)⟩, by show (dealI x.p.c.stores T k).length - (((j + 1 : Nat) : Int)).toNat < (dealI x.p.c.stores T k).length - ((j : Int)).toNat; omega⟩
    · have S8 := S7.more hg169
      have ul : (upTo x.p.c.stores T k).length ≤ T.length := List.length_filter_le _ _
      have uF : ∀ z ∈ upTo x.p.c.stores T k, z.Fits := fun z hz => tF z (List.mem_filter.1 hz).1
      have dF : ∀ z ∈ dealI x.p.c.stores T k, z.Fits := fun z hz => tF z (List.mem_filter.1 hz).1
      have uR : Rise (upTo x.p.c.stores T k) := rise_filter tR _
      have dR : Rise (dealI x.p.c.stores T k) := rise_filter tR _
      have uS : soundB (upTo x.p.c.stores T k) = true := by unfold soundB; rw [decide_eq_true_eq]; exact ⟨fun z hz => (tV z (List.mem_filter.1 hz).1).2, uR⟩
      have dS : soundB (dealI x.p.c.stores T k) = true := by unfold soundB; rw [decide_eq_true_eq]; exact ⟨fun z hz => (tV z (List.mem_filter.1 hz).1).2, dR⟩
      refine (Add_ok (kind := x.p.c.agg) S8.all uF (by simp only [maxLen]; omega) (hp7.grew hg169) dF (by simp only [maxLen]; omega) (by omega)).use fun u w190 ⟨a192, l192, c192, hv, ho192, hg190⟩ => ?_
      simp only [hG.agg, uS, dS, and_self, if_true] at hv ho192
      subst hv
      rw [add_same uR dR, part_merge tR (fun z hz => (tV z hz).1) k] at ho192
      refine ⟨_, _, _, _, rfl, fun h => (by cases h), fun _ n195 h195 => ?_⟩
      rw [h195, hw]
      have S9 := S8.more hg190
      exact ⟨⟨k + 1, Y5, rfl, by omega, by first | exact P5.p | exact P5.p.trans hY, S9.base, S9.out, S9.want, S9.wclr, ho192.reads, Clear.new S8.base.pair fun b hb => ho192.blk hb⟩, by show 4 - (((k + 1 : Nat) : Int)).toNat < 4 - ((k : Int)).toNat; omega⟩
  · simp only [decide_eq_false_iff_not] at hge
    have hkn : k = x.p.c.stores.toNat := by omega
    subst hkn
    have hall := S1.all
    rw [upTo_all (by omega)] at hall
    refine (pairs_okW hall S1.want (by omega)).use fun u w196 ⟨hv, hg196⟩ => ?_
    subst hv
    exact ⟨_, rfl, _, rfl, by simp, hg2.trans (S1.base.pair.grew.trans hg196)⟩
open Go.ChangeShapes Go.WideShapes Go.ChangeAt Go.RowKit
set_option maxRecDepth 100000 in
theorem workerTables_lifted (os : Os) (started : os.Started) (H : Type) (enc : TypeId × Value → H) :
    ReturnsInHanded {} Tryz.checked os 7 .any (Rows.workerTablesSpec.pre6 enc Tryz.prog Tryz.f7 Rows.workerTablesRow.domain false) (Rows.workerTablesSpec.post enc Tryz.prog Tryz.f7 false true false false) := by
  refine returnsInHanded_of_change_sized (C := Tryz.checked) (by kernel_rfl) started (by kernel_rfl) Tryz.func7
    (ChangeSpec.witness6 (enc := enc) (C := Tryz.checked) false ⟨#[], #[.agg #[.int .i64 0, .int .i64 0, .int .i64 0, .slice none 0 0, .int .i64 0, .int .i64 0, .int .i64 0, .int .i64 0, .slice none 0 0, .int .i64 0, .slice none 0 0], .slice none 0 0], []⟩ 8 (by kernel_rfl) (by kernel_rfl) (by kernel_rfl) (by kernel_rfl)) ?_
  intro W base args ds gs before hval0 hW hcnd hsz0 _
  have hval : ∀ (j : Nat) t v, Tryz.f7.params[j]? = some t → args[j]? = some v → Value.okWide Tryz.prog W .any base t v := hval0
  have hW' := hW
  obtain ⟨p, q, hA0, hV, rfl, hfz, hnd⟩ := hW
  have hA : DataW.TrodAll enc Tryz.prog W 0 (fun _ => true) true Tryz.f7.params.toList args.toList ds p := hA0
  have hsz : (DataW.weightsEach Tryz.prog (Tryz.f7.params.toList ++ _) (ds ++ gs)).all (· ≤ reachBytes) = true := hsz0
  rw [show Tryz.f7.params = #[64, 62] from by kernel_rfl] at hA hval hsz
  have hA1 := hA
  obtain ⟨v0, vs0, d0, ds0, p0, q0, hargs, rfl, rfl, h0, r0⟩ := trodAll_cons hA
  obtain ⟨v1, vs1, d1, ds1, p1, q1, rfl, rfl, rfl, h1, r1⟩ := trodAll_cons r0
  obtain ⟨rfl, rfl, rfl⟩ := trodAll_nil r1
  obtain rfl : args = #[v0, v1] := by cases args; simp_all
  obtain ⟨x0, rfl, hx0⟩ := openCase (j := 0) hsz rfl rfl (hval 0 64 v0 rfl rfl) h0
  obtain ⟨a1, n1, c1, l1, rfl, hr1, hcl1, hn1, hb1⟩ := open_sub (P := Tryz.prog) (t := 62) (e := 43) (arg_sub (e := 43) (j := 1) hsz rfl rfl (by kernel_rfl) (hval 1 62 v1 rfl rfl) h1) (by kernel_rfl) wrec_kinds (by kernel_rfl) (B := 16) (by kernel_rfl) (E := Enc.rcd) rfl wrec_of
  clear hA0 hA1 hval0 hsz0
  refine (CallsW.calls ⟨_, Tryz.func7, by kernel_rfl, by kernel_rfl⟩ (WorkerTables_ok hx0 hr1 hcl1 hn1 hb1)).mono fun e W' ⟨w', hh, hk, v, he, hv, hg⟩ => ?_
  subst he; subst hv
  exact ⟨_, rfl, post_true (tb := 4) (by kernel_rfl) rfl (by kernel_rfl) (by kernel_rfl) ⟨rfl, rfl, rfl⟩ (by decide +kernel) hW' (below_of hg hh hk)⟩

theorem workerTables_holds : Rows.WorkerTablesSaid :=
  OpenClaim.holds_of_wide 7 Tryz.f7 rfl rfl rfl rfl rfl rfl rfl ⟨rfl, rfl, rfl, rfl, rfl⟩ rfl rfl rfl rfl rfl (by kernel_rfl) Tryz.func7 (by kernel_rfl)
    (of_decide_eq_true (by kernel_rfl)) (by unfold Func.isWrapper; first | (rw [if_pos (by decide +kernel)]; kernel_rfl) | (rw [if_neg (by decide +kernel)]; exact ⟨rfl, rfl⟩))
    (fun os started H enc _ => workerTables_lifted os started H enc)
end Go.Proofs.YtcpkneemhfnanaaGreat
