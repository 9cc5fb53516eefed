/- BucketMemory: what it computes, and its row. Conditions: none. -/
import Derived.Test.YtnbknhcpjggabaaProg
import Derived.Test.YtnbknhcpjggabaaRef4
import Derived.Test.YtnbknhcpjggabaaKindsC
import Derived.Test.YtnbknhcpjggabaaSxT
import Derived.Test.YtnbknhcpjggabaaRows
namespace Go.Proofs.Ytnbknhcpjggabaa
open Go.Sx
set_option maxRecDepth 100000
set_option linter.unusedVariables false
set_option linter.unusedSimpArgs false
/- reprise/repriselaw11.BucketMemory -/
def sx8 (d : Option Addr) (d_n d_c : Nat) (i_0 : Int) (i_1 : Bool) (i_2 : Int) (i_3 : Bool) (i_4 : Int) (i_5 : Int) (R : Ending → World → Prop) (w : World) : Prop :=
  ∀ w1, Grew w w1 → CallsW Try.prog 9 [] w1 (RetR R fun u3 w2 => ∃ (b4 : Bool), u3 = .bool b4 ∧ (((!b4) = true → R (.returned (.bool false)) w2) ∧ ((!b4) = false → ∀ n6 : Int, n6 = IntKind.i64.wrap (((d_n : Nat) : Int) + 4)
    → SemW Try.prog (Instr.makeSlice 22 (.int .i64 0) (.int .i64 n6)) (fun u8 w7 => ∃ (a9 : Option Addr) (l9 c9 : Nat), u8 = .slice a9 l9 c9 ∧ SemW Try.prog (Builtin.append_ #[22, 22] 22 #[.slice a9 l9 c9, .slice d d_n
    d_c]) (fun u11 w10 => ∃ (a12 : Option Addr) (l12 c12 : Nat), u11 = .slice a12 l12 c12 ∧ CallsW Try.prog 21 [.int .u64 71, .int .u64 1] w10 (RetR R fun u14 w13 => ∃ (n15 : Int) (b16 : Bool) (n17 : Int) (b18 : Bool)
    (n19 : Int) (n20 : Int), u14 = .agg #[.int .u64 n15, .bool b16, .int .u64 n17, .bool b18, .int .u64 n19, .int .i64 n20] ∧ CallsW Try.prog 21 [.int .u64 72, .int .u64 2] w13 (RetR R fun u23 w22 => ∃ (n24 : Int) (b25 :
    Bool) (n26 : Int) (b27 : Bool) (n28 : Int) (n29 : Int), u23 = .agg #[.int .u64 n24, .bool b25, .int .u64 n26, .bool b27, .int .u64 n28, .int .i64 n29] ∧ CallsW Try.prog 21 [.int .u64 73, .int .u64 3] w22 (RetR R fun
    u32 w31 => ∃ (n33 : Int) (b34 : Bool) (n35 : Int) (b36 : Bool) (n37 : Int) (n38 : Int), u32 = .agg #[.int .u64 n33, .bool b34, .int .u64 n35, .bool b36, .int .u64 n37, .int .i64 n38] ∧ CallsW Try.prog 21 [.int .u64
    74, .int .u64 4] w31 (RetR R fun u41 w40 => ∃ (n42 : Int) (b43 : Bool) (n44 : Int) (b45 : Bool) (n46 : Int) (n47 : Int), u41 = .agg #[.int .u64 n42, .bool b43, .int .u64 n44, .bool b45, .int .u64 n46, .int .i64 n47] ∧
    ∀ (b49 : Nat) (w50 : World), Alloc w40 w50 b49 (.cells #[.int .u64 n15, .bool b16, .int .u64 n17, .bool b18, .int .u64 n19, .int .i64 n20, .int .u64 n24, .bool b25, .int .u64 n26, .bool b27, .int .u64 n28, .int .i64
    n29, .int .u64 n33, .bool b34, .int .u64 n35, .bool b36, .int .u64 n37, .int .i64 n38, .int .u64 n42, .bool b43, .int .u64 n44, .bool b45, .int .u64 n46, .int .i64 n47] 37) → SemW Try.prog (Builtin.append_ #[22, 22]
    22 #[.slice a12 l12 c12, .slice (some ⟨b49, 0, none⟩) 4 4]) (fun u52 w51 => ∃ (a53 : Option Addr) (l53 c53 : Nat), u52 = .slice a53 l53 c53 ∧ ∀ w54, Grew w51 w54 → (0 ≤ ((d_n : Nat) : Int) ∧ ((d_n : Nat) : Int) ≤ (c53
    : Nat)) ∧ CallsW Try.prog 17 [.slice a53 (((d_n : Nat) : Int).toNat) c53, .agg #[.int .u64 i_0, .bool i_1, .int .u64 i_2, .bool i_3, .int .u64 i_4, .int .i64 i_5]] w54 (Ret (fun u56 w55 => ∃ (a57 : Option Addr) (l57
    c57 : Nat) (n58 : Int), u56 = .tuple #[.slice a57 l57 c57, .int .i64 n58] ∧ SameB w54 w55 [] ∧ ∀ w60, Grew w55 w60 → (0 ≤ ((d_n : Nat) : Int) ∧ ((d_n : Nat) : Int) ≤ (c53 : Nat)) ∧ CallsW Try.prog 17 [.slice a53
    (((d_n : Nat) : Int).toNat) c53, .agg #[.int .u64 i_0, .bool i_1, .int .u64 i_2, .bool i_3, .int .u64 i_4, .int .i64 i_5]] w60 (Ret (fun u62 w61 => ∃ (a63 : Option Addr) (l63 c63 : Nat) (n64 : Int), u62 = .tuple
    #[.slice a63 l63 c63, .int .i64 n64] ∧ SameB w60 w61 [] ∧ ∀ w66, Grew w61 w66 → (0 ≤ ((d_n : Nat) : Int) ∧ ((d_n : Nat) : Int) ≤ (c53 : Nat)) ∧ CallsW Try.prog 19 [.slice a53 (((d_n : Nat) : Int).toNat) c53, .int .u64
    i_0] w66 (Ret (fun u68 w67 => ∃ (a69 : Option Addr) (l69 c69 : Nat) (n70 : Int), u68 = .tuple #[.slice a69 l69 c69, .int .i64 n70] ∧ SameB w66 w67 [] ∧ ∀ w72, Grew w67 w72 → (0 ≤ ((d_n : Nat) : Int) ∧ ((d_n : Nat) :
    Int) ≤ (c53 : Nat)) ∧ CallsW Try.prog 19 [.slice a53 (((d_n : Nat) : Int).toNat) c53, .int .u64 i_0] w72 (Ret (fun u74 w73 => ∃ (a75 : Option Addr) (l75 c75 : Nat) (n76 : Int), u74 = .tuple #[.slice a75 l75 c75, .int
    .i64 n76] ∧ SameB w72 w73 [] ∧ ∀ (b78 : Nat) (w79 : World), Alloc w73 w79 b78 (.cells #[] 37) → SemW Try.prog (Builtin.append_ #[22, 22] 22 #[.slice (some ⟨b78, 0, none⟩) 0 0, .slice a63 l63 c63]) (fun u81 w80 => ∃
    (a82 : Option Addr) (l82 c82 : Nat), u81 = .slice a82 l82 c82 ∧ ∀ (b83 : Nat) (w84 : World), Alloc w80 w84 b83 (.cells #[] 37) → SemW Try.prog (Builtin.append_ #[22, 22] 22 #[.slice (some ⟨b83, 0, none⟩) 0 0, .slice
    a75 l75 c75]) (fun u86 w85 => ∃ (a87 : Option Addr) (l87 c87 : Nat), u86 = .slice a87 l87 c87 ∧ ∃ (I88 : Int → World → Prop) (m88 : Int → World → Nat), I88 0 w85 ∧ ∀ (n89 : Int) (w90 : World), I88 n89 w90 → (((decide
    (n89 < ((l57 : Nat) : Int))) = true → CallsW Try.prog 21 [.int .u64 99, .int .u64 9] w90 (RetR R fun u92 w91 => ∃ (n93 : Int) (b94 : Bool) (n95 : Int) (b96 : Bool) (n97 : Int) (n98 : Int), u92 = .agg #[.int .u64 n93,
    .bool b94, .int .u64 n95, .bool b96, .int .u64 n97, .int .i64 n98] ∧ withSome a57 (fun d100 => (0 ≤ n89 ∧ n89 < (l57 : Nat)) ∧ RoomAt w91 (Addr.add d100 (n89.toNat * 6)) 0 [.int .u64 n93, .bool b94, .int .u64 n95,
    .bool b96, .int .u64 n97, .int .i64 n98] ∧ ∀ w101, w101 = setCells w91 (Addr.add d100 (n89.toNat * 6)) 0 [.int .u64 n93, .bool b94, .int .u64 n95, .bool b96, .int .u64 n97, .int .i64 n98] → (I88 (IntKind.i64.wrap (n89
    + 1)) w101 ∧ m88 (IntKind.i64.wrap (n89 + 1)) w101 < m88 n89 w90)))) ∧ ((decide (n89 < ((l57 : Nat) : Int))) = false → ∃ (I102 : Int → World → Prop) (m102 : Int → World → Nat), I102 0 w90 ∧ ∀ (n103 : Int) (w104 :
    World), I102 n103 w104 → (((decide (n103 < ((l69 : Nat) : Int))) = true → CallsW Try.prog 21 [.int .u64 98, .int .u64 8] w104 (RetR R fun u106 w105 => ∃ (n107 : Int) (b108 : Bool) (n109 : Int) (b110 : Bool) (n111 :
    Int) (n112 : Int), u106 = .agg #[.int .u64 n107, .bool b108, .int .u64 n109, .bool b110, .int .u64 n111, .int .i64 n112] ∧ withSome a69 (fun d114 => (0 ≤ n103 ∧ n103 < (l69 : Nat)) ∧ RoomAt w105 (Addr.add d114
    (n103.toNat * 6)) 0 [.int .u64 n107, .bool b108, .int .u64 n109, .bool b110, .int .u64 n111, .int .i64 n112] ∧ ∀ w115, w115 = setCells w105 (Addr.add d114 (n103.toNat * 6)) 0 [.int .u64 n107, .bool b108, .int .u64
    n109, .bool b110, .int .u64 n111, .int .i64 n112] → ∀ n116 : Int, n116 = IntKind.i64.wrap (n103 + 1) → (I102 n116 w115 ∧ m102 n116 w115 < m102 n103 w104)))) ∧ ((decide (n103 < ((l69 : Nat) : Int))) = false → ∃ (I117 :
    Option Addr → Nat → Nat → Option Addr → Nat → Nat → Int → World → Prop) (m117 : Option Addr → Nat → Nat → Option Addr → Nat → Nat → Int → World → Nat), I117 a57 l57 c57 a69 l69 c69 0 w104 ∧ ∀ (a118 : Option Addr)
    (l118 c118 : Nat) (a119 : Option Addr) (l119 c119 : Nat) (n120 : Int) (w121 : World), I117 a118 l118 c118 a119 l119 c119 n120 w121 → (((decide (n120 < 20)) = true → CallsW Try.prog 21 [.int .u64 97, .int .u64 7] w121
    (RetR R fun u123 w122 => ∃ (n124 : Int) (b125 : Bool) (n126 : Int) (b127 : Bool) (n128 : Int) (n129 : Int), u123 = .agg #[.int .u64 n124, .bool b125, .int .u64 n126, .bool b127, .int .u64 n128, .int .i64 n129] ∧ ∀
    (b131 : Nat) (w132 : World), Alloc w122 w132 b131 (.cells #[.int .u64 n124, .bool b125, .int .u64 n126, .bool b127, .int .u64 n128, .int .i64 n129] 37) → SemW Try.prog (Builtin.append_ #[22, 22] 22 #[.slice a118 l118
    c118, .slice (some ⟨b131, 0, none⟩) 1 1]) (fun u134 w133 => ∃ (a135 : Option Addr) (l135 c135 : Nat), u134 = .slice a135 l135 c135 ∧ CallsW Try.prog 21 [.int .u64 96, .int .u64 6] w133 (RetR R fun u137 w136 => ∃ (n138
    : Int) (b139 : Bool) (n140 : Int) (b141 : Bool) (n142 : Int) (n143 : Int), u137 = .agg #[.int .u64 n138, .bool b139, .int .u64 n140, .bool b141, .int .u64 n142, .int .i64 n143] ∧ ∀ (b145 : Nat) (w146 : World), Alloc
    w136 w146 b145 (.cells #[.int .u64 n138, .bool b139, .int .u64 n140, .bool b141, .int .u64 n142, .int .i64 n143] 37) → SemW Try.prog (Builtin.append_ #[22, 22] 22 #[.slice a119 l119 c119, .slice (some ⟨b145, 0, none⟩)
    1 1]) (fun u148 w147 => ∃ (a149 : Option Addr) (l149 c149 : Nat), u148 = .slice a149 l149 c149 ∧ ∀ n150 : Int, n150 = IntKind.i64.wrap (n120 + 1) → (I117 a135 l135 c135 a149 l149 c149 n150 w147 ∧ m117 a135 l135 c135
    a149 l149 c149 n150 w147 < m117 a118 l118 c118 a119 l119 c119 n120 w121)) w146)) w132)) ∧ ((decide (n120 < 20)) = false → ∀ w151, Grew w121 w151 → (((n58 != n64) = true → R (.returned (.bool false)) w151) ∧ ((n58 !=
    n64) = false → (((n70 != n76) = true → R (.returned (.bool false)) w151) ∧ ((n70 != n76) = false → CallsW Try.prog 14 [.slice a63 l63 c63, .slice a82 l82 c82] w151 (Ret (fun u153 w152 => ∃ (b154 : Bool), u153 = .bool
    b154 ∧ SameB w151 w152 [] ∧ (((!b154) = true → R (.returned (.bool false)) w152) ∧ ((!b154) = false → CallsW Try.prog 14 [.slice a75 l75 c75, .slice a87 l87 c87] w152 (Ret (fun u157 w156 => ∃ (b158 : Bool), u157 =
    .bool b158 ∧ SameB w152 w156 [] ∧ (((!b158) = true → R (.returned (.bool false)) w156) ∧ ((!b158) = false → (0 ≤ ((d_n : Nat) : Int) ∧ ((d_n : Nat) : Int) ≤ (c53 : Nat)) ∧ CallsW Try.prog 14 [.slice a53 (((d_n : Nat)
    : Int).toNat) c53, .slice d d_n d_c] w156 (Ret (fun u161 w160 => ∃ (b162 : Bool), u161 = .bool b162 ∧ SameB w156 w160 [] ∧ (((!b162) = true → R (.returned (.bool false)) w160) ∧ ((!b162) = false → (0 ≤ ((d_n : Nat) :
    Int) ∧ ((d_n : Nat) : Int) ≤ (l53 : Nat)) ∧ CallsW Try.prog 21 [.int .u64 71, .int .u64 1] w160 (Ret (fun u165 w164 => ∃ (n166 : Int) (b167 : Bool) (n168 : Int) (b169 : Bool) (n170 : Int) (n171 : Int), u165 = .agg
    #[.int .u64 n166, .bool b167, .int .u64 n168, .bool b169, .int .u64 n170, .int .i64 n171] ∧ SameB w160 w164 [] ∧ CallsW Try.prog 21 [.int .u64 72, .int .u64 2] w164 (Ret (fun u174 w173 => ∃ (n175 : Int) (b176 : Bool)
    (n177 : Int) (b178 : Bool) (n179 : Int) (n180 : Int), u174 = .agg #[.int .u64 n175, .bool b176, .int .u64 n177, .bool b178, .int .u64 n179, .int .i64 n180] ∧ SameB w164 w173 [] ∧ CallsW Try.prog 21 [.int .u64 73, .int
    .u64 3] w173 (Ret (fun u183 w182 => ∃ (n184 : Int) (b185 : Bool) (n186 : Int) (b187 : Bool) (n188 : Int) (n189 : Int), u183 = .agg #[.int .u64 n184, .bool b185, .int .u64 n186, .bool b187, .int .u64 n188, .int .i64
    n189] ∧ SameB w173 w182 [] ∧ CallsW Try.prog 21 [.int .u64 74, .int .u64 4] w182 (Ret (fun u192 w191 => ∃ (n193 : Int) (b194 : Bool) (n195 : Int) (b196 : Bool) (n197 : Int) (n198 : Int), u192 = .agg #[.int .u64 n193,
    .bool b194, .int .u64 n195, .bool b196, .int .u64 n197, .int .i64 n198] ∧ SameB w182 w191 [] ∧ ∀ (b200 : Nat) (w201 : World), Alloc w191 w201 b200 (.cells #[.int .u64 n166, .bool b167, .int .u64 n168, .bool b169, .int
    .u64 n170, .int .i64 n171, .int .u64 n175, .bool b176, .int .u64 n177, .bool b178, .int .u64 n179, .int .i64 n180, .int .u64 n184, .bool b185, .int .u64 n186, .bool b187, .int .u64 n188, .int .i64 n189, .int .u64
    n193, .bool b194, .int .u64 n195, .bool b196, .int .u64 n197, .int .i64 n198] 37) → SameB w191 w201 [] ∧ CallsW Try.prog 14 [.slice (if c53 = ((d_n : Nat) : Int).toNat then a53 else Option.map (fun x => Addr.add x
    (((d_n : Nat) : Int).toNat * 6)) a53) (l53 - ((d_n : Nat) : Int).toNat) (c53 - ((d_n : Nat) : Int).toNat), .slice (some ⟨b200, 0, none⟩) 4 4] w201 (Ret (fun u203 w202 => ∃ (b204 : Bool), u203 = .bool b204 ∧ SameB w201
    w202 [] ∧ (((!b204) = true → R (.returned (.bool false)) w202) ∧ ((!b204) = false → ∀ n206 : Int, n206 = IntKind.i64.wrap (((l63 : Nat) : Int) + 20) → (((((l118 : Nat) : Int) != n206) = true → R (.returned (.bool
    false)) w202) ∧ ((((l118 : Nat) : Int) != n206) = false → ∀ n207 : Int, n207 = IntKind.i64.wrap (((l75 : Nat) : Int) + 20) → (((((l119 : Nat) : Int) != n207) = true → R (.returned (.bool false)) w202) ∧ ((((l119 :
    Nat) : Int) != n207) = false → (0 ≤ ((d_n : Nat) : Int) ∧ ((d_n : Nat) : Int) ≤ (c53 : Nat)) ∧ CallsW Try.prog 10 [.slice a53 (((d_n : Nat) : Int).toNat) c53] w202 (RetR R fun u209 w208 => ∃ (a210 : Option Addr) (l210
    c210 : Nat) (n211 : Int), u209 = .tuple #[.slice a210 l210 c210, .int .i64 n211] ∧ (((n211 != 0) = true → R (.returned (.bool true)) w208) ∧ ((n211 != 0) = false → ∀ (b213 : Nat) (w214 : World), Alloc w208 w214 b213
    (.cells #[] 5) → SemW Try.prog (Builtin.append_ #[24, 24] 24 #[.slice (some ⟨b213, 0, none⟩) 0 0, .slice a210 l210 c210]) (fun u216 w215 => ∃ (a217 : Option Addr) (l217 c217 : Nat), u216 = .slice a217 l217 c217 ∧
    CallsW Try.prog 12 [.slice a217 l217 c217] w215 (RetR R fun u219 w218 => ∃ (a220 : Option Addr) (l220 c220 : Nat) (n221 : Int), u219 = .tuple #[.slice a220 l220 c220, .int .i64 n221] ∧ ∃ (I223 : Int → World → Prop)
    (m223 : Int → World → Nat), I223 0 w218 ∧ ∀ (n224 : Int) (w225 : World), I223 n224 w225 → (((decide (n224 < ((l217 : Nat) : Int))) = true → withSome a217 (fun d226 => (0 ≤ n224 ∧ n224 < (l217 : Nat)) ∧ RoomAt w225
    (Addr.add d226 (n224.toNat * 1)) 0 [.int .u8 85] ∧ ∀ w227, w227 = setCells w225 (Addr.add d226 (n224.toNat * 1)) 0 [.int .u8 85] → ∀ n228 : Int, n228 = IntKind.i64.wrap (n224 + 1) → (I223 n228 w227 ∧ m223 n228 w227 <
    m223 n224 w225))) ∧ ((decide (n224 < ((l217 : Nat) : Int))) = false → (0 ≤ ((d_n : Nat) : Int) ∧ ((d_n : Nat) : Int) ≤ (c53 : Nat)) ∧ CallsW Try.prog 10 [.slice a53 (((d_n : Nat) : Int).toNat) c53] w225 (RetR R fun
    u230 w229 => ∃ (a231 : Option Addr) (l231 c231 : Nat) (n232 : Int), u230 = .tuple #[.slice a231 l231 c231, .int .i64 n232] ∧ (((n221 == 0) = true → CallsW Try.prog 14 [.slice a220 l220 c220, .slice d d_n d_c] w229
    (RetR R fun u235 w234 => ∃ (b236 : Bool), u235 = .bool b236 ∧ ((b236 = true → SemW Try.prog (convert 24 9 (.slice a231 l231 c231)) (fun u239 w238 => ∃ (s240 : ByteArray), u239 = .string s240 ∧ SemW Try.prog (convert
    24 9 (.slice a210 l210 c210)) (fun u242 w241 => ∃ (s243 : ByteArray), u242 = .string s243 ∧ ∃ (b244 : Bool), PureTo Try.prog (eqS .eql 9 (.tmp 213) (.tmp 215) (.string s240) (.string s243)) (.bool b244) ∧ R (.returned
    (.bool b244)) w241) w238) w234) ∧ (b236 = false → R (.returned (.bool false)) w234)))) ∧ ((n221 == 0) = false → R (.returned (.bool false)) w229))))))) w214)))))))))) (fun c205 w202 => False))) (fun c199 w191 =>
    False))) (fun c190 w182 => False))) (fun c181 w173 => False))) (fun c172 w164 => False))))) (fun c163 w160 => False))))) (fun c159 w156 => False))))) (fun c155 w152 => False))))))))))))) w84) w79) (fun c77 w73 =>
    False))) (fun c71 w67 => False))) (fun c65 w61 => False))) (fun c59 w55 => False))) w50))))) w7) w2)))
theorem sx8.ok {d : Option Addr} {d_n d_c : Nat} {i_0 : Int} {i_1 : Bool} {i_2 : Int} {i_3 : Bool} {i_4 : Int} {i_5 : Int} {R : Ending → World → Prop} {w : World} (h : sx8 d d_n d_c i_0 i_1 i_2 i_3 i_4 i_5 R w) : CallsW Try.prog 8 [.slice d d_n d_c, .agg #[.int .u64 i_0, .bool i_1, .int .u64 i_2, .bool i_3, .int .u64 i_4, .int .i64 i_5]] w R :=
  callsW_of mix Try.func8 (by kernel_rfl) (by kernel_rfl) (Eq.mpr (by kernel_rfl : denFn Try.prog { locals := [3], pureTo := [216], sem := [32, 35, 42, 79, 82, 110, 114, 182, 213, 215], named := [31, 98, 106, 160, 168, 193], draws := [(7, { order := (.cons 0 (.cons 1 (.cons 2 (.cons 3 (.cons 4 (.cons 5 (.cons 6 (.cons 7 (.cons 8 (.cons 9 .nil)))))))))), bars := [] }), (8, { order := (.cons 0 (.cons 1 (.cons 2 (.cons 3 (.cons 4 (.cons 5 (.cons 6 (.cons 7 (.cons 8 (.cons 9 .nil)))))))))), bars := [] }), (9, { order := (.cons 0 (.cons 1 (.cons 2 (.cons 3 (.cons 4 (.cons 5 (.cons 6 (.cons 7 (.cons 8 (.cons 9 (.cons 10 .nil))))))))))), bars := [] }), (10, { order := (.cons 0 (.cons 1 (.cons 2 (.cons 3 (.cons 4 (.cons 5 (.cons 6 (.cons 7 (.cons 8 (.cons 9 (.cons 10 .nil))))))))))), bars := [] }), (26, { order := (.cons 0 (.cons 1 (.cons 2 (.cons 3 (.cons 4 (.cons 5 (.cons 6 (.cons 7 (.cons 8 (.cons 9 (.cons 10 (.cons 11 (.cons 12 (.cons 13 (.cons 14 (.cons 15 (.cons 16 (.cons 17 (.cons 18 (.cons 19 (.cons 20 (.cons 21 (.cons 22 (.cons 23 (.cons 24 (.cons 25 (.cons 26 (.cons 27 (.cons 28 (.cons 29 (.cons 30 (.cons 31 (.cons 32 (.cons 33 (.cons 34 (.cons 35 (.cons 36 (.cons 37 (.cons 38 (.cons 39 (.cons 40 (.cons 41 (.cons 42 (.cons 43 (.cons 44 (.cons 45 (.cons 46 (.cons 47 (.cons 48 (.cons 49 (.cons 50 (.cons 51 (.cons 52 (.cons 53 (.cons 54 (.cons 55 .nil)))))))))))))))))))))))))))))))))))))))))))))))))))))))), bars := [] })], loops := [(14, { slots := [(17, .int .i64)], cells := [] }), (18, { slots := [(18, .int .i64)], cells := [] }), (22, { slots := [(7, .slice), (11, .slice), (19, .int .i64)], cells := [] }), (34, { slots := [(23, .int .i64)], cells := [] })] } Try.f8 [.slice d d_n d_c, .agg #[.int .u64 i_0, .bool i_1, .int .u64 i_2, .bool i_3, .int .u64 i_4, .int .i64 i_5]] R w = sx8 d d_n d_c i_0 i_1 i_2 i_3 i_4 i_5 R w) h)


theorem laid_use {k b : Int} {w : World} {R : Ending → World → Prop} {q : Value → World → Prop} (h : ∀ w', Grew w w' → q (.agg (lay k b).vals.toArray) w') : CallsW Try.prog 21 [.int .u64 k, .int .u64 b] w (RetR R q) :=
  laid_ok.use fun v w' ⟨hv, hg⟩ => by subst hv; exact h w' hg
theorem laid_use' {k b : Int} {w : World} {q : Value → World → Prop} (h : ∀ w', Grew w w' → q (.agg (lay k b).vals.toArray) w') : CallsW Try.prog 21 [.int .u64 k, .int .u64 b] w (Ret q fun _ _ => False) :=
  laid_ok.use' fun v w' ⟨hv, hg⟩ => by subst hv; exact h w' hg
theorem sameB_nil {w w' : World} : SameB w w' [] := by simp [SameB]
theorem rests (l : List CellV) (r : List CellV) : (l ++ r).take l.length = l ∧ (l ++ r).drop l.length = r := ⟨List.take_left, List.drop_left⟩

set_option maxHeartbeats 2000000 in
theorem BucketMemory_ok {a : Option Addr} {n c : Nat} {l : List CellV} {x : CellV} {w : World} (hr : Reads w Enc.cell (a, n, c) l) (hf : Cells l) (hl : l.length * 48 ≤ 140737488351232) (hx : x.Fits) :
    CallsW Try.prog 8 [.slice a n c, .agg (Enc.cell.f x).toArray] w (Rets fun v w' => v = .bool true ∧ Grew w w') := by
  refine sx8.ok ?_
  unfold sx8
  intro w1 hg1
  refine awake_ok.use fun v w2 ⟨hv, hg2⟩ => ?_
  subst hv
  have hg2 := hg1.trans hg2
  have hn : n = l.length := hr.2.1
  subst hn
  refine ⟨_, rfl, fun h => (by cases h), fun _ => ?_⟩
  rintro n6 rfl
  have hw4 : IntKind.i64.wrap ((l.length : Int) + 4) = ((l.length + 4 : Nat) : Int) := by rw [IntKind.wrap_i64]; omega
  rw [hw4]
  refine make_room (E := Enc.cell) (by kernel_rfl) ez (by omega) (by simp only [maxLen]; omega) ?_
  intro b9 w7 ho7 hg7
  refine ⟨_, _, _, rfl, ?_⟩
  have hr7 := (hr.grew hg2).grew hg7
  refine append_sl ec ho7 hr7.1 hr7.2.1 hr7.2.2.1 hg7.size (by simp only [maxLen, List.length_nil]; omega) (by simp; omega) ?_
  rintro v w10 ⟨a12, l12, c12, rfl, ho10, hu10, hb10⟩
  have hg10 : Grew w2 w10 := hg7.then_own hu10 fun b hb => (ho7.blk hb).1
  rw [List.nil_append] at ho10
  refine ⟨_, _, _, rfl, laid_use fun w13 hg13 => ⟨_, _, _, _, _, _, rfl, laid_use fun w22 hg22 => ⟨_, _, _, _, _, _, rfl, laid_use fun w31 hg31 => ⟨_, _, _, _, _, _, rfl, laid_use fun w40 hg40 => ⟨_, _, _, _, _, _, rfl, ?_⟩⟩⟩⟩⟩
  have hg40 := ((hg13.trans hg22).trans hg31).trans hg40
  intro b49 w50 hal
  refine append_new (l2 := [lay 71 1, lay 72 2, lay 73 3, lay 74 4]) ec (ho10.grew hg40) hal (by simp [Enc.cell, CellV.vals, lay]) rfl (Nat.le_trans hg10.size hg40.size) (by simp only [maxLen, List.length_cons, List.length_nil]; omega) (by simp; omega) ?_
  rintro v w51 ⟨a53, l53, c53, rfl, ho51, hu51, hb51⟩
  have hg51 : Grew w2 w51 := (hg10.trans hg40).then_own hu51 fun b hb => (ho10.blk hb).1
  refine ⟨_, _, _, rfl, fun w54 hg54 => ?_⟩
  have hg54 := hg51.trans hg54
  have ho54 := ho51.grew (show Grew w51 w54 by assumption)
  have hlen53 := ho54.len
  have hle53 := ho54.le
  simp only [List.length_append, List.length_cons, List.length_nil] at hlen53
  have hsplit := rests l [lay 71 1, lay 72 2, lay 73 3, lay 74 4]
  have hmine : Own w54 w2.heap.size 37 Enc.cell a53 l.length c53 l := by
    have := ho54.take (k := l.length) (by omega)
    rwa [hsplit.1] at this
  simp only [Int.toNat_natCast]
  refine ⟨by omega, (Put_cells_ok (x := x) hmine.reads (by omega)).use' fun v w55 ⟨a57, l57, c57, hv, ho55, hg55⟩ => ?_⟩
  subst hv
  refine ⟨_, _, _, _, rfl, sameB_nil, fun w60 hg60 => ?_⟩
  have hg60' := hg55.trans hg60
  refine ⟨by omega, (Put_cells_ok (x := x) (hmine.grew hg60').reads (by omega)).use' fun v w61 ⟨a63, l63, c63, hv, ho61, hg61⟩ => ?_⟩
  subst hv
  refine ⟨_, _, _, _, rfl, sameB_nil, fun w66 hg66 => ?_⟩
  have hg66' := hg61.trans hg66
  refine ⟨by omega, (Drop_ok ((hmine.grew hg60').grew hg66').reads (by omega)).use' fun v w67 ⟨a69, l69, c69, hv, ho67, hg67⟩ => ?_⟩
  subst hv
  refine ⟨_, _, _, _, rfl, sameB_nil, fun w72 hg72 => ?_⟩
  have hg72' := hg67.trans hg72
  refine ⟨by omega, (Drop_ok (((hmine.grew hg60').grew hg66').grew hg72').reads (by omega)).use' fun v w73 ⟨a75, l75, c75, hv, ho73, hg73⟩ => ?_⟩
  subst hv
  refine ⟨_, _, _, _, rfl, sameB_nil, fun b78 w79 hal79 => ?_⟩
  obtain ⟨P, hP⟩ : ∃ P, P = (putC l x).1 := ⟨_, rfl⟩
  obtain ⟨D, hD⟩ : ∃ D, D = (dropC l x.key).1 := ⟨_, rfl⟩
  rw [← hP] at ho55 ho61
  rw [← hD] at ho67 ho73
  have hPl : P.length ≤ l.length + 1 := by
    rw [hP]; unfold putC
    split
    · simp
    · split
      · simp
      · split
        · simp
        · simp; omega
  have hDl : D.length ≤ l.length := by
    rw [hD]; unfold dropC
    split
    · simp
    · exact List.length_filter_le _ _
  have hP16 : (P.length + 20) * 48 ≤ 140737488355328 := by omega
  have hD16 : (D.length + 20) * 48 ≤ 140737488355328 := by omega
  have hg73s := hg73.size
  have hg79 := hal79.grew
  have ho79 := Own.alloc (E := Enc.cell) (l := []) hal79 (Nat.le_refl _) rfl (by decide)
  have hq73 := ho61.grew (hg66.trans (hg72'.trans hg73))
  have hr79 := (hq73.grew hg79).reads
  refine append_sl ec ho79 hr79.1 hr79.2.1 hr79.2.2.1 hg79.size (by simp only [maxLen, List.length_nil]; omega) (by simp only [List.length_nil]; omega) ?_
  rintro v w80 ⟨a82, l82, c82, rfl, ho80, hu80, -⟩
  have hg80 : Grew w73 w80 := hg79.then_own hu80 fun b hb => (ho79.blk hb).1
  rw [List.nil_append] at ho80
  refine ⟨_, _, _, rfl, fun b83 w84 hal84 => ?_⟩
  have ho84 := Own.alloc (E := Enc.cell) (l := []) hal84 (Nat.le_refl _) rfl (by decide)
  have hh80 := ho73.grew hg80
  have hr84 := (hh80.grew hal84.grew).reads
  refine append_sl ec ho84 hr84.1 hr84.2.1 hr84.2.2.1 hal84.grew.size (by simp only [maxLen, List.length_nil]; omega) (by simp only [List.length_nil]; omega) ?_
  rintro v w85 ⟨a87, l87, c87, rfl, ho85, hu85, -⟩
  have hg85 : Grew w80 w85 := hal84.grew.then_own hu85 fun b hb => (ho84.blk hb).1
  rw [List.nil_append] at ho85
  refine ⟨_, _, _, rfl, ?_⟩
  -- all that stands before the answers are written over
  have g85 : Grew w73 w85 := hg80.trans hg85
  have hp85 : Own w85 w54.heap.size 37 Enc.cell a57 l57 c57 P := ho55.grew (hg60.trans (hg66'.trans (hg72'.trans (hg73.trans g85))))
  have hd85 : Own w85 w66.heap.size 37 Enc.cell a69 l69 c69 D := ho67.grew (hg72.trans (hg73.trans g85))
  have hq85 := hq73.grew g85
  have hh85 := ho73.grew g85
  have hw85 : Own w85 w73.heap.size 37 Enc.cell a82 l82 c82 P := ho80.grew hg85
  have hx85 : Own w85 w80.heap.size 37 Enc.cell a87 l87 c87 D := ho85
  have hm85 : Grew w54 w85 := hg60'.trans (hg66'.trans (hg72'.trans (hg73.trans g85)))
  have s1 := hg55.size; have s2 := hg60.size; have s3 := hg61.size; have s4 := hg66.size; have s5 := hg67.size; have s6 := hg72.size; have s7 := hg73.size; have s8 := hg80.size; have s9 := hg85.size
  have pb : ∀ b, Blk a57 b → w54.heap.size ≤ b ∧ b < w60.heap.size := fun b hb => ⟨(ho55.blk hb).1, by have := (ho55.blk hb).2; omega⟩
  have qb : ∀ b, Blk a63 b → w60.heap.size ≤ b ∧ b < w66.heap.size := fun b hb => ⟨(ho61.blk hb).1, by have := (ho61.blk hb).2; omega⟩
  have db : ∀ b, Blk a69 b → w66.heap.size ≤ b ∧ b < w72.heap.size := fun b hb => ⟨(ho67.blk hb).1, by have := (ho67.blk hb).2; omega⟩
  have hb' : ∀ b, Blk a75 b → w72.heap.size ≤ b ∧ b < w85.heap.size := fun b hb => ⟨(ho73.blk hb).1, by have := (ho73.blk hb).2; omega⟩
  have wb : ∀ b, Blk a82 b → w73.heap.size ≤ b ∧ b < w85.heap.size := fun b hb => ⟨(hw85.blk hb).1, (hw85.blk hb).2⟩
  have xb : ∀ b, Blk a87 b → w80.heap.size ≤ b ∧ b < w85.heap.size := fun b hb => ⟨(hx85.blk hb).1, (hx85.blk hb).2⟩
  have hPn := hp85.len
  have hDn := hd85.len
  -- p is written over
  refine ⟨fun i w' => ∃ (k : Nat) (p : List CellV), i = k ∧ k ≤ l57 ∧ p.length = P.length ∧ Own w' w54.heap.size 37 Enc.cell a57 l57 c57 p ∧ Upd (Blk a57) w85 w', fun i _ => l57 - i.toNat, ⟨0, P, rfl, Nat.zero_le _, rfl, hp85, Upd.refl _ _⟩, ?_⟩
  rintro i w90 ⟨k, p, rfl, hk, hpl, hp90, hu90⟩
  refine ⟨fun hlt => ?_, fun hge => ?_⟩
  · simp only [decide_eq_true_eq] at hlt
    refine laid_use fun w91 hg91 => ⟨_, _, _, _, _, _, rfl, ?_⟩
    obtain ⟨d, rfl, hroom, hset, hu⟩ := (hp90.grew hg91).set (i := k) (by omega) (lay 99 9)
    have hw : IntKind.i64.wrap ((k : Int) + 1) = ((k + 1 : Nat) : Int) := by rw [IntKind.wrap_i64]; omega
    rw [hw]
    refine ⟨by omega, by simpa [CellV.vals, Enc.cell] using hroom, ?_⟩
    rintro w101 rfl
    refine ⟨⟨k + 1, _, rfl, by omega, ?_, by simpa [CellV.vals, Enc.cell] using hset, by simpa [CellV.vals, Enc.cell] using (hu90.then_grew hg91).trans hu⟩, by show l57 - (((k + 1 : Nat) : Int)).toNat < l57 - ((k : Int)).toNat; omega⟩
    rw [List.length_set]; exact hpl
  clear hge hk k
  -- d is written over
  refine ⟨fun i w' => ∃ (k : Nat) (dl : List CellV), i = k ∧ k ≤ l69 ∧ dl.length = D.length ∧ Own w' w66.heap.size 37 Enc.cell a69 l69 c69 dl ∧ Upd (Blk a69) w90 w', fun i _ => l69 - i.toNat, ⟨0, D, rfl, Nat.zero_le _, rfl, hd85.upd hu90 (fun b hb h => by have := pb b h; have := db b hb; omega), Upd.refl _ _⟩, ?_⟩
  rintro i w104 ⟨k, dl, rfl, hk, hdl, hd104, hu104⟩
  refine ⟨fun hlt => ?_, fun hge => ?_⟩
  · simp only [decide_eq_true_eq] at hlt
    refine laid_use fun w105 hg105 => ⟨_, _, _, _, _, _, rfl, ?_⟩
    obtain ⟨d, rfl, hroom, hset, hu⟩ := (hd104.grew hg105).set (i := k) (by omega) (lay 98 8)
    have hw : IntKind.i64.wrap ((k : Int) + 1) = ((k + 1 : Nat) : Int) := by rw [IntKind.wrap_i64]; omega
    rw [hw]
    refine ⟨by omega, by simpa [CellV.vals, Enc.cell] using hroom, ?_⟩
    rintro w115 rfl
    rintro n116 rfl
    refine ⟨⟨k + 1, _, rfl, by omega, ?_, by simpa [CellV.vals, Enc.cell] using hset, by simpa [CellV.vals, Enc.cell] using (hu104.then_grew hg105).trans hu⟩, by show l69 - (((k + 1 : Nat) : Int)).toNat < l69 - ((k : Int)).toNat; omega⟩
    rw [List.length_set]; exact hdl
  clear hge hk k
  -- both are grown
  have hu104' : Upd (fun b => Blk a57 b ∨ Blk a69 b) w85 w104 := (hu90.mono fun b _ h => .inl h).then hu104 fun b _ h => .inr h
  have hp104 := hp90.upd hu104 (fun b hb h => by have := pb b hb; have := db b h; omega)
  refine ⟨fun a1 n1 c1 a2 n2 c2 i w' => ∃ (k : Nat) (p d : List CellV), i = k ∧ k ≤ 20 ∧ p.length = P.length + k ∧ d.length = D.length + k ∧ Own w' w54.heap.size 37 Enc.cell a1 n1 c1 p ∧ Own w' w54.heap.size 37 Enc.cell a2 n2 c2 d ∧
      (∀ b, Blk a1 b → Blk a57 b ∨ w85.heap.size ≤ b) ∧ (∀ b, Blk a2 b → Blk a69 b ∨ w85.heap.size ≤ b) ∧ (∀ b, Blk a1 b → ¬ Blk a2 b) ∧ Upd (fun b => Blk a57 b ∨ Blk a69 b) w85 w', fun _ _ _ _ _ _ i _ => 20 - i.toNat,
    ⟨0, p, dl, rfl, by decide, hpl, hdl, hp104, hd104.base (by omega), fun b h => .inl h, fun b h => .inl h, fun b h h' => (by have := pb b h; have := db b h'; omega), hu104'⟩, ?_⟩
  rintro a1 n1 c1 a2 n2 c2 i w121 ⟨k, p, d, rfl, hk, hpl, hdl, hp, hd, hbp, hbd, hpd, hu121⟩
  refine ⟨fun hlt => ?_, fun hge => ?_⟩
  · simp only [decide_eq_true_eq] at hlt
    refine laid_use fun w122 hg122 => ⟨_, _, _, _, _, _, rfl, fun b131 w132 hal132 => ?_⟩
    have hsz : w54.heap.size ≤ w122.heap.size := by have := hu121.size; have := hg122.size; omega
    refine append_new (l2 := [lay 97 7]) ec (hp.grew hg122) hal132 (by simp [Enc.cell, CellV.vals, lay]) rfl hsz (by simp only [maxLen, List.length_cons, List.length_nil]; omega) (by simp only [List.length_cons, List.length_nil]; omega) ?_
    rintro v w133 ⟨a135, l135, c135, rfl, ho133, hu133, hb133⟩
    refine ⟨_, _, _, rfl, laid_use fun w136 hg136 => ⟨_, _, _, _, _, _, rfl, fun b145 w146 hal146 => ?_⟩⟩
    have hd122 := hd.grew hg122
    have hd133 := hd122.upd hu133 (fun b h h' => hpd b h' h)
    have hsz2 : w54.heap.size ≤ w136.heap.size := by have := hu133.size; have := hg136.size; omega
    refine append_new (l2 := [lay 96 6]) ec (hd133.grew hg136) hal146 (by simp [Enc.cell, CellV.vals, lay]) rfl hsz2 (by simp only [maxLen, List.length_cons, List.length_nil]; omega) (by simp only [List.length_cons, List.length_nil]; omega) ?_
    rintro v w147 ⟨a149, l149, c149, rfl, ho147, hu147, hb147⟩
    refine ⟨_, _, _, rfl, ?_⟩
    rintro n150 rfl
    have hw : IntKind.i64.wrap ((k : Int) + 1) = ((k + 1 : Nat) : Int) := by rw [IntKind.wrap_i64]; omega
    rw [hw]
    have z1 := hu121.size; have z2 := hg122.size; have z3 := hu133.size; have z4 := hg136.size
    have hd1 : ∀ b, Blk a135 b → ¬ Blk a2 b := fun b hb h => by
      rcases hb133 b hb with h' | h'
      · exact hpd b h' h
      · have := (hd122.blk h).2; omega
    refine ⟨⟨k + 1, _, _, rfl, by omega, by simp; omega, by simp; omega, (ho133.grew hg136).upd hu147 (fun b hb h => hd1 b hb h), ho147, ?_, ?_, ?_, ?_⟩, by show 20 - (((k + 1 : Nat) : Int)).toNat < 20 - ((k : Int)).toNat; omega⟩
    · intro b hb
      rcases hb133 b hb with h' | h'
      · exact hbp b h'
      · exact .inr (by omega)
    · intro b hb
      rcases hb147 b hb with h' | h'
      · exact hbd b h'
      · exact .inr (by omega)
    · intro b hb h
      rcases hb147 b h with h' | h'
      · exact hd1 b hb h'
      · have := (ho133.blk hb).2; omega
    · refine (((hu121.then_grew hg122).then hu133 ?_).then_grew hg136).then hu147 ?_
      · intro b hb h
        rcases hbp b h with h' | h'
        · exact .inl h'
        · omega
      · intro b hb h
        rcases hbd b h with h' | h'
        · exact .inr h'
        · omega
  simp only [decide_eq_false_iff_not] at hge
  have hk20 : k = 20 := by omega
  subst hk20
  intro w151 hg151
  have hu151 := hu121.then_grew hg151
  have z1 := hu151.size
  have hm151 : Grew w54 w151 := hm85.then_own hu151 fun b hb => by rcases hb with h | h; exact (pb b h).1; have := (db b h).1; omega
  have hq := hq85.upd hu151 (fun b hb h => by have h1 := qb b hb; rcases h with h | h; (have h2 := pb b h; omega); (have h2 := db b h; omega))
  have hh := hh85.upd hu151 (fun b hb h => by have h1 := hb' b hb; rcases h with h | h; (have h2 := pb b h; omega); (have h2 := db b h; omega))
  have hwant := hw85.upd hu151 (fun b hb h => by have h1 := wb b hb; rcases h with h | h; (have h2 := pb b h; omega); (have h2 := db b h; omega))
  have hrest := hx85.upd hu151 (fun b hb h => by have h1 := xb b hb; rcases h with h | h; (have h2 := pb b h; omega); (have h2 := db b h; omega))
  refine ⟨fun h => (by simp at h), fun _ => ⟨fun h => (by simp at h), fun _ => ?_⟩⟩
  have hPlen : P.length ≤ 9223372036854775807 := by omega
  refine (same_ok hq.reads hwant.reads hPlen).use' fun v w152 ⟨hv, hg152⟩ => ?_
  subst hv
  refine ⟨_, rfl, sameB_nil, fun h => (by simp at h), fun _ => ?_⟩
  refine (same_ok (hh.grew hg152).reads (hrest.grew hg152).reads (by omega)).use' fun v w156 ⟨hv, hg156⟩ => ?_
  subst hv
  refine ⟨_, rfl, sameB_nil, fun h => (by simp at h), fun _ => ⟨by omega, ?_⟩⟩
  have hm156 := (hm151.trans hg152).trans hg156
  have ha54 : Grew w w54 := hg2.trans hg54
  refine (same_ok (hmine.grew hm156).reads (hr.grew (ha54.trans hm156)) (by omega)).use' fun v w160 ⟨hv, hg160⟩ => ?_
  subst hv
  have hm160 := hm156.trans hg160
  refine ⟨_, rfl, sameB_nil, fun h => (by simp at h), fun _ => ⟨by omega, ?_⟩⟩
  refine laid_use' fun w164 hg164 => ⟨_, _, _, _, _, _, rfl, sameB_nil, laid_use' fun w173 hg173 => ⟨_, _, _, _, _, _, rfl, sameB_nil, laid_use' fun w182 hg182 => ⟨_, _, _, _, _, _, rfl, sameB_nil, laid_use' fun w191 hg191 => ⟨_, _, _, _, _, _, rfl, sameB_nil, fun b200 w201 hal201 => ⟨sameB_nil, ?_⟩⟩⟩⟩⟩
  have hm191 := hm160.trans (hg164.trans (hg173.trans (hg182.trans hg191)))
  have hm201 := hm191.trans hal201.grew
  have htail := (ho54.grew hm201).reads.from (i := l.length) (by omega)
  rw [hsplit.2] at htail
  have hfour := (Own.alloc (E := Enc.cell) (l := [lay 71 1, lay 72 2, lay 73 3, lay 74 4]) hal201 (Nat.le_refl _) (by simp [Enc.cell, CellV.vals, lay]) (by simp [maxLen])).reads
  refine (same_ok htail hfour (by decide)).use' fun v w202 ⟨hv, hg202⟩ => ?_
  subst hv
  have hm202 := hm201.trans hg202
  refine ⟨_, rfl, sameB_nil, fun h => (by simp at h), fun _ => ?_⟩
  rintro n206 rfl
  have hqn := hq.len
  have hhn := hh.len
  have hpn := hp.len
  have hdn := hd.len
  have e1 : IntKind.i64.wrap ((l63 : Int) + 20) = ((l63 + 20 : Nat) : Int) := by rw [IntKind.wrap_i64]; omega
  have e2 : IntKind.i64.wrap ((l75 : Int) + 20) = ((l75 + 20 : Nat) : Int) := by rw [IntKind.wrap_i64]; omega
  rw [e1]
  refine ⟨fun h => (by simp only [bne_iff_ne, ne_eq] at h; omega), fun _ => ?_⟩
  rintro n207 rfl
  rw [e2]
  refine ⟨fun h => (by simp only [bne_iff_ne, ne_eq] at h; omega), fun _ => ⟨by omega, ?_⟩⟩
  refine (Encode_ok (hmine.grew hm202).reads hf (by omega)).use fun v w208 ⟨a210, l210, c210, hv, ho208, hg208⟩ => ?_
  subst hv
  refine ⟨_, _, _, _, rfl, fun _ => ⟨_, rfl, rfl, ha54.trans (hm202.trans hg208)⟩, fun he b213 w214 hal214 => ?_⟩
  have he' : (encodeB l).2 = 0 := by simpa using he
  obtain ⟨h16, hch, hc⟩ := encodeB_inv hf he'
  have hbc : Bytes (encodeB l).1 := encodeB_bytes hf he'
  have hlen : (encodeB l).1.length ≤ 1099511627776 := by
    have h1 := putB_len10 (x := (l.length : Int)) (by simp only [u64m]; omega)
    have h2 : ∀ (t : List CellV), Cells t → (t.flatMap cellB).length ≤ 37 * t.length := by
      intro t
      induction t with
      | nil => simp
      | cons y t ih =>
        intro ht
        have h3 := cellB_len (ht y (by simp))
        have h4 := ih fun z hz => ht z (by simp [hz])
        simp only [List.flatMap_cons, List.length_append, List.length_cons]; omega
    have := h2 l hf
    rw [hc]; split
    · simp
    · simp only [List.length_append]; omega
  have hdec : decodeB (encodeB l).1 = (l, 0) := by
    rw [hc]
    split
    · rename_i h0; subst h0; rfl
    · rename_i h0
      have := decodeB_fwd h0 h16 hch []
      simpa using this
  have ho214 := Own.alloc (E := Enc.int .u8) (l := []) hal214 (Nat.le_refl _) rfl (by decide)
  have hr214 := (ho208.grew hal214.grew).reads
  refine append_sl e8 ho214 hr214.1 hr214.2.1 hr214.2.2.1 hal214.grew.size (by simp only [maxLen, List.length_nil]; omega) (by simp only [List.length_nil]; omega) ?_
  rintro v w215 ⟨a217, l217, c217, rfl, ho215, hu215, -⟩
  have hg215 : Grew w208 w215 := hal214.grew.then_own hu215 fun b hb => (ho214.blk hb).1
  rw [List.nil_append] at ho215
  refine ⟨_, _, _, rfl, (Decode_ok ho215.reads hbc (by omega)).use fun v w218 ⟨a220, l220, c220, hv, ho218, hg218⟩ => ?_⟩
  subst hv
  rw [hdec] at ho218 ⊢
  have hln := ho215.len
  refine ⟨_, _, _, _, rfl, fun i w' => ∃ (k : Nat) (p : List Int), i = k ∧ k ≤ l217 ∧ p.length = l217 ∧ Own w' w208.heap.size 5 (Enc.int .u8) a217 l217 c217 p ∧ Upd (Blk a217) w218 w', fun i _ => l217 - i.toNat, ⟨0, _, rfl, Nat.zero_le _, hln.symm, ho215.grew hg218, Upd.refl _ _⟩, ?_⟩
  rintro i w225 ⟨k, p, rfl, hk, hpl, hp225, hu225⟩
  refine ⟨fun hlt => ?_, fun hge => ?_⟩
  · simp only [decide_eq_true_eq] at hlt
    obtain ⟨d, rfl, hroom, hset, hu⟩ := hp225.set (i := k) (by omega) 85
    have hw : IntKind.i64.wrap ((k : Int) + 1) = ((k + 1 : Nat) : Int) := by rw [IntKind.wrap_i64]; omega
    rw [hw]
    refine ⟨by omega, by simpa [Enc.int] using hroom, ?_⟩
    rintro w227 rfl
    rintro n228 rfl
    refine ⟨⟨k + 1, _, rfl, by omega, ?_, by simpa [Enc.int] using hset, by simpa [Enc.int] using hu225.trans hu⟩, by show l217 - (((k + 1 : Nat) : Int)).toNat < l217 - ((k : Int)).toNat; omega⟩
    rw [List.length_set]; exact hpl
  have hob : ∀ b, Blk a217 b → w208.heap.size ≤ b ∧ b < w215.heap.size := fun b hb => ⟨(ho215.blk hb).1, (ho215.blk hb).2⟩
  have hg225 : Grew w208 w225 := (hg215.trans hg218).then_own hu225 fun b hb => (hob b hb).1
  have hm225 := hm202.trans (hg208.trans hg225)
  refine ⟨by omega, (Encode_ok (hmine.grew hm225).reads hf (by omega)).use fun v w229 ⟨a231, l231, c231, hv, ho229, hg229⟩ => ?_⟩
  subst hv
  have hl225 := ho218.upd hu225 (fun b hb h => by have h1 := (ho218.blk hb).1; have h2 := hob b h; omega)
  have hm229 := hm225.trans hg229
  refine ⟨_, _, _, _, rfl, fun _ => ?_, fun h => (by simp at h)⟩
  refine (same_ok (hl225.grew hg229).reads (hr.grew (ha54.trans hm229)) (by simp only; omega)).use fun v w234 ⟨hv, hg234⟩ => ?_
  subst hv
  refine ⟨_, rfl, fun _ => ?_, fun h => (by simp at h)⟩
  refine conv_str (e := 5) (by kernel_rfl) (by kernel_rfl) (by kernel_rfl) (ho229.grew hg234).reads ⟨_, rfl, conv_str (e := 5) (by kernel_rfl) (by kernel_rfl) (by kernel_rfl) (ho208.grew (hg225.trans (hg229.trans hg234))).reads ⟨_, rfl, _, eqS_str, _, rfl, ?_, ha54.trans (hm229.trans hg234)⟩⟩
  rw [beq_toListBytes]; simp

open Go.ChangeShapes Go.WideShapes Go.ChangeAt Go.RowKit
set_option maxRecDepth 100000 in
theorem bucketMemory_lifted (os : Os) (started : os.Started) (H : Type) (enc : TypeId × Value → H) :
    ReturnsInHanded {} Try.checked os 8 .any (Rows.bucketMemorySpec.pre6 enc Try.prog Try.f8 Rows.bucketMemoryRow.domain false) (Rows.bucketMemorySpec.post enc Try.prog Try.f8 false true false false) := by
  refine returnsInHanded_of_change_sized (C := Try.checked) (by kernel_rfl) started (by kernel_rfl) Try.func8
    (ChangeSpec.witness6 (enc := enc) (C := Try.checked) false ⟨#[], #[.slice none 0 0, .agg (Enc.cell.f cell0).toArray], []⟩ 8 (by kernel_rfl) (by kernel_rfl) (by kernel_rfl) (by kernel_rfl)) ?_
  intro W base args ds gs before hval0 hW hcnd hsz0 _
  have hval : ∀ (j : Nat) t v, Try.f8.params[j]? = some t → args[j]? = some v → Value.okWide Try.prog W .any base t v := hval0
  have hW' := hW
  obtain ⟨p, q, hA0, hV, rfl, hfz, hnd⟩ := hW
  have hA : DataW.TrodAll enc Try.prog W 0 (fun _ => true) true Try.f8.params.toList args.toList ds p := hA0
  have hsz : (DataW.weightsEach Try.prog (Try.f8.params.toList ++ _) (ds ++ gs)).all (· ≤ reachBytes) = true := hsz0
  rw [show Try.f8.params = #[22, 37] from by kernel_rfl] at hA hval hsz
  have hA1 := hA
  obtain ⟨v0, vs0, d0, ds0, p0, q0, hargs, rfl, rfl, h0, r0⟩ := trodAll_cons hA
  obtain ⟨v1, vs1, d1, ds1, p1, q1, rfl, rfl, rfl, h1, r1⟩ := trodAll_cons r0
  obtain ⟨rfl, rfl, rfl⟩ := trodAll_nil r1
  obtain rfl : args = #[v0, v1] := by cases args; simp_all
  obtain ⟨a0, n0, c0, l0, rfl, hr0, hcl0, hn0, hs0⟩ := open_flat (P := Try.prog) (t := 22) (e := 37) (by kernel_rfl) cell_kinds (by kernel_rfl) (hval 0 22 v0 rfl rfl) h0 (E := Enc.cell) rfl cell_of_kinds
  have hb0 : l0.length * 48 ≤ 140737488351232 := by have h1 := sized_len hsz (j := 0) (t := 22) (e := 37) rfl rfl (by kernel_rfl) (B := 48) (by kernel_rfl) hs0; have h2 := hr0.2.1; simp only at h2; omega
  obtain ⟨x1, rfl, hcl1⟩ := open_struct (P := Try.prog) (t := 37) (by kernel_rfl) cell_kinds (hval 1 37 v1 rfl rfl) h1 (E := Enc.cell) cell_of_kinds
  clear hA0 hA1 hval0 hsz0
  refine (CallsW.calls ⟨_, Try.func8, by kernel_rfl, by kernel_rfl⟩ (BucketMemory_ok hr0 hcl0 hb0 hcl1)).mono fun e W' ⟨w', hh, hk, v, he, hv, hg⟩ => ?_
  subst he; subst hv
  exact ⟨_, rfl, post_true (tb := 4) (by kernel_rfl) rfl (by kernel_rfl) (by kernel_rfl) ⟨rfl, rfl, rfl⟩ (by decide +kernel) hW' (below_of hg hh hk)⟩

theorem bucketMemory_holds : Rows.BucketMemorySaid :=
  OpenClaim.holds_of_wide 8 Try.f8 rfl rfl rfl rfl rfl rfl rfl ⟨rfl, rfl, rfl, rfl, rfl⟩ rfl rfl rfl rfl rfl (by kernel_rfl) Try.func8 (by kernel_rfl)
    (of_decide_eq_true (by kernel_rfl)) (by unfold Func.isWrapper; first | (rw [if_pos (by decide +kernel)]; kernel_rfl) | (rw [if_neg (by decide +kernel)]; exact ⟨rfl, rfl⟩))
    (fun os started H enc _ => bucketMemory_lifted os started H enc)
end Go.Proofs.Ytnbknhcpjggabaa
