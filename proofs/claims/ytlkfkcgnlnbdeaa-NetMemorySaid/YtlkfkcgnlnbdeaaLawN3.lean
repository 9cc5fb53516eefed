/- NetMemory: what it computes, and its row. Conditions: none. -/
import Derived.Test.YtlkfkcgnlnbdeaaProg
import Derived.Test.YtlkfkcgnlnbdeaaKindsN
import Derived.Test.YtlkfkcgnlnbdeaaRows
import Derived.Test.YtlkfkcgnlnbdeaaSxNc
namespace Go.Proofs.Ytlkfkcgnlnbdeaa
open Go.Sx
set_option maxRecDepth 100000
set_option linter.unusedVariables false
set_option linter.unusedSimpArgs false
/- reprise/repriselaw16.NetMemory -/
def sx5 (d_0 : Int) (d_1 : Int) (d_2 : Int) (d_3 : Int) (d_4 : Int) (d_5 : Int) (d_6 : Option Addr) (d_6_n d_6_c : Nat) (d_7 : Option Addr) (d_7_n d_7_c : Nat) (d_8 : Option Addr) (d_8_n d_8_c : Nat) (R : Ending → World → Prop) (w : World) : Prop :=
  ∀ w1, Grew w w1 → CallsW Try.prog 7 [] w1 (RetR R fun u3 w2 => ∃ (b4 : Bool), u3 = .bool b4 ∧ (((!b4) = true → R (.returned (.bool false)) w2) ∧ ((!b4) = false → CallsW Try.prog 8 [.int .i64 9] w2 (RetR R fun u7 w6 => ∃
    (p8 : Option Addr) (n9 : Int), u7 = .tuple #[.pointer p8, .int .i64 n9] ∧ (((n9 != 0) = true → R (.returned (.bool false)) w6) ∧ ((n9 != 0) = false → (((Option.isNone p8) = true → R (.returned (.bool false)) w6) ∧
    ((Option.isNone p8) = false → ∀ w11, Grew w6 w11 → ∃ (J12 : Int → Int → Int → Int → Int → Int → Option Addr → Nat → Nat → Option Addr → Nat → Nat → Option Addr → Nat → Nat → World → Prop), (∀ w13, Grew w11 w13 → ((∀
    (b14 : Nat) (w15 : World), Alloc w13 w15 b14 (.cells #[] 3) → SameB w13 w15 [] ∧ ((SemW Try.prog (Builtin.append_ #[31, 31] 31 #[.slice (some ⟨b14, 0, none⟩) 0 0, .slice d_6 d_6_n d_6_c]) (fun u17 w16 => ∃ (a18 :
    Option Addr) (l18 c18 : Nat), u17 = .slice a18 l18 c18 ∧ SameB w15 w16 [] ∧ ∀ (b19 : Nat) (w20 : World), Alloc w16 w20 b19 (.cells #[.int .i64 71] 3) → SameB w16 w20 [] ∧ SemW Try.prog (Builtin.append_ #[31, 31] 31
    #[.slice a18 l18 c18, .slice (some ⟨b19, 0, none⟩) 1 1]) (fun u22 w21 => ∃ (a23 : Option Addr) (l23 c23 : Nat), u22 = .slice a23 l23 c23 ∧ SameB w20 w21 [] ∧ (0 ≤ ((d_6_n : Nat) : Int) ∧ ((d_6_n : Nat) : Int) ≤ (c23 :
    Nat)) ∧ J12 d_0 d_1 d_2 d_3 d_4 d_5 a23 (((d_6_n : Nat) : Int).toNat) c23 d_7 d_7_n d_7_c d_8 d_8_n d_8_c w21) w20) w15) ∧ (∀ (b24 : Nat) (w25 : World), Alloc w15 w25 b24 (.cells #[.int .i64 71] 3) → SameB w15 w25 []
    ∧ SemW Try.prog (Builtin.append_ #[31, 31] 31 #[.slice (some ⟨b14, 0, none⟩) 0 0, .slice d_6 d_6_n d_6_c]) (fun u27 w26 => ∃ (a28 : Option Addr) (l28 c28 : Nat), u27 = .slice a28 l28 c28 ∧ SameB w25 w26 [] ∧ SemW
    Try.prog (Builtin.append_ #[31, 31] 31 #[.slice a28 l28 c28, .slice (some ⟨b24, 0, none⟩) 1 1]) (fun u30 w29 => ∃ (a31 : Option Addr) (l31 c31 : Nat), u30 = .slice a31 l31 c31 ∧ SameB w26 w29 [] ∧ (0 ≤ ((d_6_n : Nat)
    : Int) ∧ ((d_6_n : Nat) : Int) ≤ (c31 : Nat)) ∧ J12 d_0 d_1 d_2 d_3 d_4 d_5 a31 (((d_6_n : Nat) : Int).toNat) c31 d_7 d_7_n d_7_c d_8 d_8_n d_8_c w29) w26) w25))) ∧ (∀ (b32 : Nat) (w33 : World), Alloc w13 w33 b32
    (.cells #[.int .i64 71] 3) → SameB w13 w33 [] ∧ ∀ (b34 : Nat) (w35 : World), Alloc w33 w35 b34 (.cells #[] 3) → SameB w33 w35 [] ∧ SemW Try.prog (Builtin.append_ #[31, 31] 31 #[.slice (some ⟨b34, 0, none⟩) 0 0, .slice
    d_6 d_6_n d_6_c]) (fun u37 w36 => ∃ (a38 : Option Addr) (l38 c38 : Nat), u37 = .slice a38 l38 c38 ∧ SameB w35 w36 [] ∧ SemW Try.prog (Builtin.append_ #[31, 31] 31 #[.slice a38 l38 c38, .slice (some ⟨b32, 0, none⟩) 1
    1]) (fun u40 w39 => ∃ (a41 : Option Addr) (l41 c41 : Nat), u40 = .slice a41 l41 c41 ∧ SameB w36 w39 [] ∧ (0 ≤ ((d_6_n : Nat) : Int) ∧ ((d_6_n : Nat) : Int) ≤ (c41 : Nat)) ∧ J12 d_0 d_1 d_2 d_3 d_4 d_5 a41 (((d_6_n :
    Nat) : Int).toNat) c41 d_7 d_7_n d_7_c d_8 d_8_n d_8_c w39) w36) w35))) ∧ ∀ (n42 : Int) (n43 : Int) (n44 : Int) (n45 : Int) (n46 : Int) (n47 : Int) (a48 : Option Addr) (l48 c48 : Nat) (a49 : Option Addr) (l49 c49 :
    Nat) (a50 : Option Addr) (l50 c50 : Nat) (w51 : World), J12 n42 n43 n44 n45 n46 n47 a48 l48 c48 a49 l49 c49 a50 l50 c50 w51 → ∃ (J52 : Int → Int → Int → Int → Int → Int → Option Addr → Nat → Nat → Option Addr → Nat →
    Nat → Option Addr → Nat → Nat → World → Prop), (∀ w53, Grew w51 w53 → ((∀ (b54 : Nat) (w55 : World), Alloc w53 w55 b54 (.cells #[] 56) → SameB w53 w55 [] ∧ ((SemW Try.prog (Builtin.append_ #[32, 32] 32 #[.slice (some
    ⟨b54, 0, none⟩) 0 0, .slice d_7 d_7_n d_7_c]) (fun u57 w56 => ∃ (a58 : Option Addr) (l58 c58 : Nat), u57 = .slice a58 l58 c58 ∧ SameB w55 w56 [] ∧ ∀ (b59 : Nat) (w60 : World), Alloc w56 w60 b59 (.cells #[.int .u64 72]
    56) → SameB w56 w60 [] ∧ SemW Try.prog (Builtin.append_ #[32, 32] 32 #[.slice a58 l58 c58, .slice (some ⟨b59, 0, none⟩) 1 1]) (fun u62 w61 => ∃ (a63 : Option Addr) (l63 c63 : Nat), u62 = .slice a63 l63 c63 ∧ SameB w60
    w61 [] ∧ (0 ≤ ((d_7_n : Nat) : Int) ∧ ((d_7_n : Nat) : Int) ≤ (c63 : Nat)) ∧ J52 n42 n43 n44 n45 n46 n47 a48 l48 c48 a63 (((d_7_n : Nat) : Int).toNat) c63 a50 l50 c50 w61) w60) w55) ∧ (∀ (b64 : Nat) (w65 : World),
    Alloc w55 w65 b64 (.cells #[.int .u64 72] 56) → SameB w55 w65 [] ∧ SemW Try.prog (Builtin.append_ #[32, 32] 32 #[.slice (some ⟨b54, 0, none⟩) 0 0, .slice d_7 d_7_n d_7_c]) (fun u67 w66 => ∃ (a68 : Option Addr) (l68
    c68 : Nat), u67 = .slice a68 l68 c68 ∧ SameB w65 w66 [] ∧ SemW Try.prog (Builtin.append_ #[32, 32] 32 #[.slice a68 l68 c68, .slice (some ⟨b64, 0, none⟩) 1 1]) (fun u70 w69 => ∃ (a71 : Option Addr) (l71 c71 : Nat), u70
    = .slice a71 l71 c71 ∧ SameB w66 w69 [] ∧ (0 ≤ ((d_7_n : Nat) : Int) ∧ ((d_7_n : Nat) : Int) ≤ (c71 : Nat)) ∧ J52 n42 n43 n44 n45 n46 n47 a48 l48 c48 a71 (((d_7_n : Nat) : Int).toNat) c71 a50 l50 c50 w69) w66) w65)))
    ∧ (∀ (b72 : Nat) (w73 : World), Alloc w53 w73 b72 (.cells #[.int .u64 72] 56) → SameB w53 w73 [] ∧ ∀ (b74 : Nat) (w75 : World), Alloc w73 w75 b74 (.cells #[] 56) → SameB w73 w75 [] ∧ SemW Try.prog (Builtin.append_
    #[32, 32] 32 #[.slice (some ⟨b74, 0, none⟩) 0 0, .slice d_7 d_7_n d_7_c]) (fun u77 w76 => ∃ (a78 : Option Addr) (l78 c78 : Nat), u77 = .slice a78 l78 c78 ∧ SameB w75 w76 [] ∧ SemW Try.prog (Builtin.append_ #[32, 32]
    32 #[.slice a78 l78 c78, .slice (some ⟨b72, 0, none⟩) 1 1]) (fun u80 w79 => ∃ (a81 : Option Addr) (l81 c81 : Nat), u80 = .slice a81 l81 c81 ∧ SameB w76 w79 [] ∧ (0 ≤ ((d_7_n : Nat) : Int) ∧ ((d_7_n : Nat) : Int) ≤
    (c81 : Nat)) ∧ J52 n42 n43 n44 n45 n46 n47 a48 l48 c48 a81 (((d_7_n : Nat) : Int).toNat) c81 a50 l50 c50 w79) w76) w75))) ∧ ∀ (n82 : Int) (n83 : Int) (n84 : Int) (n85 : Int) (n86 : Int) (n87 : Int) (a88 : Option Addr)
    (l88 c88 : Nat) (a89 : Option Addr) (l89 c89 : Nat) (a90 : Option Addr) (l90 c90 : Nat) (w91 : World), J52 n82 n83 n84 n85 n86 n87 a88 l88 c88 a89 l89 c89 a90 l90 c90 w91 → ∃ (J92 : Int → Int → Int → Int → Int → Int →
    Option Addr → Nat → Nat → Option Addr → Nat → Nat → Option Addr → Nat → Nat → World → Prop), (∀ w93, Grew w91 w93 → ((∀ (b94 : Nat) (w95 : World), Alloc w93 w95 b94 (.cells #[] 60) → SameB w93 w95 [] ∧ ((SemW Try.prog
    (Builtin.append_ #[33, 33] 33 #[.slice (some ⟨b94, 0, none⟩) 0 0, .slice d_8 d_8_n d_8_c]) (fun u97 w96 => ∃ (a98 : Option Addr) (l98 c98 : Nat), u97 = .slice a98 l98 c98 ∧ SameB w95 w96 [] ∧ ∀ (b99 : Nat) (w100 :
    World), Alloc w96 w100 b99 (.cells #[.int .u64 73, .bool false, .int .u64 0] 60) → SameB w96 w100 [] ∧ SemW Try.prog (Builtin.append_ #[33, 33] 33 #[.slice a98 l98 c98, .slice (some ⟨b99, 0, none⟩) 1 1]) (fun u102
    w101 => ∃ (a103 : Option Addr) (l103 c103 : Nat), u102 = .slice a103 l103 c103 ∧ SameB w100 w101 [] ∧ (0 ≤ ((d_8_n : Nat) : Int) ∧ ((d_8_n : Nat) : Int) ≤ (c103 : Nat)) ∧ J92 n82 n83 n84 n85 n86 n87 a88 l88 c88 a89
    l89 c89 a103 (((d_8_n : Nat) : Int).toNat) c103 w101) w100) w95) ∧ (∀ (b104 : Nat) (w105 : World), Alloc w95 w105 b104 (.cells #[.int .u64 73, .bool false, .int .u64 0] 60) → SameB w95 w105 [] ∧ SemW Try.prog
    (Builtin.append_ #[33, 33] 33 #[.slice (some ⟨b94, 0, none⟩) 0 0, .slice d_8 d_8_n d_8_c]) (fun u107 w106 => ∃ (a108 : Option Addr) (l108 c108 : Nat), u107 = .slice a108 l108 c108 ∧ SameB w105 w106 [] ∧ SemW Try.prog
    (Builtin.append_ #[33, 33] 33 #[.slice a108 l108 c108, .slice (some ⟨b104, 0, none⟩) 1 1]) (fun u110 w109 => ∃ (a111 : Option Addr) (l111 c111 : Nat), u110 = .slice a111 l111 c111 ∧ SameB w106 w109 [] ∧ (0 ≤ ((d_8_n :
    Nat) : Int) ∧ ((d_8_n : Nat) : Int) ≤ (c111 : Nat)) ∧ J92 n82 n83 n84 n85 n86 n87 a88 l88 c88 a89 l89 c89 a111 (((d_8_n : Nat) : Int).toNat) c111 w109) w106) w105))) ∧ (∀ (b112 : Nat) (w113 : World), Alloc w93 w113
    b112 (.cells #[.int .u64 73, .bool false, .int .u64 0] 60) → SameB w93 w113 [] ∧ ∀ (b114 : Nat) (w115 : World), Alloc w113 w115 b114 (.cells #[] 60) → SameB w113 w115 [] ∧ SemW Try.prog (Builtin.append_ #[33, 33] 33
    #[.slice (some ⟨b114, 0, none⟩) 0 0, .slice d_8 d_8_n d_8_c]) (fun u117 w116 => ∃ (a118 : Option Addr) (l118 c118 : Nat), u117 = .slice a118 l118 c118 ∧ SameB w115 w116 [] ∧ SemW Try.prog (Builtin.append_ #[33, 33] 33
    #[.slice a118 l118 c118, .slice (some ⟨b112, 0, none⟩) 1 1]) (fun u120 w119 => ∃ (a121 : Option Addr) (l121 c121 : Nat), u120 = .slice a121 l121 c121 ∧ SameB w116 w119 [] ∧ (0 ≤ ((d_8_n : Nat) : Int) ∧ ((d_8_n : Nat)
    : Int) ≤ (c121 : Nat)) ∧ J92 n82 n83 n84 n85 n86 n87 a88 l88 c88 a89 l89 c89 a121 (((d_8_n : Nat) : Int).toNat) c121 w119) w116) w115))) ∧ ∀ (n122 : Int) (n123 : Int) (n124 : Int) (n125 : Int) (n126 : Int) (n127 :
    Int) (a128 : Option Addr) (l128 c128 : Nat) (a129 : Option Addr) (l129 c129 : Nat) (a130 : Option Addr) (l130 c130 : Nat) (w131 : World), J92 n122 n123 n124 n125 n126 n127 a128 l128 c128 a129 l129 c129 a130 l130 c130
    w131 → CallsW Try.prog 16 [.pointer p8, .agg #[.int .i64 n122, .int .i64 n123, .int .i64 n124, .int .i64 n125, .int .i64 n126, .int .i64 n127, .slice a128 l128 c128, .slice a129 l129 c129, .slice a130 l130 c130]] w131
    (RetR R fun u133 w132 => ∃ (n134 : Int) (n135 : Int), u133 = .tuple #[.int .i64 n134, .int .i64 n135] ∧ (((n135 != 0) = true → (((n135 == 150) = true → CallsW Try.prog 14 [.pointer p8] w132 (RetR R fun u138 w137 => ∃
    (n139 : Int), u138 = .int .i64 n139 ∧ (((n139 == 0) = true → CallsW Try.prog 12 [.pointer p8] w137 (RetR R fun u142 w141 => ∃ (a143 : Option Addr) (l143 c143 : Nat), u142 = .slice a143 l143 c143 ∧ R (.returned (.bool
    (((l143 : Nat) : Int) == 0))) w141)) ∧ ((n139 == 0) = false → R (.returned (.bool false)) w137)))) ∧ ((n135 == 150) = false → R (.returned (.bool false)) w132))) ∧ ((n135 != 0) = false → CallsW Try.prog 21 [.agg
    #[.int .i64 n122, .int .i64 n123, .int .i64 n124, .int .i64 n125, .int .i64 n126, .int .i64 n127, .slice a128 l128 c128, .slice a129 l129 c129, .slice a130 l130 c130], .agg #[.int .i64 d_0, .int .i64 d_1, .int .i64
    d_2, .int .i64 d_3, .int .i64 d_4, .int .i64 d_5, .slice d_6 d_6_n d_6_c, .slice d_7 d_7_n d_7_c, .slice d_8 d_8_n d_8_c]] w132 (RetR R fun u146 w145 => ∃ (b147 : Bool), u146 = .bool b147 ∧ (((!b147) = true → R
    (.returned (.bool false)) w145) ∧ ((!b147) = false → ∃ (I149 : Int → World → Prop) (m149 : Int → World → Nat), I149 0 w145 ∧ ∀ (n150 : Int) (w151 : World), I149 n150 w151 → (((decide (n150 < ((l128 : Nat) : Int))) =
    true → withSome a128 (fun d152 => (0 ≤ n150 ∧ n150 < (l128 : Nat)) ∧ RoomAt w151 (Addr.add d152 (n150.toNat * 1)) 0 [.int .i64 200] ∧ ∀ w153, w153 = setCells w151 (Addr.add d152 (n150.toNat * 1)) 0 [.int .i64 200] → ∀
    n154 : Int, n154 = IntKind.i64.wrap (n150 + 1) → (I149 n154 w153 ∧ m149 n154 w153 < m149 n150 w151))) ∧ ((decide (n150 < ((l128 : Nat) : Int))) = false → ∃ (I155 : Int → World → Prop) (m155 : Int → World → Nat), I155
    0 w151 ∧ ∀ (n156 : Int) (w157 : World), I155 n156 w157 → (((decide (n156 < ((l129 : Nat) : Int))) = true → withSome a129 (fun d158 => (0 ≤ n156 ∧ n156 < (l129 : Nat)) ∧ RoomAt w157 (Addr.add d158 (n156.toNat * 1)) 0
    [.int .u64 201] ∧ ∀ w159, w159 = setCells w157 (Addr.add d158 (n156.toNat * 1)) 0 [.int .u64 201] → ∀ n160 : Int, n160 = IntKind.i64.wrap (n156 + 1) → (I155 n160 w159 ∧ m155 n160 w159 < m155 n156 w157))) ∧ ((decide
    (n156 < ((l129 : Nat) : Int))) = false → ∃ (I161 : Int → World → Prop) (m161 : Int → World → Nat), I161 0 w157 ∧ ∀ (n162 : Int) (w163 : World), I161 n162 w163 → (((decide (n162 < ((l130 : Nat) : Int))) = true →
    withSome a130 (fun d164 => (0 ≤ n162 ∧ n162 < (l130 : Nat)) ∧ RoomAt w163 (Addr.add d164 (n162.toNat * 3)) 0 [.int .u64 202, .bool false, .int .u64 0] ∧ ∀ w165, w165 = setCells w163 (Addr.add d164 (n162.toNat * 3)) 0
    [.int .u64 202, .bool false, .int .u64 0] → ∀ n166 : Int, n166 = IntKind.i64.wrap (n162 + 1) → (I161 n166 w165 ∧ m161 n166 w165 < m161 n162 w163))) ∧ ((decide (n162 < ((l130 : Nat) : Int))) = false → CallsW Try.prog
    17 [.pointer p8, .int .i64 0] w163 (RetR R fun u168 w167 => ∃ (n169 : Int) (n170 : Int), u168 = .tuple #[.int .i64 n169, .int .i64 n170] ∧ CallsW Try.prog 12 [.pointer p8] w167 (RetR R fun u173 w172 => ∃ (a174 :
    Option Addr) (l174 c174 : Nat), u173 = .slice a174 l174 c174 ∧ ∀ w176, Grew w172 w176 → (((n170 != 0) = true → R (.returned (.bool false)) w176) ∧ ((n170 != 0) = false → (((((l174 : Nat) : Int) != 2) = true → R
    (.returned (.bool false)) w176) ∧ ((((l174 : Nat) : Int) != 2) = false → withSome a174 (fun d177 => (0 ≤ (0 : Int) ∧ (0 : Int) < (l174 : Nat)) ∧ ∃ (n178 : Int) (n179 : Int) (n180 : Int) (n181 : Int) (n182 : Int) (n183
    : Int) (a184 : Option Addr) (l184 c184 : Nat) (a185 : Option Addr) (l185 c185 : Nat) (a186 : Option Addr) (l186 c186 : Nat), CellsAt w176 (Addr.add d177 1) 0 [.int .i64 n178, .int .i64 n179, .int .i64 n180, .int .i64
    n181, .int .i64 n182, .int .i64 n183, .slice a184 l184 c184, .slice a185 l185 c185, .slice a186 l186 c186] ∧ CallsW Try.prog 21 [.agg #[.int .i64 n178, .int .i64 n179, .int .i64 n180, .int .i64 n181, .int .i64 n182,
    .int .i64 n183, .slice a184 l184 c184, .slice a185 l185 c185, .slice a186 l186 c186], .agg #[.int .i64 d_0, .int .i64 d_1, .int .i64 d_2, .int .i64 d_3, .int .i64 d_4, .int .i64 d_5, .slice d_6 d_6_n d_6_c, .slice d_7
    d_7_n d_7_c, .slice d_8 d_8_n d_8_c]] w176 (Ret (fun u188 w187 => ∃ (b189 : Bool), u188 = .bool b189 ∧ SameB w176 w187 [(Addr.add d177 1)] ∧ (((!b189) = true → R (.returned (.bool false)) w187) ∧ ((!b189) = false →
    withSome a174 (fun d191 => (0 ≤ (1 : Int) ∧ (1 : Int) < (l174 : Nat)) ∧ ∃ (n192 : Int) (n193 : Int) (n194 : Int) (n195 : Int) (n196 : Int) (n197 : Int) (a198 : Option Addr) (l198 c198 : Nat) (a199 : Option Addr) (l199
    c199 : Nat) (a200 : Option Addr) (l200 c200 : Nat), CellsAt w187 (Addr.add (Addr.add d191 10) 1) 0 [.int .i64 n192, .int .i64 n193, .int .i64 n194, .int .i64 n195, .int .i64 n196, .int .i64 n197, .slice a198 l198
    c198, .slice a199 l199 c199, .slice a200 l200 c200] ∧ CallsW Try.prog 21 [.agg #[.int .i64 n192, .int .i64 n193, .int .i64 n194, .int .i64 n195, .int .i64 n196, .int .i64 n197, .slice a198 l198 c198, .slice a199 l199
    c199, .slice a200 l200 c200], .agg #[.int .i64 d_0, .int .i64 d_1, .int .i64 d_2, .int .i64 d_3, .int .i64 d_4, .int .i64 d_5, .slice d_6 d_6_n d_6_c, .slice d_7 d_7_n d_7_c, .slice d_8 d_8_n d_8_c]] w187 (Ret (fun
    u202 w201 => ∃ (b203 : Bool), u202 = .bool b203 ∧ SameB w187 w201 [(Addr.add (Addr.add d191 10) 1), (Addr.add d177 1)] ∧ (((!b203) = true → R (.returned (.bool false)) w201) ∧ ((!b203) = false → ∃ (I205 : Int → World
    → Prop) (m205 : Int → World → Nat), I205 0 w201 ∧ ∀ (n206 : Int) (w207 : World), I205 n206 w207 → (((decide (n206 < 2)) = true → ∃ (I208 : Int → World → Prop) (m208 : Int → World → Nat), I208 0 w207 ∧ ∀ (n209 : Int)
    (w210 : World), I208 n209 w210 → withSome a174 (fun d211 => (0 ≤ n206 ∧ n206 < (l174 : Nat)) ∧ ∃ (a212 : Option Addr) (l212 c212 : Nat), w210.cell? (Addr.add (Addr.add (Addr.add d211 (n206.toNat * 10)) 1) 6) = some
    (.slice a212 l212 c212) ∧ (((decide (n209 < ((l212 : Nat) : Int))) = true → withSome a174 (fun d213 => (0 ≤ n206 ∧ n206 < (l174 : Nat)) ∧ ∃ (a214 : Option Addr) (l214 c214 : Nat), w210.cell? (Addr.add (Addr.add
    (Addr.add d213 (n206.toNat * 10)) 1) 6) = some (.slice a214 l214 c214) ∧ withSome a214 (fun d215 => (0 ≤ n209 ∧ n209 < (l214 : Nat)) ∧ RoomAt w210 (Addr.add d215 (n209.toNat * 1)) 0 [.int .i64 210] ∧ ∀ w216, w216 =
    setCells w210 (Addr.add d215 (n209.toNat * 1)) 0 [.int .i64 210] → ∀ n217 : Int, n217 = IntKind.i64.wrap (n209 + 1) → (I208 n217 w216 ∧ m208 n217 w216 < m208 n209 w210)))) ∧ ((decide (n209 < ((l212 : Nat) : Int))) =
    false → ∃ (I218 : Int → World → Prop) (m218 : Int → World → Nat), I218 0 w210 ∧ ∀ (n219 : Int) (w220 : World), I218 n219 w220 → withSome a174 (fun d221 => (0 ≤ n206 ∧ n206 < (l174 : Nat)) ∧ ∃ (a222 : Option Addr)
    (l222 c222 : Nat), w220.cell? (Addr.add (Addr.add (Addr.add d221 (n206.toNat * 10)) 1) 8) = some (.slice a222 l222 c222) ∧ (((decide (n219 < ((l222 : Nat) : Int))) = true → withSome a174 (fun d223 => (0 ≤ n206 ∧ n206
    < (l174 : Nat)) ∧ ∃ (a224 : Option Addr) (l224 c224 : Nat), w220.cell? (Addr.add (Addr.add (Addr.add d223 (n206.toNat * 10)) 1) 8) = some (.slice a224 l224 c224) ∧ withSome a224 (fun d225 => (0 ≤ n219 ∧ n219 < (l224 :
    Nat)) ∧ RoomAt w220 (Addr.add d225 (n219.toNat * 3)) 0 [.int .u64 0, .bool false, .int .u64 0] ∧ ∀ w226, w226 = setCells w220 (Addr.add d225 (n219.toNat * 3)) 0 [.int .u64 0, .bool false, .int .u64 0] → ∀ n227 : Int,
    n227 = IntKind.i64.wrap (n219 + 1) → (I218 n227 w226 ∧ m218 n227 w226 < m218 n219 w220)))) ∧ ((decide (n219 < ((l222 : Nat) : Int))) = false → ∃ (I228 : Int → World → Prop) (m228 : Int → World → Nat), I228 0 w220 ∧ ∀
    (n229 : Int) (w230 : World), I228 n229 w230 → withSome a174 (fun d231 => (0 ≤ n206 ∧ n206 < (l174 : Nat)) ∧ ∃ (a232 : Option Addr) (l232 c232 : Nat), w230.cell? (Addr.add (Addr.add (Addr.add d231 (n206.toNat * 10)) 1)
    7) = some (.slice a232 l232 c232) ∧ (((decide (n229 < ((l232 : Nat) : Int))) = true → withSome a174 (fun d233 => (0 ≤ n206 ∧ n206 < (l174 : Nat)) ∧ ∃ (a234 : Option Addr) (l234 c234 : Nat), w230.cell? (Addr.add
    (Addr.add (Addr.add d233 (n206.toNat * 10)) 1) 7) = some (.slice a234 l234 c234) ∧ withSome a234 (fun d235 => (0 ≤ n229 ∧ n229 < (l234 : Nat)) ∧ RoomAt w230 (Addr.add d235 (n229.toNat * 1)) 0 [.int .u64 211] ∧ ∀ w236,
    w236 = setCells w230 (Addr.add d235 (n229.toNat * 1)) 0 [.int .u64 211] → ∀ n237 : Int, n237 = IntKind.i64.wrap (n229 + 1) → (I228 n237 w236 ∧ m228 n237 w236 < m228 n229 w230)))) ∧ ((decide (n229 < ((l232 : Nat) :
    Int))) = false → ∀ n238 : Int, n238 = IntKind.i64.wrap (n206 + 1) → (I205 n238 w230 ∧ m205 n238 w230 < m205 n206 w207))))))))))) ∧ ((decide (n206 < 2)) = false → CallsW Try.prog 19 [.pointer p8, .int .i64 0] w207
    (RetR R fun u240 w239 => ∃ (n241 : Int) (n242 : Int) (n243 : Int) (n244 : Int) (n245 : Int) (n246 : Int) (a247 : Option Addr) (l247 c247 : Nat) (a248 : Option Addr) (l248 c248 : Nat) (a249 : Option Addr) (l249 c249 :
    Nat) (n250 : Int), u240 = .tuple #[.agg #[.int .i64 n241, .int .i64 n242, .int .i64 n243, .int .i64 n244, .int .i64 n245, .int .i64 n246, .slice a247 l247 c247, .slice a248 l248 c248, .slice a249 l249 c249], .int .i64
    n250] ∧ ∀ w252, Grew w239 w252 → (((n250 != 0) = true → R (.returned (.bool false)) w252) ∧ ((n250 != 0) = false → CallsW Try.prog 21 [.agg #[.int .i64 n241, .int .i64 n242, .int .i64 n243, .int .i64 n244, .int .i64
    n245, .int .i64 n246, .slice a247 l247 c247, .slice a248 l248 c248, .slice a249 l249 c249], .agg #[.int .i64 d_0, .int .i64 d_1, .int .i64 d_2, .int .i64 d_3, .int .i64 d_4, .int .i64 d_5, .slice d_6 d_6_n d_6_c,
    .slice d_7 d_7_n d_7_c, .slice d_8 d_8_n d_8_c]] w252 (RetR R fun u254 w253 => ∃ (b255 : Bool), u254 = .bool b255 ∧ (((!b255) = true → R (.returned (.bool false)) w253) ∧ ((!b255) = false → ∃ (I257 : Int → World →
    Prop) (m257 : Int → World → Nat), I257 0 w253 ∧ ∀ (n258 : Int) (w259 : World), I257 n258 w259 → (((decide (n258 < ((l247 : Nat) : Int))) = true → withSome a247 (fun d260 => (0 ≤ n258 ∧ n258 < (l247 : Nat)) ∧ RoomAt
    w259 (Addr.add d260 (n258.toNat * 1)) 0 [.int .i64 220] ∧ ∀ w261, w261 = setCells w259 (Addr.add d260 (n258.toNat * 1)) 0 [.int .i64 220] → ∀ n262 : Int, n262 = IntKind.i64.wrap (n258 + 1) → (I257 n262 w261 ∧ m257
    n262 w261 < m257 n258 w259))) ∧ ((decide (n258 < ((l247 : Nat) : Int))) = false → ∃ (I263 : Int → World → Prop) (m263 : Int → World → Nat), I263 0 w259 ∧ ∀ (n264 : Int) (w265 : World), I263 n264 w265 → (((decide (n264
    < ((l249 : Nat) : Int))) = true → withSome a249 (fun d266 => (0 ≤ n264 ∧ n264 < (l249 : Nat)) ∧ RoomAt w265 (Addr.add d266 (n264.toNat * 3)) 0 [.int .u64 0, .bool false, .int .u64 0] ∧ ∀ w267, w267 = setCells w265
    (Addr.add d266 (n264.toNat * 3)) 0 [.int .u64 0, .bool false, .int .u64 0] → ∀ n268 : Int, n268 = IntKind.i64.wrap (n264 + 1) → (I263 n268 w267 ∧ m263 n268 w267 < m263 n264 w265))) ∧ ((decide (n264 < ((l249 : Nat) :
    Int))) = false → ∃ (I269 : Int → World → Prop) (m269 : Int → World → Nat), I269 0 w265 ∧ ∀ (n270 : Int) (w271 : World), I269 n270 w271 → (((decide (n270 < ((l248 : Nat) : Int))) = true → withSome a248 (fun d272 => (0
    ≤ n270 ∧ n270 < (l248 : Nat)) ∧ RoomAt w271 (Addr.add d272 (n270.toNat * 1)) 0 [.int .u64 221] ∧ ∀ w273, w273 = setCells w271 (Addr.add d272 (n270.toNat * 1)) 0 [.int .u64 221] → ∀ n274 : Int, n274 = IntKind.i64.wrap
    (n270 + 1) → (I269 n274 w273 ∧ m269 n274 w273 < m269 n270 w271))) ∧ ((decide (n270 < ((l248 : Nat) : Int))) = false → CallsW Try.prog 19 [.pointer p8, .int .i64 1] w271 (RetR R fun u276 w275 => ∃ (n277 : Int) (n278 :
    Int) (n279 : Int) (n280 : Int) (n281 : Int) (n282 : Int) (a283 : Option Addr) (l283 c283 : Nat) (a284 : Option Addr) (l284 c284 : Nat) (a285 : Option Addr) (l285 c285 : Nat) (n286 : Int), u276 = .tuple #[.agg #[.int
    .i64 n277, .int .i64 n278, .int .i64 n279, .int .i64 n280, .int .i64 n281, .int .i64 n282, .slice a283 l283 c283, .slice a284 l284 c284, .slice a285 l285 c285], .int .i64 n286] ∧ ∀ w288, Grew w275 w288 → (((n286 == 0)
    = true → CallsW Try.prog 21 [.agg #[.int .i64 n277, .int .i64 n278, .int .i64 n279, .int .i64 n280, .int .i64 n281, .int .i64 n282, .slice a283 l283 c283, .slice a284 l284 c284, .slice a285 l285 c285], .agg #[.int
    .i64 d_0, .int .i64 d_1, .int .i64 d_2, .int .i64 d_3, .int .i64 d_4, .int .i64 d_5, .slice d_6 d_6_n d_6_c, .slice d_7 d_7_n d_7_c, .slice d_8 d_8_n d_8_c]] w288 (RetR R fun u290 w289 => ∃ (b291 : Bool), u290 = .bool
    b291 ∧ R (.returned (.bool b291)) w289)) ∧ ((n286 == 0) = false → R (.returned (.bool false)) w288)))))))))))))))))))) (fun c204 w201 => False)))))) (fun c190 w187 => False)))))))))))))))))))))))))))))
theorem sx5.ok {d_0 : Int} {d_1 : Int} {d_2 : Int} {d_3 : Int} {d_4 : Int} {d_5 : Int} {d_6 : Option Addr} {d_6_n d_6_c : Nat} {d_7 : Option Addr} {d_7_n d_7_c : Nat} {d_8 : Option Addr} {d_8_n d_8_c : Nat} {R : Ending → World → Prop} {w : World} (h : sx5 d_0 d_1 d_2 d_3 d_4 d_5 d_6 d_6_n d_6_c d_7 d_7_n d_7_c d_8 d_8_n d_8_c R w) : CallsW Try.prog 5 [.agg #[.int .i64 d_0, .int .i64 d_1, .int .i64 d_2, .int .i64 d_3, .int .i64 d_4, .int .i64 d_5, .slice d_6 d_6_n d_6_c, .slice d_7 d_7_n d_7_c, .slice d_8 d_8_n d_8_c]] w R :=
  callsW_of mix Try.func5 (by kernel_rfl) (by kernel_rfl) (Eq.mpr (by kernel_rfl : denFn Try.prog { locals := [1, 5, 14, 18], sem := [35, 37, 46, 48, 57, 60], named := [97, 108, 119, 160, 171, 190, 210, 238, 249, 261], draws := [(7, { order := (.cons 1 (.cons 2 (.cons 6 (.cons 7 (.cons 8 (.alt (.cons 0 (.alt (.cons 3 (.cons 4 (.cons 5 (.cons 9 (.cons 10 (.cons 11 .nil)))))) (.cons 4 (.cons 3 (.cons 5 (.cons 9 (.cons 10 (.cons 11 .nil)))))))) (.cons 4 (.cons 0 (.cons 3 (.cons 5 (.cons 9 (.cons 10 (.cons 11 .nil))))))))))))), bars := [11] }), (8, { order := (.cons 1 (.cons 2 (.cons 6 (.cons 7 (.cons 8 (.alt (.cons 0 (.alt (.cons 3 (.cons 4 (.cons 5 (.cons 9 (.cons 10 (.cons 11 .nil)))))) (.cons 4 (.cons 3 (.cons 5 (.cons 9 (.cons 10 (.cons 11 .nil)))))))) (.cons 4 (.cons 0 (.cons 3 (.cons 5 (.cons 9 (.cons 10 (.cons 11 .nil))))))))))))), bars := [11] }), (9, { order := (.cons 1 (.cons 2 (.cons 4 (.cons 7 (.cons 8 (.cons 9 (.alt (.cons 0 (.alt (.cons 3 (.cons 5 (.cons 6 (.cons 10 (.cons 11 (.cons 12 .nil)))))) (.cons 5 (.cons 3 (.cons 6 (.cons 10 (.cons 11 (.cons 12 .nil)))))))) (.cons 5 (.cons 0 (.cons 3 (.cons 6 (.cons 10 (.cons 11 (.cons 12 .nil)))))))))))))), bars := [12] }), (29, { order := (.cons 0 (.cons 1 (.cons 2 (.cons 3 (.cons 4 (.cons 5 (.cons 6 (.cons 7 (.cons 8 (.cons 9 (.cons 10 (.cons 11 (.cons 12 (.cons 13 (.cons 14 (.cons 15 (.cons 16 (.cons 17 (.cons 18 (.cons 19 (.cons 20 (.cons 21 (.cons 22 (.cons 23 (.cons 24 .nil))))))))))))))))))))))))), bars := [] })], loops := [(16, { slots := [(6, .int .i64)], cells := [] }), (20, { slots := [(7, .int .i64)], cells := [] }), (24, { slots := [(8, .int .i64)], cells := [] }), (35, { slots := [(11, .int .i64)], cells := [] }), (39, { slots := [(12, .int .i64)], cells := [] }), (43, { slots := [(13, .int .i64)], cells := [] }), (50, { slots := [(15, .int .i64)], cells := [] }), (54, { slots := [(16, .int .i64)], cells := [] }), (58, { slots := [(17, .int .i64)], cells := [] }), (3032, { slots := [(10, .int .i64)], cells := [] })], cuts := [(8, { slots := [], cells := [(5, 35, [.int .i64, .int .i64, .int .i64, .int .i64, .int .i64, .int .i64, .slice, .slice, .slice])] }), (9, { slots := [], cells := [(5, 35, [.int .i64, .int .i64, .int .i64, .int .i64, .int .i64, .int .i64, .slice, .slice, .slice])] }), (10, { slots := [], cells := [(5, 35, [.int .i64, .int .i64, .int .i64, .int .i64, .int .i64, .int .i64, .slice, .slice, .slice])] })] } Try.f5 [.agg #[.int .i64 d_0, .int .i64 d_1, .int .i64 d_2, .int .i64 d_3, .int .i64 d_4, .int .i64 d_5, .slice d_6 d_6_n d_6_c, .slice d_7 d_7_n d_7_c, .slice d_8 d_8_n d_8_c]] R w = sx5 d_0 d_1 d_2 d_3 d_4 d_5 d_6 d_6_n d_6_c d_7 d_7_n d_7_c d_8 d_8_n d_8_c R w) h)


theorem fl_own {w : World} {d : Addr} {x : Int × Msg} {k : Nat} (h : CellsAt w (d.add (k * Enc.flight.sz)) 0 (Enc.flight.f x)) :
    w.cell? (Addr.add (Addr.add (Addr.add d (k * 10)) 1) 6) = some (.slice x.2.e.1 x.2.e.2.1 x.2.e.2.2) ∧ w.cell? (Addr.add (Addr.add (Addr.add d (k * 10)) 1) 7) = some (.slice x.2.k.1 x.2.k.2.1 x.2.k.2.2) ∧ w.cell? (Addr.add (Addr.add (Addr.add d (k * 10)) 1) 8) = some (.slice x.2.p.1 x.2.p.2.1 x.2.p.2.2) := by
  refine ⟨?_, ?_, ?_⟩
  · have := cellsAt_get h 7 _ rfl; simpa [Addr.add_add, Enc.flight] using this
  · have := cellsAt_get h 8 _ rfl; simpa [Addr.add_add, Enc.flight] using this
  · have := cellsAt_get h 9 _ rfl; simpa [Addr.add_add, Enc.flight] using this

theorem MO.e8 {w : World} {B : Nat} {x : Msg} (h : MO w B x) : Own w B 3 (Enc.int .i64) x.e.1 x.e.2.1 x.e.2.2 x.c.ends := h.e

theorem two_of {α β : Type} {f : α → β} : ∀ {l : List α} {a b : β}, l.map f = [a, b] → ∃ x y, l = [x, y]
  | [x, y], _, _, _ => ⟨x, y, rfl⟩
  | [], _, _, h => by simp at h
  | [_], _, _, h => by simp at h
  | _ :: _ :: _ :: _, _, _, h => by simp at h

set_option maxHeartbeats 2000000 in
theorem NetMemory_ok {x : Msg} {w : World} (hin : MsgIn w x) :
    CallsW Try.prog 5 [x.val] w (Rets fun v w' => v = .bool true ∧ Grew w w') := by
  refine sx5.ok ?_
  unfold sx5
  have he := hin.e; have hk := hin.k; have hp := hin.p
  have nb : ∀ {x y : World}, SameB x y [] := by intro x y; simp [SameB]
  intro w1 hg1
  refine awakeN_ok.use fun v w2 ⟨hv, hg2⟩ => ?_
  subst hv
  have hg2 := hg1.trans hg2
  refine ⟨_, rfl, fun h => (by cases h), fun _ => ?_⟩
  refine New_ok.use fun v w6 ⟨hg6, hv⟩ => ?_
  rcases hv with ⟨hv, -⟩ | ⟨-, p, mb, hv, hN6⟩
  · omega
  subst hv
  have hg6' := hg2.trans hg6
  refine ⟨_, _, rfl, fun h => (by cases h), fun _ => ⟨fun h => (by cases h), fun _ w11 hg11 => ?_⟩⟩
  have hg11' := hg6'.trans hg11
  have hN11 := hN6.grew hg11
  refine ⟨fun n0 n1 n2 n3 n4 n5 a6 l6 c6 a7 l7 c7 a8 l8 c8 w' => (n0 = x.c.kind ∧ n1 = x.c.frm ∧ n2 = x.c.to ∧ n3 = x.c.batch ∧ n4 = x.c.att ∧ n5 = x.c.code) ∧ l6 = x.c.ends.length ∧ Own w' w11.heap.size 3 (Enc.int .i64) a6 x.c.ends.length c6 x.c.ends ∧ Grew w11 w', ?_, ?_⟩
  · have he6 := hin.at_.e.2.1
    have := two_appends elCloneI (hin.at_.e.grew hg11') (x := 71) (cs := #[.int .i64 71]) rfl (by simp [maxLen]; omega) (by omega) (w := w)
      (K := fun a6 l6 c6 w' => (x.c.kind = x.c.kind ∧ x.c.frm = x.c.frm ∧ x.c.to = x.c.to ∧ x.c.batch = x.c.batch ∧ x.c.att = x.c.att ∧ x.c.code = x.c.code) ∧ l6 = x.c.ends.length ∧ Own w' w11.heap.size 3 (Enc.int .i64) a6 x.c.ends.length c6 x.c.ends ∧ Grew w11 w')
      (fun a' c' w' h1 h2 => ⟨⟨rfl, rfl, rfl, rfl, rfl, rfl⟩, rfl, h1, h2⟩)
    exact this
  rintro n42 n43 n44 n45 n46 n47 a48 l48 c48 a49 l49 c49 a50 l50 c50 w51 ⟨⟨rfl, rfl, rfl, rfl, rfl, rfl⟩, rfl, hoe, hg51⟩
  have hg51' := hg11'.trans hg51
  refine ⟨fun n0 n1 n2 n3 n4 n5 a6 l6 c6 a7 l7 c7 a8 l8 c8 w' => (n0 = x.c.kind ∧ n1 = x.c.frm ∧ n2 = x.c.to ∧ n3 = x.c.batch ∧ n4 = x.c.att ∧ n5 = x.c.code) ∧ (a6 = a48 ∧ l6 = x.c.ends.length ∧ c6 = c48) ∧ l7 = x.c.keys.length ∧ Own w' w51.heap.size 56 (Enc.int .u64) a7 x.c.keys.length c7 x.c.keys ∧ Grew w51 w', ?_, ?_⟩
  · have := two_appends elCloneU (hin.at_.k.grew hg51') (x := 72) (cs := #[.int .u64 72]) rfl (by simp [maxLen]; omega) (by omega) (w := w)
      (K := fun a7 l7 c7 w' => (x.c.kind = x.c.kind ∧ x.c.frm = x.c.frm ∧ x.c.to = x.c.to ∧ x.c.batch = x.c.batch ∧ x.c.att = x.c.att ∧ x.c.code = x.c.code) ∧ (a48 = a48 ∧ x.c.ends.length = x.c.ends.length ∧ c48 = c48) ∧ l7 = x.c.keys.length ∧ Own w' w51.heap.size 56 (Enc.int .u64) a7 x.c.keys.length c7 x.c.keys ∧ Grew w51 w')
      (fun a' c' w' h1 h2 => ⟨⟨rfl, rfl, rfl, rfl, rfl, rfl⟩, ⟨rfl, rfl, rfl⟩, rfl, h1, h2⟩)
    exact this
  rintro n82 n83 n84 n85 n86 n87 a88 l88 c88 a89 l89 c89 a90 l90 c90 w91 ⟨⟨rfl, rfl, rfl, rfl, rfl, rfl⟩, ⟨rfl, rfl, rfl⟩, rfl, hok, hg91⟩
  have hg91' := hg51'.trans hg91
  refine ⟨fun n0 n1 n2 n3 n4 n5 a6 l6 c6 a7 l7 c7 a8 l8 c8 w' => (n0 = x.c.kind ∧ n1 = x.c.frm ∧ n2 = x.c.to ∧ n3 = x.c.batch ∧ n4 = x.c.att ∧ n5 = x.c.code) ∧ (a6 = a88 ∧ l6 = x.c.ends.length ∧ c6 = c88) ∧ (a7 = a89 ∧ l7 = x.c.keys.length ∧ c7 = c89) ∧ l8 = x.c.pairs.length ∧ Own w' w91.heap.size 60 Enc.pair a8 x.c.pairs.length c8 x.c.pairs ∧ Grew w91 w', ?_, ?_⟩
  · have := two_appends elCloneP (hin.at_.p.grew hg91') (x := ⟨73, false, 0⟩) (cs := #[.int .u64 73, .bool false, .int .u64 0]) rfl (by simp [maxLen]; omega) (by omega) (w := w)
      (K := fun a8 l8 c8 w' => (x.c.kind = x.c.kind ∧ x.c.frm = x.c.frm ∧ x.c.to = x.c.to ∧ x.c.batch = x.c.batch ∧ x.c.att = x.c.att ∧ x.c.code = x.c.code) ∧ (a88 = a88 ∧ x.c.ends.length = x.c.ends.length ∧ c88 = c88) ∧ (a89 = a89 ∧ x.c.keys.length = x.c.keys.length ∧ c89 = c89) ∧ l8 = x.c.pairs.length ∧ Own w' w91.heap.size 60 Enc.pair a8 x.c.pairs.length c8 x.c.pairs ∧ Grew w91 w')
      (fun a' c' w' h1 h2 => ⟨⟨rfl, rfl, rfl, rfl, rfl, rfl⟩, ⟨rfl, rfl, rfl⟩, ⟨rfl, rfl, rfl⟩, rfl, h1, h2⟩)
    exact this
  rintro n122 n123 n124 n125 n126 n127 a128 l128 c128 a129 l129 c129 a130 l130 c130 w131 ⟨⟨rfl, rfl, rfl, rfl, rfl, rfl⟩, ⟨rfl, rfl, rfl⟩, ⟨rfl, rfl, rfl⟩, rfl, hop, hg131⟩
  have hg131' := hg91'.trans hg131
  have s51 := hg51.size; have s91 := hg91.size
  obtain ⟨y, hy⟩ : ∃ y : Msg, y = ⟨x.c, (a128, x.c.ends.length, c128), (a129, x.c.keys.length, c129), (a130, x.c.pairs.length, c130)⟩ := ⟨_, rfl⟩
  have hyo : MO w131 w11.heap.size y := by
    subst hy
    exact ⟨hoe.grew (hg91.trans hg131), (hok.grew hg131).base (by omega), hop.base (by omega)⟩
  have hyc : y.c = x.c := by rw [hy]
  have hye : y.e = (a128, x.c.ends.length, c128) := by rw [hy]
  have hyk : y.k = (a129, x.c.keys.length, c129) := by rw [hy]
  have hyp : y.p = (a130, x.c.pairs.length, c130) := by rw [hy]
  have hyv : Value.agg #[.int .i64 x.c.kind, .int .i64 x.c.frm, .int .i64 x.c.to, .int .i64 x.c.batch, .int .i64 x.c.att, .int .i64 x.c.code, .slice a128 x.c.ends.length c128, .slice a129 x.c.keys.length c129, .slice a130 x.c.pairs.length c130] = y.val := by rw [hy]
  rw [hyv]
  clear hy
  have hN131 := hN11.grew (hg51.trans (hg91.trans hg131))
  have hsz : w2.heap.size ≤ w131.heap.size := (hg6.trans (hg11.trans (hg51.trans (hg91.trans hg131)))).size
  have s11 := (hg51.trans (hg91.trans hg131)).size
  have pf := hN11.foot (.inl rfl); have mf := hN11.foot (.inr (.inl rfl))
  have s2 := hg2.size
  have up : ∀ {u v : World}, Upd (fun b => b = p ∨ b = mb) u v → Grew w u → Grew w v := fun hu hg => hg.then_own hu fun b hb => by
    rcases hb with rfl | rfl
    · have := hN6.pB; omega
    · have := hN6.mB; omega
  refine (Send_ok (x := y) hN131 hyo.at (hyc ▸ hin.fits) (by rw [hyc]; omega) (by rw [hyc]; omega) (by rw [hyc]; omega) (by omega) hsz).use fun v w132 hP => ?_
  rcases hP with ⟨hs, hv, hg132⟩ | ⟨hs, ⟨hge, -⟩ | ⟨-, hv, y1, hy1, hy1b, hN132, hu132⟩⟩
  · subst hv
    refine ⟨_, _, rfl, fun _ => ⟨fun _ => ?_, fun h => (by simp at h)⟩, fun h => (by simp at h)⟩
    have hN132 := hN131.grew hg132
    refine (Next_ok hN132).use fun v w137 ⟨hv, hw⟩ => ?_
    subst hv; subst hw
    refine ⟨_, rfl, fun _ => ?_, fun h => (by simp at h)⟩
    refine (NFlights_ok hN132).use fun v w141 ⟨a143, l143, c143, Ls, hv, hLo, hLc, _, hg141⟩ => ?_
    subst hv
    have hl := hLo.len
    have hl2 := congrArg List.length hLc
    rw [conts_len] at hl2
    simp [conts] at hl2
    refine ⟨_, _, _, rfl, _, rfl, ?_, hg131'.trans (hg132.trans hg141)⟩
    subst hl2; simp at hl; subst hl; rfl
  · simp at hge
  subst hv
  rw [hyc] at hs hy1
  have hsm := soundMsg_small hs
  have hN132 : NetAt w132 w2.heap.size p mb 9 1 [(0, y1)] := hN132
  have hg132 := up hu132 hg131'
  have hynf : ∀ b, y.Blk b → ¬ NFoot p mb [(0, y1)] b := by
    intro b hb hn
    have h1 := hyo.blk hb
    rcases hn with rfl | rfl | ⟨z, hz, hzb⟩
    · omega
    · omega
    · simp at hz; subst hz; have := hy1b b hzb; omega
  have hyo132 : MO w132 w11.heap.size y := hyo.upd hu132 fun b hb h => hynf b hb (by rcases h with rfl | rfl; exact .inl rfl; exact .inr (.inl rfl))
  refine ⟨_, _, rfl, fun h => (by simp at h), fun _ => ?_⟩
  refine (same_ok (x := y) (y := x) hyo132.at (hin.at_.grew hg132) hyc (hyc ▸ hin.fits) (by rw [hyc]; omega) (by rw [hyc]; omega) (by rw [hyc]; omega)).use fun v w145 ⟨hv, hg145⟩ => ?_
  subst hv
  have hyo145 := hyo132.grew hg145
  have hN145 := hN132.grew hg145
  have hg145' := hg132.trans hg145
  have hOe := hyo145.e; have hOk := hyo145.k; have hOp := hyo145.p
  rw [hye] at hOe; rw [hyk] at hOk; rw [hyp] at hOp
  refine ⟨_, rfl, fun h => (by cases h), fun _ => fill_loop (S := y.Blk) (E := Enc.int .i64) (Over.refl _ _) hOe (fun b hb => .inl (by rw [hye]; exact hb)) rfl fun w157 h157 =>
    fill_loop (S := y.Blk) (E := Enc.int .u64) h157 hOk (fun b hb => .inr (.inl (by rw [hyk]; exact hb))) rfl fun w163 h163 =>
    fill_loop (S := y.Blk) (E := Enc.pair) h163 hOp (fun b hb => .inr (.inr (by rw [hyp]; exact hb))) rfl fun w169 h169 => ?_⟩
  have hN169 := hN145.upd h169.1 fun b hb h => hynf b h hb
  have hg169 : Grew w w169 := hg145'.then_own h169.1 fun b hb => by have := (hyo.blk hb).1; have := hg11'.size; omega
  have hB169 : w2.heap.size ≤ w169.heap.size := by have := (hN169.foot (.inl rfl)); omega
  refine (Copy_ok (k := 0) hN169 (by omega) hB169).use fun v w170 hP => ?_
  have hP : Put w169 w2.heap.size p mb 9 1 [(0, y1)] y1.c v w170 := hP
  rcases hP with ⟨hge, -⟩ | ⟨-, hv, y2, hy2, -, hN170, hu170⟩
  · simp at hge
  subst hv
  have hN170 : NetAt w170 w2.heap.size p mb 9 2 [(0, y1), (1, y2)] := hN170
  have hg170 := up hu170 hg169
  refine ⟨_, _, rfl, ?_⟩
  refine (NFlights_ok hN170).use fun v w172 ⟨a174, l174, c174, Ls, hv, hLo, hLc, hLm, hg172⟩ => ?_
  subst hv
  refine ⟨_, _, _, rfl, fun w176 hg176 => ⟨fun h => (by simp at h), fun _ => ?_⟩⟩
  have hcc : Ls.map (fun z => (z.1, z.2.c)) = [(0, x.c), (1, x.c)] := by
    have : conts Ls = _ := hLc
    simpa [conts, hy1, hy2] using this
  obtain ⟨z0, z1, rfl⟩ := two_of hcc
  simp only [List.map_cons, List.map_nil, List.cons.injEq, Prod.mk.injEq, and_true] at hcc
  obtain ⟨⟨hz0n, hz0c⟩, hz1n, hz1c⟩ := hcc
  have hl174 : l174 = 2 := hLo.len
  subst hl174
  have hLm176 := hLm.grew hg176
  have hLo176 := hLo.grew hg176
  have hN176 := hN170.grew (hg172.trans hg176)
  have hg176' := hg170.trans (hg172.trans hg176)
  obtain ⟨d, z0', hd, hz0', hc0⟩ := hLo176.reads.at0 (k := 0) (by omega)
  obtain ⟨d', z1', hd', hz1', hc1⟩ := hLo176.reads.at0 (k := 1) (by omega)
  simp at hz0' hz1'
  subst hz0'; subst hz1'
  subst hd; cases hd'
  have hm0 := hLm176.own z0 (by simp)
  have hm1 := hLm176.own z1 (by simp)
  obtain ⟨-, hf0⟩ := fl_cells hc0
  obtain ⟨-, hf1⟩ := fl_cells hc1
  have hf0 : CellsAt w176 (Addr.add d 1) 0 z0.2.vals := by simpa [Addr.add_zero'] using hf0
  have hf1 : CellsAt w176 (Addr.add (Addr.add d 10) 1) 0 z1.2.vals := by simpa using hf1
  have hd0' := World.block_lt_of_cell? w176 _ hf0.1
  have hd0 : d.block < w176.heap.size := hd0'
  refine ⟨fun h => (by simp at h), fun _ => ⟨⟨by omega, by omega⟩, _, _, _, _, _, _, _, _, _, _, _, _, _, _, _, hf0, ?_⟩⟩
  refine (same_ok (x := z0.2) (y := x) hm0.at (hin.at_.grew hg176') hz0c (hz0c ▸ hin.fits) (by rw [hz0c]; omega) (by rw [hz0c]; omega) (by rw [hz0c]; omega)).use' fun v w187 ⟨hv, hg187⟩ => ?_
  subst hv
  have b0 : w187.heap[d.block]? = w176.heap[d.block]? := hg187.block _ hd0
  refine ⟨_, rfl, ⟨b0, trivial⟩, fun h => (by cases h), fun _ => ⟨⟨by omega, by omega⟩, _, _, _, _, _, _, _, _, _, _, _, _, _, _, _, hf1.grew hg187, ?_⟩⟩
  refine (same_ok (x := z1.2) (y := x) (hm1.grew hg187).at (hin.at_.grew (hg176'.trans hg187)) hz1c (hz1c ▸ hin.fits) (by rw [hz1c]; omega) (by rw [hz1c]; omega) (by rw [hz1c]; omega)).use' fun v w201 ⟨hv, hg201⟩ => ?_
  subst hv
  have hg201a := hg187.trans hg201
  have b1 : w201.heap[d.block]? = w187.heap[d.block]? := hg201.block _ (Nat.lt_of_lt_of_le hd0 hg187.size)
  have hN201 := hN176.grew hg201a
  have hg201' := hg176'.trans hg201a
  have hLo201 := hLo176.grew hg201a
  have hLm201 := hLm176.grew hg201a
  refine ⟨_, rfl, ⟨b1, b1, trivial⟩, fun h => (by cases h), fun _ => ?_⟩
  have hfree : ∀ b, Feet [z0, z1] b → ¬ Blk (some d) b := by
    rintro b ⟨z, hz, hzb⟩
    exact row_not_own hLo201 (hLm201.own z hz) (by decide) (by decide) (by decide) b hzb
  have hnf : ∀ b, Feet [z0, z1] b → ¬ NFoot p mb [(0, y1), (1, y2)] b := fun b hb hn => by
    have h1 := (hLm.blk hb).1
    have h2 := (hN170.foot hn).2
    omega
  have hrd : ∀ {w2}, Over (Feet [z0, z1]) w201 w2 → ∀ (k : Nat) (z : Int × Msg), k < 2 → [z0, z1][k]? = some z → w2.cell? (Addr.add (Addr.add (Addr.add d (((k : Nat) : Int).toNat * 10)) 1) 6) = some (.slice z.2.e.1 z.2.e.2.1 z.2.e.2.2) ∧ w2.cell? (Addr.add (Addr.add (Addr.add d (((k : Nat) : Int).toNat * 10)) 1) 7) = some (.slice z.2.k.1 z.2.k.2.1 z.2.k.2.2) ∧ w2.cell? (Addr.add (Addr.add (Addr.add d (((k : Nat) : Int).toNat * 10)) 1) 8) = some (.slice z.2.p.1 z.2.p.2.1 z.2.p.2.2) := by
    intro w2 h k z hk hz
    obtain ⟨d2, z2, hd2, hz2, hc2⟩ := (hLo201.upd h.1 fun b hb hf => hfree b hf hb).reads.at0 (k := k) hk
    cases hd2
    rw [hz] at hz2; cases hz2
    exact fl_own hc2
  refine ⟨fun i w' => ∃ k : Nat, i = k ∧ k ≤ 2 ∧ Over (Feet [z0, z1]) w201 w', fun i _ => 2 - i.toNat, ⟨0, rfl, Nat.zero_le _, Over.refl _ _⟩, ?_⟩
  rintro i w207 ⟨k, rfl, hk2, h207⟩
  refine ⟨fun hlt => ?_, fun _ => ?_⟩
  · simp only [decide_eq_true_eq] at hlt
    have hw : IntKind.i64.wrap ((k : Int) + 1) = ((k + 1 : Nat) : Int) := by rw [IntKind.wrap_i64]; omega
    have hklt : k < 2 := by omega
    obtain ⟨z, hz⟩ : ∃ z, [z0, z1][k]? = some z := ⟨_, List.getElem?_eq_getElem (by simpa using hklt)⟩
    have hzm := List.mem_of_getElem? hz
    have hzo := hLm201.own z hzm
    refine fill_at (S := Feet [z0, z1]) (E := Enc.int .i64) (ar := some d) (dr := d) (i0 := (k : Int)) (n0 := 2) (vs := [.int .i64 210]) (A := fun d => Addr.add (Addr.add (Addr.add d (((k : Nat) : Int).toNat * 10)) 1) 6) h207 hzo.e (fun b hb => ⟨z, hzm, .inl hb⟩) rfl rfl ⟨by omega, by omega⟩ (fun w2 h => (hrd h k z hklt hz).1) ?_
    intro w220 h220
    refine fill_at (S := Feet [z0, z1]) (E := Enc.pair) (ar := some d) (dr := d) (i0 := (k : Int)) (n0 := 2) (vs := [.int .u64 0, .bool false, .int .u64 0]) (A := fun d => Addr.add (Addr.add (Addr.add d (((k : Nat) : Int).toNat * 10)) 1) 8) h220 hzo.p (fun b hb => ⟨z, hzm, .inr (.inr hb)⟩) rfl rfl ⟨by omega, by omega⟩ (fun w2 h => (hrd h k z hklt hz).2.2) ?_
    intro w230 h230
    refine fill_at (S := Feet [z0, z1]) (E := Enc.int .u64) (ar := some d) (dr := d) (i0 := (k : Int)) (n0 := 2) (vs := [.int .u64 211]) (A := fun d => Addr.add (Addr.add (Addr.add d (((k : Nat) : Int).toNat * 10)) 1) 7) h230 hzo.k (fun b hb => ⟨z, hzm, .inr (.inl hb)⟩) rfl rfl ⟨by omega, by omega⟩ (fun w2 h => (hrd h k z hklt hz).2.1) ?_
    intro w240 h240
    intro n238 hn238
    subst hn238
    rw [hw]
    exact ⟨⟨k + 1, rfl, by omega, h240⟩, by show 2 - (((k + 1 : Nat) : Int)).toNat < 2 - ((k : Int)).toNat; omega⟩
  have hN207 := hN201.upd h207.1 fun b hb h => hnf b h hb
  have hg207 : Grew w w207 := hg201'.then_own h207.1 fun b hb => by have := (hLm.blk hb).1; have := hg170.size; omega
  refine (Deliver_ok (k := 0) hN207).use fun v w239 ⟨y', e, hv, hG⟩ => ?_
  obtain ⟨hye', rfl, hN239, hx1, hxs1, hxn1, hu239⟩ : y' = y1 ∧ e = 0 ∧ NetAt w239 w2.heap.size p mb 9 2 [(1, y2)] ∧ MO w239 w2.heap.size y1 ∧ (soundMsg y1.c = true ∧ y1.c.Fits) ∧ (∀ b, y1.Blk b → Feet [(0, y1), (1, y2)] b ∧ ¬ NFoot p mb [(1, y2)] b) ∧ Upd (fun b => b = mb) w207 w239 := hG
  subst hye'
  subst hv
  have hg239 := up (hu239.mono fun b _ hb => .inr hb) hg207
  refine ⟨_, _, _, _, _, _, _, _, _, _, _, _, _, _, _, _, rfl, fun w252 hg252 => ⟨fun h => (by simp at h), fun _ => ?_⟩⟩
  have hg252' := hg239.trans hg252
  have hx252 := hx1.grew hg252
  have hN252 := hN239.grew hg252
  refine (same_ok (x := y') (y := x) hx252.at (hin.at_.grew hg252') hy1 hxs1.2 (by rw [hy1]; omega) (by rw [hy1]; omega) (by rw [hy1]; omega)).use fun v w253 ⟨hv, hg253⟩ => ?_
  subst hv
  have hx253 := hx252.grew hg253
  have hN253 := hN252.grew hg253
  have hg253' := hg252'.trans hg253
  refine ⟨_, rfl, fun h => (by cases h), fun _ => fill_loop (S := y'.Blk) (E := Enc.int .i64) (Over.refl _ _) hx253.e (fun b hb => .inl hb) rfl fun w265 h265 =>
    fill_loop (S := y'.Blk) (E := Enc.pair) h265 hx253.p (fun b hb => .inr (.inr hb)) rfl fun w271 h271 =>
    fill_loop (S := y'.Blk) (E := Enc.int .u64) h271 hx253.k (fun b hb => .inr (.inl hb)) rfl fun w275 h275 => ?_⟩
  have hN275 := hN253.upd h275.1 fun b hb h => (hxn1 b h).2 hb
  have hg275 : Grew w w275 := hg253'.then_own h275.1 fun b hb => by have := (hx253.blk hb).1; omega
  refine (Deliver_ok (k := 1) hN275).use fun v w280 ⟨y', e, hv, hG⟩ => ?_
  obtain ⟨hye', rfl, hN280, hx2, hxs2, -, hu280⟩ : y' = y2 ∧ e = 0 ∧ NetAt w280 w2.heap.size p mb 9 2 [] ∧ MO w280 w2.heap.size y2 ∧ (soundMsg y2.c = true ∧ y2.c.Fits) ∧ (∀ b, y2.Blk b → Feet [(1, y2)] b ∧ ¬ NFoot p mb [] b) ∧ Upd (fun b => b = mb) w275 w280 := hG
  subst hye'
  subst hv
  have hg280 := up (hu280.mono fun b _ hb => .inr hb) hg275
  refine ⟨_, _, _, _, _, _, _, _, _, _, _, _, _, _, _, _, rfl, fun w288 hg288 => ⟨fun _ => ?_, fun h => (by simp at h)⟩⟩
  have hg288' := hg280.trans hg288
  have hcx : y'.c = x.c := by rw [hy2, hy1]
  refine (same_ok (x := y') (y := x) (hx2.grew hg288).at (hin.at_.grew hg288') hcx hxs2.2 (by rw [hcx]; omega) (by rw [hcx]; omega) (by rw [hcx]; omega)).use fun v w289 ⟨hv, hg289⟩ => ?_
  subst hv
  exact ⟨_, rfl, _, rfl, rfl, hg288'.trans hg289⟩

section
variable {H : Type} {enc : TypeId × Value → H}
open Go.ChangeShapes Go.WideShapes Go.RowKit
theorem openMsg {ts : List TypeId} {ds : List (DataW H)} (hz : (DataW.weightsEach Try.prog ts ds).all (· ≤ reachBytes) = true) {j : Nat} (htj : ts[j]? = some 35) {dt : DataW H} (hdj : ds[j]? = some dt) {w : World} {spare : Nat → Bool} {held : Bool} {v : Value} {ps : List MemPlace}
    {r : Reach} {b0 : Nat} (hval : Value.okWide Try.prog w r b0 35 v) (h : DataW.Trod enc Try.prog w 0 spare held 35 v dt ps) :
    ∃ m : Msg, v = m.val ∧ MsgIn w m :=
  arg_struct hz htj hdj (by kernel_rfl) msg_kinds hval h (E := Enc.msg) msg_of
end

open Go.ChangeShapes Go.WideShapes Go.ChangeAt Go.RowKit
set_option maxRecDepth 100000 in
theorem netMemory_lifted (os : Os) (started : os.Started) (H : Type) (enc : TypeId × Value → H) :
    ReturnsInHanded {} Try.checked os 5 .any (Rows.netMemorySpec.pre6 enc Try.prog Try.f5 Rows.netMemoryRow.domain false) (Rows.netMemorySpec.post enc Try.prog Try.f5 false true false false) := by
  refine returnsInHanded_of_change_sized (C := Try.checked) (by kernel_rfl) started (by kernel_rfl) Try.func5
    (ChangeSpec.witness6 (enc := enc) (C := Try.checked) false ⟨#[], #[.agg msg0.vals.toArray], []⟩ 8 (by kernel_rfl) (by kernel_rfl) (by kernel_rfl) (by kernel_rfl)) ?_
  intro W base args ds gs before hval0 hW hcnd hsz0 _
  have hval : ∀ (j : Nat) t v, Try.f5.params[j]? = some t → args[j]? = some v → Value.okWide Try.prog W .any base t v := hval0
  have hW' := hW
  obtain ⟨p, q, hA0, hV, rfl, hfz, hnd⟩ := hW
  have hA : DataW.TrodAll enc Try.prog W 0 (fun _ => true) true Try.f5.params.toList args.toList ds p := hA0
  have hsz : (DataW.weightsEach Try.prog (Try.f5.params.toList ++ _) (ds ++ gs)).all (· ≤ reachBytes) = true := hsz0
  rw [show Try.f5.params = #[35] from by kernel_rfl] at hA hval hsz
  have hA1 := hA
  obtain ⟨v0, vs0, d0, ds0, p0, q0, hargs, rfl, rfl, h0, r0⟩ := trodAll_cons hA
  obtain ⟨rfl, rfl, rfl⟩ := trodAll_nil r0
  obtain rfl : args = #[v0] := by cases args; simp_all
  obtain ⟨m0, rfl, hm0⟩ := openMsg (j := 0) hsz rfl rfl (hval 0 35 v0 rfl rfl) h0
  clear hA0 hA1 hval0 hsz0
  refine (CallsW.calls ⟨_, Try.func5, by kernel_rfl, by kernel_rfl⟩ (NetMemory_ok hm0)).mono fun e W' ⟨w', hh, hk, v, he, hv, hg⟩ => ?_
  subst he; subst hv
  exact ⟨_, rfl, post_true (tb := 4) (by kernel_rfl) rfl (by kernel_rfl) (by kernel_rfl) ⟨rfl, rfl, rfl⟩ (by decide +kernel) hW' (below_of hg hh hk)⟩

theorem netMemory_holds : Rows.NetMemorySaid :=
  OpenClaim.holds_of_wide 5 Try.f5 rfl rfl rfl rfl rfl rfl rfl ⟨rfl, rfl, rfl, rfl, rfl⟩ rfl rfl rfl rfl rfl (by kernel_rfl) Try.func5 (by kernel_rfl)
    (of_decide_eq_true (by kernel_rfl)) (by unfold Func.isWrapper; first | (rw [if_pos (by decide +kernel)]; kernel_rfl) | (rw [if_neg (by decide +kernel)]; exact ⟨rfl, rfl⟩))
    (fun os started H enc _ => netMemory_lifted os started H enc)
end Go.Proofs.Ytlkfkcgnlnbdeaa
