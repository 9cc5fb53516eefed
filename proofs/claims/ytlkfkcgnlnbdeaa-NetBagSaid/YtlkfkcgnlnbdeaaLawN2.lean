/- NetBag: what it computes, and its row. Conditions: none. -/
import Derived.Test.YtlkfkcgnlnbdeaaProg
import Derived.Test.YtlkfkcgnlnbdeaaKindsN
import Derived.Test.YtlkfkcgnlnbdeaaSxNb
import Derived.Test.YtlkfkcgnlnbdeaaRows
namespace Go.Proofs.Ytlkfkcgnlnbdeaa
open Go.Sx
set_option maxRecDepth 100000
set_option linter.unusedVariables false
set_option linter.unusedSimpArgs false
/- reprise/repriselaw16.NetBag -/
def sx4 (d : Int) (i : Option Addr) (i_n i_c : Nat) (R : Ending → World → Prop) (w : World) : Prop :=
  CallsW Try.prog 7 [] w (RetR R fun u2 w1 => ∃ (b3 : Bool), u2 = .bool b3 ∧ (((!b3) = true → R (.returned (.bool false)) w1) ∧ ((!b3) = false → CallsW Try.prog 8 [.int .i64 d] w1 (RetR R fun u6 w5 => ∃ (p7 : Option Addr)
    (n8 : Int), u6 = .tuple #[.pointer p7, .int .i64 n8] ∧ (((n8 != 0) = true → (((n8 == 1) = true → (((Option.isNone p7) = true → (((decide (d < 0)) = true → R (.returned (.bool true)) w5) ∧ ((decide (d < 0)) = false → R
    (.returned (.bool (decide (d > 4096)))) w5))) ∧ ((Option.isNone p7) = false → R (.returned (.bool false)) w5))) ∧ ((n8 == 1) = false → R (.returned (.bool false)) w5))) ∧ ((n8 != 0) = false → ∃ (J10 : Option Addr →
    Nat → Nat → Option Addr → Nat → Nat → Int → World → Prop), (∃ (I11 : Option Addr → Nat → Nat → Option Addr → Nat → Nat → Int → Int → World → Prop) (m11 : Option Addr → Nat → Nat → Option Addr → Nat → Nat → Int → Int →
    World → Nat), I11 none 0 0 none 0 0 0 0 w5 ∧ ∀ (a12 : Option Addr) (l12 c12 : Nat) (a13 : Option Addr) (l13 c13 : Nat) (n14 : Int) (n15 : Int) (w16 : World), I11 a12 l12 c12 a13 l13 c13 n14 n15 w16 → (((decide (n15 <
    ((i_n : Nat) : Int))) = true → (((decide (n15 < 2000)) = true → withSome i (fun d17 => (0 ≤ n15 ∧ n15 < (i_n : Nat)) ∧ ∃ (n18 : Int) (n19 : Int) (n20 : Int) (n21 : Int) (n22 : Int) (n23 : Int) (n24 : Int) (n25 : Int)
    (n26 : Int) (a27 : Option Addr) (l27 c27 : Nat) (a28 : Option Addr) (l28 c28 : Nat) (a29 : Option Addr) (l29 c29 : Nat), CellsAt w16 (Addr.add d17 (n15.toNat * 12)) 0 [.int .i64 n18, .int .i64 n19, .int .i64 n20, .int
    .i64 n21, .int .i64 n22, .int .i64 n23, .int .i64 n24, .int .i64 n25, .int .i64 n26, .slice a27 l27 c27, .slice a28 l28 c28, .slice a29 l29 c29] ∧ ∀ w30, Grew w16 w30 → ∃ (J31 : Bool → World → Prop), ((((decide (n20 ≥
    0)) = true → (((decide (n20 < ((l12 : Nat) : Int))) = true → withSome a13 (fun d32 => (0 ≤ n20 ∧ n20 < (l13 : Nat)) ∧ ∃ (b33 : Bool), w30.cell? (Addr.add d32 (n20.toNat * 1)) = some (.bool b33) ∧ J31 (!b33) w30)) ∧
    ((decide (n20 < ((l12 : Nat) : Int))) = false → J31 false w30))) ∧ ((decide (n20 ≥ 0)) = false → J31 false w30))) ∧ ∀ (b34 : Bool) (w35 : World), J31 b34 w35 → ∃ (J36 : Option Addr → Nat → Nat → Option Addr → Nat →
    Nat → Int → World → Prop), (∃ (J37 : Bool → World → Prop), ((((n18 == 1) = true → J37 (n18 == 1) w35) ∧ ((n18 == 1) = false → J37 (n18 == 4) w35))) ∧ ∀ (b38 : Bool) (w39 : World), J37 b38 w39 → ((b38 = true → ∀ w40,
    Grew w39 w40 → ∃ (J41 : Int → Int → World → Prop), ((((n18 == 1) = true → CallsW Try.prog 16 [.pointer p7, .agg #[.int .i64 n21, .int .i64 n22, .int .i64 n23, .int .i64 n24, .int .i64 n25, .int .i64 n26, .slice a27
    l27 c27, .slice a28 l28 c28, .slice a29 l29 c29]] w40 (RetR R fun u43 w42 => ∃ (n44 : Int) (n45 : Int), u43 = .tuple #[.int .i64 n44, .int .i64 n45] ∧ J41 n44 n45 w42)) ∧ ((n18 == 1) = false → CallsW Try.prog 17
    [.pointer p7, .int .i64 n20] w40 (RetR R fun u48 w47 => ∃ (n49 : Int) (n50 : Int), u48 = .tuple #[.int .i64 n49, .int .i64 n50] ∧ J41 n49 n50 w47)))) ∧ ∀ (n52 : Int) (n53 : Int) (w54 : World), J41 n52 n53 w54 → ∃ (J55
    : Int → World → Prop), (∃ (J56 : Bool → World → Prop), ((((n18 == 4) = true → J56 (!b34) w54) ∧ ((n18 == 4) = false → J56 false w54))) ∧ ∀ (b57 : Bool) (w58 : World), J56 b57 w58 → ((b57 = true → J55 161 w58) ∧ (b57 =
    false → ∃ (J59 : Bool → World → Prop), ((((n18 == 1) = true → CallsW Try.prog 18 [.agg #[.int .i64 n21, .int .i64 n22, .int .i64 n23, .int .i64 n24, .int .i64 n25, .int .i64 n26, .slice a27 l27 c27, .slice a28 l28
    c28, .slice a29 l29 c29]] w58 (RetR R fun u61 w60 => ∃ (b62 : Bool), u61 = .bool b62 ∧ J59 (!b62) w60)) ∧ ((n18 == 1) = false → J59 false w58))) ∧ ∀ (b64 : Bool) (w65 : World), J59 b64 w65 → ((b64 = true → J55 150
    w65) ∧ (b64 = false → (((decide (n14 ≥ d)) = true → J55 160 w65) ∧ ((decide (n14 ≥ d)) = false → J55 0 w65))))))) ∧ ∀ (n66 : Int) (w67 : World), J55 n66 w67 → ∃ (J68 : Bool → World → Prop), ((((n53 != n66) = true →
    J68 true w67) ∧ ((n53 != n66) = false → (((n53 != 0) = true → J68 (n52 != 0) w67) ∧ ((n53 != 0) = false → J68 false w67))))) ∧ ∀ (b69 : Bool) (w70 : World), J68 b69 w70 → ((b69 = true → R (.returned (.bool false))
    w70) ∧ (b69 = false → (((n53 == 0) = true → ∃ (J71 : Int → Int → Int → Int → Int → Int → Option Addr → Nat → Nat → Option Addr → Nat → Nat → Option Addr → Nat → Nat → World → Prop), ((((n18 == 4) = true → withSome a12
    (fun d72 => (0 ≤ n20 ∧ n20 < (l12 : Nat)) ∧ ∃ (n73 : Int) (n74 : Int) (n75 : Int) (n76 : Int) (n77 : Int) (n78 : Int) (a79 : Option Addr) (l79 c79 : Nat) (a80 : Option Addr) (l80 c80 : Nat) (a81 : Option Addr) (l81
    c81 : Nat), CellsAt w70 (Addr.add d72 (n20.toNat * 9)) 0 [.int .i64 n73, .int .i64 n74, .int .i64 n75, .int .i64 n76, .int .i64 n77, .int .i64 n78, .slice a79 l79 c79, .slice a80 l80 c80, .slice a81 l81 c81] ∧ J71 n73
    n74 n75 n76 n77 n78 a79 l79 c79 a80 l80 c80 a81 l81 c81 w70)) ∧ ((n18 == 4) = false → J71 n21 n22 n23 n24 n25 n26 a27 l27 c27 a28 l28 c28 a29 l29 c29 w70))) ∧ ∀ (n82 : Int) (n83 : Int) (n84 : Int) (n85 : Int) (n86 :
    Int) (n87 : Int) (a88 : Option Addr) (l88 c88 : Nat) (a89 : Option Addr) (l89 c89 : Nat) (a90 : Option Addr) (l90 c90 : Nat) (w91 : World), J71 n82 n83 n84 n85 n86 n87 a88 l88 c88 a89 l89 c89 a90 l90 c90 w91 → (((n52
    != ((l12 : Nat) : Int)) = true → R (.returned (.bool false)) w91) ∧ ((n52 != ((l12 : Nat) : Int)) = false → ∀ (b92 : Nat) (w93 : World), Alloc w91 w93 b92 (.cells #[.int .i64 n82, .int .i64 n83, .int .i64 n84, .int
    .i64 n85, .int .i64 n86, .int .i64 n87, .slice a88 l88 c88, .slice a89 l89 c89, .slice a90 l90 c90] 35) → SemW Try.prog (Builtin.append_ #[44, 44] 44 #[.slice a12 l12 c12, .slice (some ⟨b92, 0, none⟩) 1 1]) (fun u95
    w94 => ∃ (a96 : Option Addr) (l96 c96 : Nat), u95 = .slice a96 l96 c96 ∧ ∀ (b97 : Nat) (w98 : World), Alloc w94 w98 b97 (.cells #[.bool false] 4) → SemW Try.prog (Builtin.append_ #[45, 45] 45 #[.slice a13 l13 c13,
    .slice (some ⟨b97, 0, none⟩) 1 1]) (fun u100 w99 => ∃ (a101 : Option Addr) (l101 c101 : Nat), u100 = .slice a101 l101 c101 ∧ J36 a96 l96 c96 a101 l101 c101 (IntKind.i64.wrap (n14 + 1)) w99) w98) w93))) ∧ ((n53 == 0) =
    false → J36 a12 l12 c12 a13 l13 c13 n14 w70))))) ∧ (b38 = false → ∃ (J102 : Bool → World → Prop), ((((n18 == 2) = true → J102 (n18 == 2) w39) ∧ ((n18 == 2) = false → J102 (n18 == 3) w39))) ∧ ∀ (b103 : Bool) (w104 :
    World), J102 b103 w104 → ((b103 = true → ∀ w105, Grew w104 w105 → ∃ (J106 : Int → Int → Int → Int → Int → Int → Int → Option Addr → Nat → Nat → Option Addr → Nat → Nat → Option Addr → Nat → Nat → World → Prop),
    ((((n18 == 2) = true → CallsW Try.prog 19 [.pointer p7, .int .i64 n20] w105 (RetR R fun u108 w107 => ∃ (n109 : Int) (n110 : Int) (n111 : Int) (n112 : Int) (n113 : Int) (n114 : Int) (a115 : Option Addr) (l115 c115 :
    Nat) (a116 : Option Addr) (l116 c116 : Nat) (a117 : Option Addr) (l117 c117 : Nat) (n118 : Int), u108 = .tuple #[.agg #[.int .i64 n109, .int .i64 n110, .int .i64 n111, .int .i64 n112, .int .i64 n113, .int .i64 n114,
    .slice a115 l115 c115, .slice a116 l116 c116, .slice a117 l117 c117], .int .i64 n118] ∧ J106 n118 n109 n110 n111 n112 n113 n114 a115 l115 c115 a116 l116 c116 a117 l117 c117 w107)) ∧ ((n18 == 2) = false → CallsW
    Try.prog 20 [.pointer p7, .int .i64 n20] w105 (RetR R fun u121 w120 => ∃ (n122 : Int), u121 = .int .i64 n122 ∧ J106 n122 0 0 0 0 0 0 none 0 0 none 0 0 none 0 0 w120)))) ∧ ∀ (n124 : Int) (n125 : Int) (n126 : Int) (n127
    : Int) (n128 : Int) (n129 : Int) (n130 : Int) (a131 : Option Addr) (l131 c131 : Nat) (a132 : Option Addr) (l132 c132 : Nat) (a133 : Option Addr) (l133 c133 : Nat) (w134 : World), J106 n124 n125 n126 n127 n128 n129
    n130 a131 l131 c131 a132 l132 c132 a133 l133 c133 w134 → ∃ (J135 : Bool → World → Prop), ((((!((n124 == 0) == b34)) = true → J135 true w134) ∧ ((!((n124 == 0) == b34)) = false → (((n124 != 0) = true → J135 (n124 !=
    161) w134) ∧ ((n124 != 0) = false → J135 false w134))))) ∧ ∀ (b136 : Bool) (w137 : World), J135 b136 w137 → ((b136 = true → R (.returned (.bool false)) w137) ∧ (b136 = false → ((b34 = true → ∃ (J138 : Bool → World →
    Prop), (∀ w139, Grew w137 w139 → (((n18 == 2) = true → withSome a12 (fun d140 => (0 ≤ n20 ∧ n20 < (l12 : Nat)) ∧ ∃ (n141 : Int) (n142 : Int) (n143 : Int) (n144 : Int) (n145 : Int) (n146 : Int) (a147 : Option Addr)
    (l147 c147 : Nat) (a148 : Option Addr) (l148 c148 : Nat) (a149 : Option Addr) (l149 c149 : Nat), CellsAt w139 (Addr.add d140 (n20.toNat * 9)) 0 [.int .i64 n141, .int .i64 n142, .int .i64 n143, .int .i64 n144, .int
    .i64 n145, .int .i64 n146, .slice a147 l147 c147, .slice a148 l148 c148, .slice a149 l149 c149] ∧ CallsW Try.prog 21 [.agg #[.int .i64 n125, .int .i64 n126, .int .i64 n127, .int .i64 n128, .int .i64 n129, .int .i64
    n130, .slice a131 l131 c131, .slice a132 l132 c132, .slice a133 l133 c133], .agg #[.int .i64 n141, .int .i64 n142, .int .i64 n143, .int .i64 n144, .int .i64 n145, .int .i64 n146, .slice a147 l147 c147, .slice a148
    l148 c148, .slice a149 l149 c149]] w139 (Ret (fun u151 w150 => ∃ (b152 : Bool), u151 = .bool b152 ∧ SameB w139 w150 [(Addr.add d140 (n20.toNat * 9))] ∧ J138 (!b152) w150) (fun c153 w150 => False)))) ∧ ((n18 == 2) =
    false → J138 false w139))) ∧ ∀ (b154 : Bool) (w155 : World), J138 b154 w155 → ((b154 = true → R (.returned (.bool false)) w155) ∧ (b154 = false → withSome a13 (fun d156 => (0 ≤ n20 ∧ n20 < (l13 : Nat)) ∧ RoomAt w155
    (Addr.add d156 (n20.toNat * 1)) 0 [.bool true] ∧ ∀ w157, w157 = setCells w155 (Addr.add d156 (n20.toNat * 1)) 0 [.bool true] → J36 a12 l12 c12 a13 l13 c13 (IntKind.i64.wrap (n14 - 1)) w157)))) ∧ (b34 = false → J36 a12
    l12 c12 a13 l13 c13 n14 w137))))) ∧ (b103 = false → J36 a12 l12 c12 a13 l13 c13 n14 w104))))) ∧ ∀ (a158 : Option Addr) (l158 c158 : Nat) (a159 : Option Addr) (l159 c159 : Nat) (n160 : Int) (w161 : World), J36 a158
    l158 c158 a159 l159 c159 n160 w161 → ∃ (J162 : Bool → World → Prop), (CallsW Try.prog 14 [.pointer p7] w161 (RetR R fun u164 w163 => ∃ (n165 : Int), u164 = .int .i64 n165 ∧ (((n165 != ((l158 : Nat) : Int)) = true →
    J162 true w163) ∧ ((n165 != ((l158 : Nat) : Int)) = false → J162 (decide (n160 > d)) w163)))) ∧ ∀ (b167 : Bool) (w168 : World), J162 b167 w168 → ((b167 = true → R (.returned (.bool false)) w168) ∧ (b167 = false → (I11
    a158 l158 c158 a159 l159 c159 n160 (IntKind.i64.wrap (n15 + 1)) w168 ∧ m11 a158 l158 c158 a159 l159 c159 n160 (IntKind.i64.wrap (n15 + 1)) w168 < m11 a12 l12 c12 a13 l13 c13 n14 n15 w16))))) ∧ ((decide (n15 < 2000)) =
    false → J10 a12 l12 c12 a13 l13 c13 n14 w16))) ∧ ((decide (n15 < ((i_n : Nat) : Int))) = false → J10 a12 l12 c12 a13 l13 c13 n14 w16))) ∧ ∀ (a169 : Option Addr) (l169 c169 : Nat) (a170 : Option Addr) (l170 c170 : Nat)
    (n171 : Int) (w172 : World), J10 a169 l169 c169 a170 l170 c170 n171 w172 → CallsW Try.prog 12 [.pointer p7] w172 (RetR R fun u174 w173 => ∃ (a175 : Option Addr) (l175 c175 : Nat), u174 = .slice a175 l175 c175 ∧
    (((((l175 : Nat) : Int) != n171) = true → R (.returned (.bool false)) w173) ∧ ((((l175 : Nat) : Int) != n171) = false → ∃ (I177 : Int → Int → World → Prop) (m177 : Int → Int → World → Nat), I177 0 0 w173 ∧ ∀ (n178 :
    Int) (n179 : Int) (w180 : World), I177 n178 n179 w180 → (((decide (n179 < ((l169 : Nat) : Int))) = true → ∃ (J181 : Int → World → Prop), (withSome a170 (fun d182 => (0 ≤ n179 ∧ n179 < (l170 : Nat)) ∧ ∃ (b183 : Bool),
    w180.cell? (Addr.add d182 (n179.toNat * 1)) = some (.bool b183) ∧ ((b183 = true → J181 n178 w180) ∧ (b183 = false → ∃ (J184 : Bool → World → Prop), (∀ w185, Grew w180 w185 → (((decide (n178 ≥ ((l175 : Nat) : Int))) =
    true → J184 true w185) ∧ ((decide (n178 ≥ ((l175 : Nat) : Int))) = false → withSome a175 (fun d186 => (0 ≤ n178 ∧ n178 < (l175 : Nat)) ∧ ∃ (n187 : Int), w185.cell? (Addr.add d186 (n178.toNat * 10)) = some (.int .i64
    n187) ∧ (((n187 != n179) = true → J184 true w185) ∧ ((n187 != n179) = false → withSome a175 (fun d188 => (0 ≤ n178 ∧ n178 < (l175 : Nat)) ∧ ∃ (n189 : Int) (n190 : Int) (n191 : Int) (n192 : Int) (n193 : Int) (n194 :
    Int) (a195 : Option Addr) (l195 c195 : Nat) (a196 : Option Addr) (l196 c196 : Nat) (a197 : Option Addr) (l197 c197 : Nat), CellsAt w185 (Addr.add (Addr.add d188 (n178.toNat * 10)) 1) 0 [.int .i64 n189, .int .i64 n190,
    .int .i64 n191, .int .i64 n192, .int .i64 n193, .int .i64 n194, .slice a195 l195 c195, .slice a196 l196 c196, .slice a197 l197 c197] ∧ withSome a169 (fun d198 => (0 ≤ n179 ∧ n179 < (l169 : Nat)) ∧ ∃ (n199 : Int) (n200
    : Int) (n201 : Int) (n202 : Int) (n203 : Int) (n204 : Int) (a205 : Option Addr) (l205 c205 : Nat) (a206 : Option Addr) (l206 c206 : Nat) (a207 : Option Addr) (l207 c207 : Nat), CellsAt w185 (Addr.add d198 (n179.toNat
    * 9)) 0 [.int .i64 n199, .int .i64 n200, .int .i64 n201, .int .i64 n202, .int .i64 n203, .int .i64 n204, .slice a205 l205 c205, .slice a206 l206 c206, .slice a207 l207 c207] ∧ CallsW Try.prog 21 [.agg #[.int .i64
    n189, .int .i64 n190, .int .i64 n191, .int .i64 n192, .int .i64 n193, .int .i64 n194, .slice a195 l195 c195, .slice a196 l196 c196, .slice a197 l197 c197], .agg #[.int .i64 n199, .int .i64 n200, .int .i64 n201, .int
    .i64 n202, .int .i64 n203, .int .i64 n204, .slice a205 l205 c205, .slice a206 l206 c206, .slice a207 l207 c207]] w185 (Ret (fun u209 w208 => ∃ (b210 : Bool), u209 = .bool b210 ∧ SameB w185 w208 [(Addr.add d198
    (n179.toNat * 9)), (Addr.add (Addr.add d188 (n178.toNat * 10)) 1), (Addr.add d186 (n178.toNat * 10))] ∧ J184 (!b210) w208) (fun c211 w208 => False)))))))))) ∧ ∀ (b212 : Bool) (w213 : World), J184 b212 w213 → ((b212 =
    true → R (.returned (.bool false)) w213) ∧ (b212 = false → ∀ n214 : Int, n214 = IntKind.i64.wrap (n178 + 1) → J181 n214 w213)))))) ∧ ∀ (n215 : Int) (w216 : World), J181 n215 w216 → ∀ n217 : Int, n217 =
    IntKind.i64.wrap (n179 + 1) → (I177 n215 n217 w216 ∧ m177 n215 n217 w216 < m177 n178 n179 w180)) ∧ ((decide (n179 < ((l169 : Nat) : Int))) = false → R (.returned (.bool true)) w180)))))))))))
theorem sx4.ok {d : Int} {i : Option Addr} {i_n i_c : Nat} {R : Ending → World → Prop} {w : World} (h : sx4 d i i_n i_c R w) : CallsW Try.prog 4 [.int .i64 d, .slice i i_n i_c] w R :=
  callsW_of mix Try.func4 (by kernel_rfl) (by kernel_rfl) (Eq.mpr (by kernel_rfl : denFn Try.prog { locals := [11, 13, 17], sem := [149, 152], named := [226, 258], draws := [(48, { order := (.cons 0 (.cons 1 (.cons 2 (.cons 3 (.cons 4 (.cons 5 (.cons 6 (.cons 7 (.cons 8 (.cons 9 (.cons 10 (.cons 11 (.cons 12 .nil))))))))))))), bars := [] }), (62, { order := (.cons 0 (.cons 1 (.cons 2 (.cons 3 (.cons 4 (.cons 5 (.cons 6 (.cons 7 (.cons 8 (.cons 9 (.cons 10 (.cons 11 (.cons 12 (.cons 13 (.cons 14 (.cons 15 (.cons 16 (.cons 17 (.cons 18 (.cons 19 (.cons 20 (.cons 21 (.cons 22 (.cons 23 (.cons 24 (.cons 25 .nil)))))))))))))))))))))))))), bars := [] })], loops := [(10, { slots := [(7, .slice), (8, .slice), (9, .int .i64), (10, .int .i64)], cells := [] }), (59, { slots := [(20, .int .i64), (21, .int .i64)], cells := [] })], cuts := [(14, { slots := [(12, .bool)], cells := [] }), (17, { slots := [(79, .bool)], cells := [] }), (22, { slots := [(14, .int .i64), (15, .int .i64)], cells := [] }), (24, { slots := [(100, .bool)], cells := [] }), (26, { slots := [(108, .bool)], cells := [] }), (29, { slots := [(16, .int .i64)], cells := [] }), (30, { slots := [(131, .bool)], cells := [] }), (34, { slots := [], cells := [(13, 35, [.int .i64, .int .i64, .int .i64, .int .i64, .int .i64, .int .i64, .slice, .slice, .slice])] }), (41, { slots := [(155, .bool)], cells := [] }), (45, { slots := [(18, .int .i64)], cells := [(17, 35, [.int .i64, .int .i64, .int .i64, .int .i64, .int .i64, .int .i64, .slice, .slice, .slice])] }), (46, { slots := [(184, .bool)], cells := [] }), (49, { slots := [(198, .bool)], cells := [] }), (52, { slots := [(7, .slice), (8, .slice), (9, .int .i64)], cells := [] }), (53, { slots := [(214, .bool)], cells := [] }), (54, { slots := [(7, .slice), (8, .slice), (9, .int .i64)], cells := [] }), (60, { slots := [(20, .int .i64)], cells := [] }), (63, { slots := [(256, .bool)], cells := [] })] } Try.f4 [.int .i64 d, .slice i i_n i_c] R w = sx4 d i i_n i_c R w) h)


def Enc.bl : Enc Bool := ⟨1, fun b => [.bool b], fun _ => rfl, by decide, fun x v h => by simp at h; subst h; rfl⟩
theorem eMsg : ElemOk Try.prog 44 35 Enc.msg.sz 120 := ElemOk.mk' (z := .agg msg0.vals.toArray) (by kernel_rfl) (by kernel_rfl) (by kernel_rfl)
theorem eBl : ElemOk Try.prog 45 4 Enc.bl.sz 1 := ElemOk.mk' (z := .bool false) (by kernel_rfl) (by kernel_rfl) (by kernel_rfl)

theorem own_apart {α β : Type} {w : World} {B B2 : Nat} {e e2 : TypeId} {E : Enc α} {E2 : Enc β} {a a2 : Option Addr} {n c n2 c2 : Nat} {l : List α} {l2 : List β} (h : Own w B e E a n c l) (h2 : Own w B2 e2 E2 a2 n2 c2 l2) (hne : e ≠ e2) : ∀ b, Blk a b → ¬ Blk a2 b := by
  intro b hb hb2
  obtain ⟨cur, hc⟩ := h.obj hb
  obtain ⟨cur2, hc2⟩ := h2.obj hb2
  rw [hc] at hc2
  exact hne (Obj.cells.inj (Option.some.inj hc2)).2.1
theorem NetAt.ownApart {α : Type} {w : World} {B B2 p mb : Nat} {most next : Int} {L : List (Int × Msg)} (h : NetAt w B p mb most next L) {e : TypeId} {E : Enc α} {a : Option Addr} {n c : Nat} {l : List α} (ho : Own w B2 e E a n c l)
    (h1 : e ≠ 3) (h2 : e ≠ 56) (h3 : e ≠ 60) (h4 : e ≠ 65) : ∀ b, NFoot p mb L b → ¬ Blk a b := by
  rintro b (rfl | rfl | ⟨x, hx, hb⟩) hb2
  · obtain ⟨cur, hc⟩ := ho.obj hb2
    rw [show w.heap[b]? = _ from h.row] at hc
    exact h4 (Obj.cells.inj (Option.some.inj hc)).2.1.symm
  · obtain ⟨cur, hc⟩ := ho.obj hb2
    obtain ⟨es, clock, hm, -⟩ := h.map
    rw [hm] at hc; cases hc
  · exact row_not_own ho (h.msgs.own x hx) h1 h2 h3 b hb hb2

/-- the bag, between two calls -/
def BagInv (w0 : World) (B B5 p mb : Nat) (d : Int) (k : Nat) (a : Option Addr) (l c : Nat) (a' : Option Addr) (l' c' : Nat) (there : Int) (w : World) : Prop :=
  ∃ (next : Int) (L : List (Int × Msg)) (S : List Msg) (G : List Bool), next ≤ k ∧ NetAt w B p mb d next L ∧ Own w B5 35 Enc.msg a l c S ∧ Own w B5 4 Enc.bl a' l' c' G ∧ (S.length : Int) = next ∧ S.length = G.length ∧ conts L = alive 0 (S.map (·.c)) G ∧ there = L.length ∧
    (∀ x ∈ S, x.At w0 ∧ soundMsg x.c = true ∧ x.c.Fits) ∧ Grew w0 w ∧ B5 ≤ w.heap.size

theorem msg_cells {w : World} {a : Addr} {x : Msg} (h : CellsAt w a 0 x.vals) : CellsAt w a 0 (Enc.msg.f x) := h

set_option maxHeartbeats 4000000 in
theorem NetBag_ok {d : Int} {a : Option Addr} {n c : Nat} {l : List OpN} {w : World} (hd : (Lit.int .i64 d).wf = true) (hr : Reads w Enc.op (a, n, c) l) (hcl : ∀ x ∈ l, OpOk w x) (hn : l.length ≤ maxLen) (hb : l.length * 144 ≤ 140737488351232) :
    CallsW Try.prog 4 [.int .i64 d, .slice a n c] w (Rets fun v w' => v = .bool true ∧ Grew w w') := by
  refine sx4.ok ?_
  unfold sx4
  have hS0 : Script w a n c l := ⟨hr, hcl⟩
  refine awakeN_ok.use fun v w1 ⟨hv, hg1⟩ => ?_
  subst hv
  refine ⟨_, rfl, fun h => (by cases h), fun _ => ?_⟩
  refine New_ok.use fun v w5 ⟨hg5, hv⟩ => ?_
  have hg5' := hg1.trans hg5
  rcases hv with ⟨hbad, hv⟩ | ⟨hd4, p, mb, hv, hA⟩
  · subst hv
    refine ⟨_, _, rfl, fun _ => ⟨fun _ => ⟨fun _ => ⟨fun _ => ⟨_, rfl, rfl, hg5'⟩, fun h => ⟨_, rfl, ?_, hg5'⟩⟩, fun h => (by simp at h)⟩, fun h => (by simp at h)⟩, fun h => (by simp at h)⟩
    simp only [decide_eq_false_iff_not] at h
    rw [decide_eq_true (by omega)]
  subst hv
  refine ⟨_, _, rfl, fun h => (by simp at h), fun _ => ?_⟩
  have s1 := hg1.size; have s5 := hg5.size
  have pB := hA.pB; have mB := hA.mB
  have hnil : BagInv w w1.heap.size w5.heap.size p mb d 0 none 0 0 none 0 0 0 w5 := ⟨0, [], [], [], Int.le_refl _, hA, Own.nil _ _ _ _, Own.nil _ _ _ _, rfl, rfl, rfl, rfl, by simp, hg5', Nat.le_refl _⟩
  have up : ∀ {y z : World}, Upd (fun b => b = p ∨ b = mb) y z → Grew w y → Grew w z := fun hu hg => hg.then_own hu fun b hb => by
    rcases hb with rfl | rfl <;> omega
  refine ⟨fun a12 l12 c12 a13 l13 c13 n14 w' => ∃ k : Nat, k ≤ 2000 ∧ BagInv w w1.heap.size w5.heap.size p mb d k a12 l12 c12 a13 l13 c13 n14 w', ⟨fun a12 l12 c12 a13 l13 c13 n14 i w' => ∃ k : Nat, i = k ∧ k ≤ 2000 ∧ BagInv w w1.heap.size w5.heap.size p mb d k a12 l12 c12 a13 l13 c13 n14 w', fun _ _ _ _ _ _ _ i _ => 2000 - i.toNat, ⟨0, rfl, Nat.zero_le _, hnil⟩, ?_⟩, ?_⟩
  · rintro a12 l12 c12 a13 l13 c13 n14 i w16 ⟨k, rfl, hk, hI⟩
    refine ⟨fun hlt => ⟨fun h2000 => ?_, fun _ => ⟨k, hk, hI⟩⟩, fun _ => ⟨k, hk, hI⟩⟩
    obtain ⟨next, L, S, G, hnk, hN, hOS, hOG, hSn, hSG, hcon, rfl, hSok, hg16, hB516⟩ := hI
    simp only [decide_eq_true_eq] at hlt h2000
    have hn' : n = l.length := hr.2.1
    obtain ⟨da, x, hda, hx, hxc⟩ := (hr.grew hg16).at0 (k := k) (by omega)
    have hxo := (hS0.grew hg16).ok x (List.mem_of_getElem? hx)
    have hxc' : CellsAt w16 (Addr.add da (((k : Nat) : Int).toNat * 12)) 0 (Enc.op.f x) := hxc
    subst hda
    refine ⟨⟨by omega, by omega⟩, _, _, _, _, _, _, _, _, _, _, _, _, _, _, _, _, _, _, hxc', fun w30 hg30 => ?_⟩
    have hS12 := hOS.len
    have hS13 := hOG.len
    have hxo0 := hcl x (List.mem_of_getElem? hx)
    have hN30 := hN.grew hg30
    have hOS30 := hOS.grew hg30
    have hOG30 := hOG.grew hg30
    have hg30' := hg16.trans hg30
    have hB1 : w1.heap.size ≤ w30.heap.size := by have := hN30.foot (.inl rfl); omega
    have hB5 : w5.heap.size ≤ w30.heap.size := Nat.le_trans hB516 hg30.size
    obtain ⟨known, hkn⟩ : ∃ known : Bool, known = (getM L x.k).isSome := ⟨_, rfl⟩
    have hget := conts_get (L := L) x.k
    rw [hcon] at hget
    have hSm : (S.map (·.c)).length = G.length := by simpa using hSG
    have hSml : (S.map (·.c)).length = S.length := by simp
    have netS : ∀ b, NFoot p mb L b → ¬ Blk a12 b := hN.ownApart hOS (by decide) (by decide) (by decide) (by decide)
    have netG : ∀ b, NFoot p mb L b → ¬ Blk a13 b := hN.ownApart hOG (by decide) (by decide) (by decide) (by decide)
    have pm : ∀ b, (b = p ∨ b = mb) → NFoot p mb L b := fun b hb => by rcases hb with rfl | rfl; exact .inl rfl; exact .inr (.inl rfl)
    have keepS : ∀ {y z : World}, Upd (fun b => b = p ∨ b = mb) y z → Own y w5.heap.size 35 Enc.msg a12 l12 c12 S → Own z w5.heap.size 35 Enc.msg a12 l12 c12 S := fun hu ho => ho.upd hu fun b hb h => netS b (pm b h) hb
    have keepG : ∀ {y z : World}, Upd (fun b => b = p ∨ b = mb) y z → Own y w5.heap.size 4 Enc.bl a13 l13 c13 G → Own z w5.heap.size 4 Enc.bl a13 l13 c13 G := fun hu ho => ho.upd hu fun b hb h => netG b (pm b h) hb
    have hroom := hN.room
    have hknS : known = true → ∃ (k' : Nat) (z : Msg) (y : Msg), x.k = k' ∧ S[k']? = some z ∧ G[k']? = some false ∧ getM L x.k = some y ∧ y.c = z.c := by
      intro h
      rw [hkn, Option.isSome_iff_exists] at h
      obtain ⟨y, hy⟩ := h
      rw [hy] at hget
      simp only [Option.map_some] at hget
      by_cases hr : x.k < 0 ∨ (S.length : Int) ≤ x.k
      · rw [alive_none (by rw [hSml]; exact hr)] at hget; cases hget
      · obtain ⟨k', hk'⟩ : ∃ k' : Nat, x.k = k' := ⟨x.k.toNat, by omega⟩
        obtain ⟨z, hz⟩ : ∃ z, S[k']? = some z := ⟨_, List.getElem?_eq_getElem (by omega)⟩
        obtain ⟨g, hg⟩ : ∃ g, G[k']? = some g := ⟨_, List.getElem?_eq_getElem (by omega)⟩
        rw [hk', alive_get (c := z.c) hSm (by simp [hz]) hg] at hget
        cases g with
        | true => simp at hget
        | false => simp at hget; exact ⟨k', z, y, hk', hz, hg, hy, hget.symm⟩
    refine ⟨fun b w' => w' = w30 ∧ b = known, ⟨fun h0 => ⟨fun h1 => ?_, fun h1 => ⟨rfl, ?_⟩⟩, fun h0 => ⟨rfl, ?_⟩⟩, ?_⟩
    · simp only [decide_eq_true_eq] at h0 h1
      obtain ⟨k', hk'⟩ : ∃ k' : Nat, x.k = k' := ⟨x.k.toNat, by omega⟩
      obtain ⟨z, hz⟩ : ∃ z, S[k']? = some z := ⟨_, List.getElem?_eq_getElem (by omega)⟩
      obtain ⟨dg, g, hdg, hg, hcg⟩ := hOG30.reads.at0 (k := k') (by omega)
      have hcg' : w30.cell? (Addr.add dg (((k' : Nat) : Int).toNat * 1)) = some (.bool g) := by simpa [Enc.bl, CellsAt, Addr.add_zero'] using hcg
      rw [hk', hdg]
      refine ⟨⟨by omega, by omega⟩, g, hcg', rfl, ?_⟩
      rw [hk', alive_get (c := z.c) hSm (by simp [hz]) hg] at hget
      rw [hkn, hk']
      cases hL : getM L (k' : Int) with
      | none => rw [hL] at hget; cases g <;> simp at hget ⊢
      | some y => rw [hL] at hget; cases g <;> simp at hget ⊢
    · simp only [decide_eq_true_eq, decide_eq_false_iff_not] at h0 h1
      rw [alive_none (by rw [hSml]; omega)] at hget
      cases hL : getM L x.k with
      | none => rw [hkn, hL]; rfl
      | some y => rw [hL] at hget; cases hget
    · simp only [decide_eq_false_iff_not] at h0
      rw [alive_none (by rw [hSml]; omega)] at hget
      cases hL : getM L x.k with
      | none => rw [hkn, hL]; rfl
      | some y => rw [hL] at hget; cases hget
    rintro b34 w35 ⟨rfl, rfl⟩
    refine ⟨fun a l c a' l' c' m w' => BagInv w w1.heap.size w5.heap.size p mb d (k + 1) a l c a' l' c' m w', ?_, ?_⟩
    · refine ⟨fun b w' => w' = w35 ∧ b = decide (x.kind = 1 ∨ x.kind = 4), ⟨fun h => ⟨rfl, ?_⟩, fun h => ⟨rfl, ?_⟩⟩, ?_⟩
      · rw [h]; simp only [beq_iff_eq] at h; simp [h]
      · simp only [beq_eq_false_iff_ne, ne_eq] at h
        by_cases h4 : x.kind = 4 <;> simp [h, h4]
      rintro b38 w39 ⟨rfl, rfl⟩
      refine ⟨fun h38 w40 hg40 => ?_, fun h38 => ?_⟩
      · simp only [decide_eq_true_eq] at h38
        obtain ⟨want, hwant⟩ : ∃ want : Int, want = if x.kind = 4 ∧ b34 = false then 161 else if x.kind = 1 ∧ soundMsg x.m.c = false then 150 else if (L.length : Int) ≥ d then 160 else 0 := ⟨_, rfl⟩
        have hN40 := hN30.grew hg40
        have hOS40 := hOS30.grew hg40
        have hOG40 := hOG30.grew hg40
        have hg40' := hg30'.trans hg40
        have hx40 := hxo0.at_.grew hg40'
        have s40 := hg40.size
        refine ⟨fun r e w' => Own w' w5.heap.size 35 Enc.msg a12 l12 c12 S ∧ Own w' w5.heap.size 4 Enc.bl a13 l13 c13 G ∧ Grew w w' ∧ w5.heap.size ≤ w'.heap.size ∧ e = want ∧
          ((want ≠ 0 ∧ r = 0 ∧ NetAt w' w1.heap.size p mb d next L) ∨ (want = 0 ∧ r = next ∧ ∃ y : Msg, NetAt w' w1.heap.size p mb d (next + 1) (L ++ [(next, y)]) ∧ (x.kind = 1 → soundMsg x.m.c = true ∧ y.c = x.m.c) ∧ (x.kind = 4 → b34 = true ∧ ∀ z, getM L x.k = some z → y.c = z.c))), ⟨fun h1 => ?_, fun h1 => ?_⟩, ?_⟩
        · simp only [beq_iff_eq] at h1
          refine (Send_ok (x := x.m) hN40 hx40 hxo0.fits (by have := hxo0.e; omega) (by have := hxo0.k; omega) (by have := hxo0.p; omega) (by omega) (by omega)).use fun v w42 hp => ?_
          rcases hp with ⟨hs, hv, hg⟩ | ⟨hs, ⟨hge, hv, hg⟩ | ⟨hlt', hv, y, hy, -, hN', hu⟩⟩
          · subst hv
            refine ⟨_, _, rfl, hOS40.grew hg, hOG40.grew hg, hg40'.trans hg, by have := hg.size; omega, ?_, .inl ⟨?_, rfl, hN40.grew hg⟩⟩
            all_goals rw [hwant, if_neg (by omega), if_pos ⟨h1, hs⟩]
            omega
          · subst hv
            refine ⟨_, _, rfl, hOS40.grew hg, hOG40.grew hg, hg40'.trans hg, by have := hg.size; omega, ?_, .inl ⟨?_, rfl, hN40.grew hg⟩⟩
            all_goals rw [hwant, if_neg (by omega), if_neg (by rw [hs]; simp), if_pos hge]
            omega
          · subst hv
            refine ⟨_, _, rfl, keepS hu hOS40, keepG hu hOG40, up hu hg40', by have := hu.size; omega, ?_, .inr ⟨?_, rfl, y, hN', fun _ => ⟨hs, hy⟩, fun h4 => by omega⟩⟩
            all_goals rw [hwant, if_neg (by omega), if_neg (by rw [hs]; simp), if_neg (by omega)]
        · simp only [beq_eq_false_iff_ne, ne_eq] at h1
          have h4 : x.kind = 4 := by omega
          refine (Copy_ok (k := x.k) hN40 (by omega) (by omega)).use fun v w47 hp => ?_
          cases hL : getM L x.k with
          | none =>
            rw [hL] at hp
            obtain ⟨hv, hg⟩ := hp
            subst hv
            have hk0 : b34 = false := by rw [hkn, hL]; rfl
            refine ⟨_, _, rfl, hOS40.grew hg, hOG40.grew hg, hg40'.trans hg, by have := hg.size; omega, ?_, .inl ⟨?_, rfl, hN40.grew hg⟩⟩
            all_goals rw [hwant, if_pos ⟨h4, hk0⟩]
            omega
          | some z =>
            have hk1 : b34 = true := by rw [hkn, hL]; rfl
            rw [hL] at hp
            rcases hp with ⟨hge, hv, hg⟩ | ⟨hlt', hv, y, hy, -, hN', hu⟩
            · subst hv
              refine ⟨_, _, rfl, hOS40.grew hg, hOG40.grew hg, hg40'.trans hg, by have := hg.size; omega, ?_, .inl ⟨?_, rfl, hN40.grew hg⟩⟩
              all_goals rw [hwant, if_neg (by rw [hk1]; simp), if_neg (fun hh => h1 hh.1), if_pos hge]
              omega
            · subst hv
              refine ⟨_, _, rfl, keepS hu hOS40, keepG hu hOG40, up hu hg40', by have := hu.size; omega, ?_, .inr ⟨?_, rfl, y, hN', fun h => absurd h h1, fun _ => ⟨hk1, fun z' hz' => by cases hz'; exact hy⟩⟩⟩
              all_goals rw [hwant, if_neg (by rw [hk1]; simp), if_neg (fun hh => h1 hh.1), if_neg (by omega)]
        rintro n52 n53 w54 ⟨hOS54, hOG54, hg54, hB54, hew, hcase⟩
        refine ⟨fun v w' => v = want ∧ Grew w54 w', ⟨fun b w' => w' = w54 ∧ b = decide (x.kind = 4 ∧ b34 = false), ⟨fun h => ⟨rfl, ?_⟩, fun h => ⟨rfl, ?_⟩⟩, ?_⟩, ?_⟩
        · simp only [beq_iff_eq] at h; cases b34 <;> simp [h]
        · simp only [beq_eq_false_iff_ne, ne_eq] at h; simp [h]
        · rintro b57 w58 ⟨rfl, rfl⟩
          refine ⟨fun h => ?_, fun h => ?_⟩
          · simp only [decide_eq_true_eq] at h
            exact ⟨by rw [hwant, if_pos h], Grew.refl _⟩
          · simp only [decide_eq_false_iff_not] at h
            refine ⟨fun b w' => Grew w58 w' ∧ b = decide (x.kind = 1 ∧ soundMsg x.m.c = false), ⟨fun h1 => ?_, fun h1 => ⟨Grew.refl _, ?_⟩⟩, ?_⟩
            · simp only [beq_iff_eq] at h1
              refine (MSound_ok (x := x.m) (hxo0.at_.grew hg54) (by have := hxo0.e; omega) (by have := hxo0.k; omega) (by have := hxo0.p; omega)).use fun v w60 ⟨hv, hg60⟩ => ?_
              subst hv
              refine ⟨_, rfl, hg60, ?_⟩
              cases soundMsg x.m.c <;> simp [h1]
            · simp only [beq_eq_false_iff_ne, ne_eq] at h1; simp [h1]
            rintro b64 w65 ⟨hg65, rfl⟩
            refine ⟨fun h5 => ⟨?_, hg65⟩, fun h5 => ⟨fun h6 => ⟨?_, hg65⟩, fun h6 => ⟨?_, hg65⟩⟩⟩
            all_goals simp only [decide_eq_true_eq, decide_eq_false_iff_not] at h5
            · rw [hwant, if_neg h, if_pos h5]
            · simp only [decide_eq_true_eq] at h6
              rw [hwant, if_neg h, if_neg h5, if_pos h6]
            · simp only [decide_eq_false_iff_not] at h6
              rw [hwant, if_neg h, if_neg h5, if_neg h6]
        rintro n66 w67 ⟨rfl, hg67⟩
        have hOS67 := hOS54.grew hg67
        have hOG67 := hOG54.grew hg67
        have hg67' := hg54.trans hg67
        have hB67 : w5.heap.size ≤ w67.heap.size := Nat.le_trans hB54 hg67.size
        refine ⟨fun b w' => b = false ∧ w' = w67, ⟨fun h => (by rw [hew] at h; simp at h), fun _ => ⟨fun h => ⟨?_, rfl⟩, fun _ => ⟨rfl, rfl⟩⟩⟩, ?_⟩
        · rw [hew] at h
          rcases hcase with ⟨-, hr0, -⟩ | ⟨h0, -⟩
          · rw [hr0]; rfl
          · rw [h0] at h; simp at h
        rintro b69 w70 ⟨rfl, rfl⟩
        refine ⟨fun h => (by cases h), fun _ => ⟨fun h0 => ?_, fun h0 => ?_⟩⟩
        · simp only [beq_iff_eq] at h0
          rw [hew] at h0
          rcases hcase with ⟨hw0, -⟩ | ⟨-, hr0, y, hN', hy1, hy4⟩
          · exact absurd h0 hw0
          have hN70 := hN'.grew hg67
          refine ⟨fun m0 m1 m2 m3 m4 m5 q1 q2 q3 q4 q5 q6 q7 q8 q9 w' => w' = w70 ∧ ∃ z : Msg, z.vals = [.int .i64 m0, .int .i64 m1, .int .i64 m2, .int .i64 m3, .int .i64 m4, .int .i64 m5, .slice q1 q2 q3, .slice q4 q5 q6, .slice q7 q8 q9] ∧ z.At w ∧ soundMsg z.c = true ∧ z.c.Fits ∧ z.c = y.c, ⟨fun h4 => ?_, fun h4 => ?_⟩, ?_⟩
          · simp only [beq_iff_eq] at h4
            obtain ⟨hk1, hyz⟩ := hy4 h4
            obtain ⟨k', z, y', hk', hz, hgf, hgy, hyc⟩ := hknS hk1
            have hzok := hSok z (List.mem_of_getElem? hz)
            obtain ⟨ds, z', hds, hz', hcz⟩ := hOS67.reads.at0 (k := k') (by have := (List.getElem?_eq_some_iff.1 hz).1; omega)
            rw [hz] at hz'; cases hz'
            have hcz' : CellsAt w70 (Addr.add ds (((k' : Nat) : Int).toNat * 9)) 0 z.vals := hcz
            rw [hds, hk']
            refine ⟨⟨by omega, by have := (List.getElem?_eq_some_iff.1 hz).1; omega⟩, _, _, _, _, _, _, _, _, _, _, _, _, _, _, _, hcz', rfl, z, rfl, hzok.1, hzok.2.1, hzok.2.2, ?_⟩
            rw [hyz y' hgy, hyc]
          · simp only [beq_eq_false_iff_ne, ne_eq] at h4
            have h1 : x.kind = 1 := by omega
            exact ⟨rfl, x.m, rfl, hxo0.at_, (hy1 h1).1, hxo0.fits, (hy1 h1).2.symm⟩
          rintro m0 m1 m2 m3 m4 m5 q1 q2 q3 q4 q5 q6 q7 q8 q9 w91 ⟨rfl, z, hz, hzat, hzs, hzf, hzc⟩
          refine ⟨fun h => (by simp at h; omega), fun _ b92 w93 hal93 => ?_⟩
          rw [← hz] at hal93
          have hlS := hOS67.len
          have hlG := hOG67.len
          refine append_new (l2 := [z]) eMsg hOS67 hal93 (by simp [Enc.msg]) rfl hB67 (by simp only [maxLen, List.length_cons, List.length_nil]; omega) (by simp; omega) ?_
          rintro v w94 ⟨a96, l96, c96, rfl, hOS94, hu94, -⟩
          refine ⟨_, _, _, rfl, fun b97 w98 hal98 => ?_⟩
          have hOG94 := hOG67.upd hu94 (own_apart hOG67 hOS67 (by decide))
          have hN94 := hN70.upd hu94 (hN70.ownApart hOS67 (by decide) (by decide) (by decide) (by decide))
          have hg94 : Grew w w94 := hg67'.then_own hu94 fun b hb => by have := (hOS67.blk hb).1; omega
          have s94 := hu94.size; have s98 := hal98.grew.size
          refine append_new (l2 := [false]) eBl hOG94 hal98 rfl rfl (by omega) (by simp only [maxLen, List.length_cons, List.length_nil]; omega) (by simp; omega) ?_
          rintro v w99 ⟨a101, l101, c101, rfl, hOG99, hu99, -⟩
          have hN99 := hN94.upd hu99 (hN94.ownApart hOG94 (by decide) (by decide) (by decide) (by decide))
          have hOS99 := hOS94.upd hu99 (own_apart hOS94 hOG94 (by decide))
          have s99 := hu99.size
          have hg99 : Grew w w99 := hg94.then_own hu99 fun b hb => by have := (hOG94.blk hb).1; omega
          have hw14 : IntKind.i64.wrap ((L.length : Int) + 1) = (L.length : Int) + 1 := by rw [IntKind.wrap_i64]; omega
          rw [hw14]
          refine ⟨_, _, _, rfl, next + 1, L ++ [(next, y)], S ++ [z], G ++ [false], by omega, hN99, hOS99, hOG99, by simp; omega, by simp; omega, ?_, by simp, ?_, hg99, by omega⟩
          · rw [List.map_append, List.map_cons, List.map_nil, alive_snoc _ _ _ hSm, ← hcon]
            simp only [conts, List.map_append, List.map_cons, List.map_nil, hzc]
            rw [hSml, hSn]
          · intro z' hz'
            rcases List.mem_append.1 hz' with hz' | hz'
            · exact hSok z' hz'
            · simp at hz'; subst hz'; exact ⟨hzat, hzs, hzf⟩
        · simp only [beq_eq_false_iff_ne, ne_eq] at h0
          rw [hew] at h0
          rcases hcase with ⟨-, -, hN'⟩ | ⟨hw0, -⟩
          · exact ⟨next, L, S, G, by omega, hN'.grew hg67, hOS67, hOG67, hSn, hSG, hcon, rfl, hSok, hg67', hB67⟩
          · exact absurd hw0 h0
      · simp only [decide_eq_false_iff_not] at h38
        refine ⟨fun b w' => w' = w39 ∧ b = decide (x.kind = 2 ∨ x.kind = 3), ⟨fun h => ⟨rfl, ?_⟩, fun h => ⟨rfl, ?_⟩⟩, ?_⟩
        · rw [h]; simp only [beq_iff_eq] at h; simp [h]
        · simp only [beq_eq_false_iff_ne, ne_eq] at h
          by_cases h3 : x.kind = 3 <;> simp [h, h3]
        rintro b103 w104 ⟨rfl, rfl⟩
        have same : BagInv w w1.heap.size w5.heap.size p mb d (k + 1) a12 l12 c12 a13 l13 c13 (L.length : Int) w104 := ⟨next, L, S, G, by omega, hN30, hOS30, hOG30, hSn, hSG, hcon, rfl, hSok, hg30', hB5⟩
        refine ⟨fun hb => ?_, fun _ => same⟩
        simp only [decide_eq_true_eq] at hb
        intro w105 hg105
        have hN105 := hN30.grew hg105
        have hOS105 := hOS30.grew hg105
        have hOG105 := hOG30.grew hg105
        have hg105' := hg30'.trans hg105
        have s105 := hg105.size
        refine ⟨fun e m0 m1 m2 m3 m4 m5 q1 q2 q3 q4 q5 q6 q7 q8 q9 w' => Own w' w5.heap.size 35 Enc.msg a12 l12 c12 S ∧ Own w' w5.heap.size 4 Enc.bl a13 l13 c13 G ∧ Grew w w' ∧ w5.heap.size ≤ w'.heap.size ∧
          ((b34 = false ∧ e = 161 ∧ NetAt w' w1.heap.size p mb d next L) ∨ (b34 = true ∧ e = 0 ∧ NetAt w' w1.heap.size p mb d next (delM L x.k) ∧ (x.kind = 2 → ∃ y z : Msg, getM L x.k = some z ∧ y.vals = [.int .i64 m0, .int .i64 m1, .int .i64 m2, .int .i64 m3, .int .i64 m4, .int .i64 m5, .slice q1 q2 q3, .slice q4 q5 q6, .slice q7 q8 q9] ∧ y.At w' ∧ y.c = z.c ∧ soundMsg y.c = true ∧ y.c.Fits))), ⟨fun h2 => ?_, fun h2 => ?_⟩, ?_⟩
        · simp only [beq_iff_eq] at h2
          refine (Deliver_ok (k := x.k) hN105).use fun v w107 ⟨y, e, hv, hG⟩ => ?_
          subst hv
          refine ⟨_, _, _, _, _, _, _, _, _, _, _, _, _, _, _, _, rfl, ?_⟩
          unfold Got at hG
          cases hL : getM L x.k with
          | none =>
            rw [hL] at hG
            obtain ⟨rfl, rfl, hg⟩ := hG
            exact ⟨hOS105.grew hg, hOG105.grew hg, hg105'.trans hg, by have := hg.size; omega, .inl ⟨by rw [hkn, hL]; rfl, rfl, hN105.grew hg⟩⟩
          | some z =>
            rw [hL] at hG
            obtain ⟨rfl, rfl, hN', hy, hys, -, hu⟩ := hG
            have hu' := hu.mono (S' := fun b => b = p ∨ b = mb) fun b _ hb => .inr hb
            exact ⟨keepS hu' hOS105, keepG hu' hOG105, up hu' hg105', by have := hu.size; omega, .inr ⟨by rw [hkn, hL]; rfl, rfl, hN', fun _ => ⟨y, y, rfl, rfl, hy.at, rfl, hys.1, hys.2⟩⟩⟩
        · simp only [beq_eq_false_iff_ne, ne_eq] at h2
          refine (Drop_ok (k := x.k) hN105).use fun v w120 ⟨y, e, hv, hG⟩ => ?_
          subst hv
          refine ⟨_, rfl, ?_⟩
          unfold Got at hG
          cases hL : getM L x.k with
          | none =>
            rw [hL] at hG
            obtain ⟨rfl, rfl, hg⟩ := hG
            exact ⟨hOS105.grew hg, hOG105.grew hg, hg105'.trans hg, by have := hg.size; omega, .inl ⟨by rw [hkn, hL]; rfl, rfl, hN105.grew hg⟩⟩
          | some z =>
            rw [hL] at hG
            obtain ⟨rfl, rfl, hN', hy, hys, -, hu⟩ := hG
            have hu' := hu.mono (S' := fun b => b = p ∨ b = mb) fun b _ hb => .inr hb
            exact ⟨keepS hu' hOS105, keepG hu' hOG105, up hu' hg105', by have := hu.size; omega, .inr ⟨by rw [hkn, hL]; rfl, rfl, hN', fun h => absurd h h2⟩⟩
        rintro e m0 m1 m2 m3 m4 m5 q1 q2 q3 q4 q5 q6 q7 q8 q9 w134 ⟨hOS134, hOG134, hg134, hB134, hcase⟩
        refine ⟨fun b w' => b = false ∧ w' = w134, ⟨fun h => ?_, fun _ => ⟨fun h => ?_, fun _ => ⟨rfl, rfl⟩⟩⟩, ?_⟩
        · exfalso
          rcases hcase with ⟨h1, h2, -⟩ | ⟨h1, h2, -⟩ <;> rw [h1, h2] at h <;> simp at h
        · rcases hcase with ⟨h1, h2, -⟩ | ⟨h1, h2, -⟩
          · rw [h2]; exact ⟨rfl, rfl⟩
          · rw [h2] at h; simp at h
        rintro b136 w137 ⟨rfl, rfl⟩
        refine ⟨fun h => (by cases h), fun _ => ⟨fun hk1 => ?_, fun hk0 => ?_⟩⟩
        · rcases hcase with ⟨h1, -⟩ | ⟨-, -, hN', hdel⟩
          · rw [hk1] at h1; cases h1
          obtain ⟨k', z, y', hk', hz, hgf, hgy, hyc⟩ := hknS hk1
          have hzl := (List.getElem?_eq_some_iff.1 hz).1
          have hzok := hSok z (List.mem_of_getElem? hz)
          have hlS := hOS134.len
          have hlG := hOG134.len
          refine ⟨fun b w' => b = false ∧ Grew w137 w', fun w139 hg139 => ⟨fun h2 => ?_, fun _ => ⟨rfl, hg139⟩⟩, ?_⟩
          · simp only [beq_iff_eq] at h2
            obtain ⟨y, z', hz', hyv, hyat, hyz, hys, hyf⟩ := hdel h2
            rw [hgy] at hz'
            obtain rfl := Option.some.inj hz'
            obtain ⟨ds, z'', hds, hz'', hcz⟩ := (hOS134.grew hg139).reads.at0 (k := k') (by omega)
            rw [hz] at hz''; cases hz''
            have hcz' : CellsAt w139 (Addr.add ds (((k' : Nat) : Int).toNat * 9)) 0 z.vals := hcz
            rw [hds, hk']
            refine ⟨⟨by omega, by omega⟩, _, _, _, _, _, _, _, _, _, _, _, _, _, _, _, hcz', ?_⟩
            have hval : y.val = .agg #[.int .i64 m0, .int .i64 m1, .int .i64 m2, .int .i64 m3, .int .i64 m4, .int .i64 m5, .slice q1 q2 q3, .slice q4 q5 q6, .slice q7 q8 q9] := by
              have : y.val = .agg y.vals.toArray := rfl
              rw [this, hyv]
            rw [← hval]
            have hsm := soundMsg_small hys
            have hzb := World.block_lt_of_cell? w139 _ hcz'.1
            refine (same_ok (x := y) (y := z) (hyat.grew hg139) (hzok.1.grew (hg134.trans hg139)) (by rw [hyz, hyc]) hyf (by omega) (by omega) (by omega)).use' fun v w150 ⟨hv, hg150⟩ => ?_
            subst hv
            exact ⟨_, rfl, ⟨hg150.block _ (by simpa [Addr.add] using hzb), trivial⟩, rfl, hg139.trans hg150⟩
          rintro b154 w155 ⟨rfl, hg155⟩
          have hOG155 := hOG134.grew hg155
          obtain ⟨dg, hdg, hroomg, hset, hu⟩ := hOG155.set (i := k') (by omega) true
          rw [hdg, hk']
          refine ⟨fun h => (by cases h), fun _ => ⟨⟨by omega, by omega⟩, by simpa [Enc.bl] using hroomg, ?_⟩⟩
          rintro w157 rfl
          have hset' := hset
          have hu' : Upd (Blk a13) w155 (setCells w155 (Addr.add dg (((k' : Nat) : Int).toNat * 1)) 0 [.bool true]) := by simpa [Enc.bl] using hu
          have hset' : Own (setCells w155 (Addr.add dg (((k' : Nat) : Int).toNat * 1)) 0 [.bool true]) w5.heap.size 4 Enc.bl a13 l13 c13 (G.set k' true) := by simpa [Enc.bl] using hset
          have hN155 := hN'.grew hg155
          have hOS155 := hOS134.grew hg155
          have hg155' := hg134.trans hg155
          have s155 := hg155.size; have s157 := hu'.size
          have hlen := alive_len (c := z.c) hSm (by simp [hz]) hgf
          have hc' : conts (delM L x.k) = alive 0 (S.map (·.c)) (G.set k' true) := by
            rw [conts_del, hcon, hk', alive_del (c := z.c) hSm (by simp [hz]) hgf]
          have hl1 := congrArg List.length hc'
          have hl2 := congrArg List.length hcon
          rw [conts_len] at hl1 hl2
          have hw14 : IntKind.i64.wrap ((L.length : Int) - 1) = ((delM L x.k).length : Int) := by rw [IntKind.wrap_i64]; omega
          rw [hw14, ← hdg]
          refine ⟨next, delM L x.k, S, G.set k' true, by omega, hN155.upd hu' (hN155.ownApart hOG155 (by decide) (by decide) (by decide) (by decide)), hOS155.upd hu' (own_apart hOS155 hOG155 (by decide)), hset', hSn, by simpa using hSG, hc', rfl, hSok, hg155'.then_own hu' (fun b hb => by have := (hOG155.blk hb).1; omega), by omega⟩
        · rcases hcase with ⟨-, -, hN'⟩ | ⟨h1, -⟩
          · exact ⟨next, L, S, G, by omega, hN', hOS134, hOG134, hSn, hSG, hcon, rfl, hSok, hg134, hB134⟩
          · rw [hk0] at h1; cases h1
    · rintro a158 l158 c158 a159 l159 c159 n160 w161 hI'
      have hI'' := hI'
      obtain ⟨next', L', S', G', hnk', hN', hOS', hOG', hSn', hSG', hcon', hth, hSok', hg', hB'⟩ := hI''
      have hroom' := hN'.room
      have hlS := hOS'.len
      refine ⟨fun b w' => b = false ∧ w' = w161, ?_, ?_⟩
      · refine (Next_ok hN').use fun v w163 ⟨hv, hw⟩ => ?_
        subst hv; subst hw
        refine ⟨_, rfl, fun h => (by simp at h; omega), fun _ => ⟨?_, rfl⟩⟩
        rw [hth]; simp; omega
      rintro b167 w168 ⟨rfl, rfl⟩
      have hw : IntKind.i64.wrap ((k : Int) + 1) = ((k + 1 : Nat) : Int) := by rw [IntKind.wrap_i64]; omega
      rw [hw]
      exact ⟨fun h => (by cases h), fun _ => ⟨⟨k + 1, rfl, by omega, hI'⟩, by show 2000 - (((k + 1 : Nat) : Int)).toNat < 2000 - ((k : Int)).toNat; omega⟩⟩
  rintro a169 l169 c169 a170 l170 c170 n171 w172 ⟨k, hk, next, L, S, G, hnk, hN, hOS, hOG, hSn, hSG, hcon, rfl, hSok, hg172, hB172⟩
  refine (NFlights_ok hN).use fun v w173 ⟨a175, l175, c175, Ls, hv, hLo, hLc, hLm, hg173⟩ => ?_
  subst hv
  have hSm : (S.map (·.c)).length = G.length := by simpa using hSG
  have hSml : (S.map (·.c)).length = S.length := by simp
  have hLl : Ls.length = L.length := by have := congrArg List.length hLc; rwa [conts_len, conts_len] at this
  have hl175 := hLo.len
  have hlS := hOS.len
  have hlG := hOG.len
  have hroom := hN.room
  refine ⟨_, _, _, rfl, fun h => (by simp at h; omega), fun _ => ?_⟩
  refine ⟨fun at_ i w' => ∃ k : Nat, i = k ∧ k ≤ S.length ∧ at_ = ((alive 0 ((S.map (·.c)).take k) (G.take k)).length : Int) ∧ Grew w173 w', fun _ i _ => S.length - i.toNat, ⟨0, rfl, Nat.zero_le _, by simp [alive], Grew.refl _⟩, ?_⟩
  rintro n178 i w180 ⟨k', rfl, hk', rfl, hg180⟩
  have hg180' := hg172.trans (hg173.trans hg180)
  refine ⟨fun hlt => ?_, fun _ => ⟨_, rfl, rfl, hg180'⟩⟩
  simp only [decide_eq_true_eq] at hlt
  have hw : IntKind.i64.wrap ((k' : Int) + 1) = ((k' + 1 : Nat) : Int) := by rw [IntKind.wrap_i64]; omega
  obtain ⟨dg, g, hdg, hg, hcg⟩ := (hOG.grew (hg173.trans hg180)).reads.at0 (k := k') (by omega)
  obtain ⟨z, hz⟩ : ∃ z, S[k']? = some z := ⟨_, List.getElem?_eq_getElem (by omega)⟩
  have hzok := hSok z (List.mem_of_getElem? hz)
  have hcg' : w180.cell? (Addr.add dg (((k' : Nat) : Int).toNat * 1)) = some (.bool g) := by simpa [Enc.bl, CellsAt, Addr.add_zero'] using hcg
  have hstep := alive_step (c := z.c) hSm (by simp [hz]) hg
  obtain ⟨A, hA'⟩ : ∃ A, A = (alive 0 ((S.map (·.c)).take k') (G.take k')).length := ⟨_, rfl⟩
  rw [← hA'] at hstep ⊢
  rw [hdg]
  refine ⟨fun v w' => v = ((alive 0 ((S.map (·.c)).take (k' + 1)) (G.take (k' + 1))).length : Int) ∧ Grew w173 w', ⟨⟨by omega, by omega⟩, g, hcg', fun hgt => ?_, fun hgf => ?_⟩, ?_⟩
  · rw [hstep, hgt]; exact ⟨by simp, hg180⟩
  · have hal := alive_at (c := z.c) hSm (by simp [hz]) (hgf ▸ hg)
    rw [← hA', ← hcon, ← hLc] at hal
    have hAl : A < Ls.length := by have := (List.getElem?_eq_some_iff.1 hal).1; rwa [conts_len] at this
    obtain ⟨f, hf⟩ : ∃ f, Ls[A]? = some f := ⟨_, List.getElem?_eq_getElem hAl⟩
    have hfz : (f.1, f.2.c) = ((k' : Int), z.c) := by simpa [conts, hf] using hal
    have hf1 : f.1 = (k' : Int) := (Prod.mk.inj hfz).1
    have hf2 : f.2.c = z.c := (Prod.mk.inj hfz).2
    have hfm := List.mem_of_getElem? hf
    have hfok := hLm.ok f hfm
    have hsm := soundMsg_small hfok.1
    refine ⟨fun b w' => b = false ∧ Grew w173 w', fun w185 hg185 => ⟨fun h => (by simp only [decide_eq_true_eq] at h; omega), fun _ => ?_⟩, ?_⟩
    · have hg185' := hg180.trans hg185
      obtain ⟨dl, f', hdl, hf', hcf⟩ := (hLo.grew hg185').reads.at0 (k := A) (by omega)
      rw [hf] at hf'; cases hf'
      obtain ⟨cf1, cf2⟩ := fl_cells hcf
      obtain ⟨ds, z'', hds, hz'', hcz⟩ := (hOS.grew (hg173.trans hg185')).reads.at0 (k := k') (by omega)
      rw [hz] at hz''; cases hz''
      have hcz' : CellsAt w185 (Addr.add ds (((k' : Nat) : Int).toNat * 9)) 0 z.vals := hcz
      rw [hdl, hds]
      refine ⟨⟨by omega, by omega⟩, _, cf1, fun h => (by rw [hf1] at h; simp at h), fun _ => ⟨⟨by omega, by omega⟩, _, _, _, _, _, _, _, _, _, _, _, _, _, _, _, cf2, ⟨by omega, by omega⟩, _, _, _, _, _, _, _, _, _, _, _, _, _, _, _, hcz', ?_⟩⟩
      refine (same_ok (x := f.2) (y := z) ((hLm.own f hfm).grew hg185').at (hzok.1.grew (hg180'.trans hg185)) hf2 hfok.2 (by omega) (by omega) (by omega)).use' fun v w208 ⟨hv, hg208⟩ => ?_
      subst hv
      have lz := World.block_lt_of_cell? w185 _ hcz'.1
      have lf := World.block_lt_of_cell? w185 _ cf1
      have ez := hg208.block _ (show (Addr.add ds (((k' : Nat) : Int).toNat * 9)).block < _ by simpa [Addr.add] using lz)
      have ef := hg208.block _ lf
      exact ⟨_, rfl, ⟨ez, ef, ef, trivial⟩, rfl, hg185'.trans hg208⟩
    · rintro b212 w213 ⟨rfl, hg213⟩
      refine ⟨fun h => (by cases h), fun _ n214 hn214 => ?_⟩
      subst hn214
      refine ⟨?_, hg213⟩
      rw [hstep, hgf, IntKind.wrap_i64]; simp; omega
  · rintro n215 w216 ⟨rfl, hg216⟩ n217 hn217
    subst hn217
    rw [hw]
    exact ⟨⟨k' + 1, rfl, by omega, rfl, hg216⟩, by show S.length - (((k' + 1 : Nat) : Int)).toNat < S.length - ((k' : Int)).toNat; omega⟩

open Go.ChangeShapes Go.WideShapes Go.ChangeAt Go.RowKit
set_option maxRecDepth 100000 in
theorem netBag_lifted (os : Os) (started : os.Started) (H : Type) (enc : TypeId × Value → H) :
    ReturnsInHanded {} Try.checked os 4 .any (Rows.netBagSpec.pre6 enc Try.prog Try.f4 Rows.netBagRow.domain false) (Rows.netBagSpec.post enc Try.prog Try.f4 false true false false) := by
  refine returnsInHanded_of_change_sized (C := Try.checked) (by kernel_rfl) started (by kernel_rfl) Try.func4
    (ChangeSpec.witness6 (enc := enc) (C := Try.checked) false ⟨#[], #[.int .i64 0, .slice none 0 0], []⟩ 8 (by kernel_rfl) (by kernel_rfl) (by kernel_rfl) (by kernel_rfl)) ?_
  intro W base args ds gs before hval0 hW hcnd hsz0 _
  have hval : ∀ (j : Nat) t v, Try.f4.params[j]? = some t → args[j]? = some v → Value.okWide Try.prog W .any base t v := hval0
  have hW' := hW
  obtain ⟨p, q, hA0, hV, rfl, hfz, hnd⟩ := hW
  have hA : DataW.TrodAll enc Try.prog W 0 (fun _ => true) true Try.f4.params.toList args.toList ds p := hA0
  have hsz : (DataW.weightsEach Try.prog (Try.f4.params.toList ++ _) (ds ++ gs)).all (· ≤ reachBytes) = true := hsz0
  rw [show Try.f4.params = #[3, 22] from by kernel_rfl] at hA hval hsz
  have hA1 := hA
  obtain ⟨v0, vs0, d0, ds0, p0, q0, hargs, rfl, rfl, h0, r0⟩ := trodAll_cons hA
  obtain ⟨v1, vs1, d1, ds1, p1, q1, rfl, rfl, rfl, h1, r1⟩ := trodAll_cons r0
  obtain ⟨rfl, rfl, rfl⟩ := trodAll_nil r1
  obtain rfl : args = #[v0, v1] := by cases args; simp_all
  obtain ⟨x0, rfl, hcl0⟩ := Go.Sx.open_int (P := Try.prog) (k := .i64) (t := 3) (by kernel_rfl) (hval 0 3 v0 rfl rfl) h0
  obtain ⟨a1, n1, c1, l1, rfl, hr1, hcl1, hn1, hb1⟩ := open_sub (P := Try.prog) (t := 22) (e := 37) (arg_sub (e := 37) (j := 1) hsz rfl rfl (by kernel_rfl) (hval 1 22 v1 rfl rfl) h1) (by kernel_rfl) op_kinds (by kernel_rfl) (B := 144) (by kernel_rfl) (E := Enc.op) rfl op_of
  clear hA0 hA1 hval0 hsz0
  refine (CallsW.calls ⟨_, Try.func4, by kernel_rfl, by kernel_rfl⟩ (NetBag_ok hcl0 hr1 hcl1 hn1 hb1)).mono fun e W' ⟨w', hh, hk, v, he, hv, hg⟩ => ?_
  subst he; subst hv
  exact ⟨_, rfl, post_true (tb := 4) (by kernel_rfl) rfl (by kernel_rfl) (by kernel_rfl) ⟨rfl, rfl, rfl⟩ (by decide +kernel) hW' (below_of hg hh hk)⟩

theorem netBag_holds : Rows.NetBagSaid :=
  OpenClaim.holds_of_wide 4 Try.f4 rfl rfl rfl rfl rfl rfl rfl ⟨rfl, rfl, rfl, rfl, rfl⟩ rfl rfl rfl rfl rfl (by kernel_rfl) Try.func4 (by kernel_rfl)
    (of_decide_eq_true (by kernel_rfl)) (by unfold Func.isWrapper; first | (rw [if_pos (by decide +kernel)]; kernel_rfl) | (rw [if_neg (by decide +kernel)]; exact ⟨rfl, rfl⟩))
    (fun os started H enc _ => netBag_lifted os started H enc)
end Go.Proofs.Ytlkfkcgnlnbdeaa
