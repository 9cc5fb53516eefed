/- What the reference's pipelines hand back. Conditions: none. -/
import Derived.Test.YtcpkneemhfnanaaGreatProg
import Derived.Test.YtcpkneemhfnanaaGreatRefF
import Derived.Test.YtcpkneemhfnanaaGreatOps
namespace Go.Proofs.YtcpkneemhfnanaaGreat
open Go.Sx
set_option maxRecDepth 100000
set_option linter.unusedVariables false
set_option linter.unusedSimpArgs false
def sx83 (o_0 o_1 : Int) (o_2 : Nat) (R : Ending → World → Prop) (w : World) : Prop :=
 ∀ w1, Grew w w1 → ∃ J2 : Bool → World → Prop, (ifB (o_0 == 1) (J2 (o_0 == 1) w1) (ifB (o_0 == 2) (J2 (o_0 == 2) w1) (ifB (o_0 == 3) (J2 (o_0 == 3) w1) (ifB (o_0 == 4) (J2 (o_0 == 4) w1) (ifB (o_0 == 5) (J2 (o_0 == 5) w1) (ifB (o_0 == 6) (J2 (o_0 == 6) w1) (ifB (o_0 == 8) (J2 (o_0 == 8) w1) (ifB (o_0 == 9) (J2 (o_0 == 9) w1) (ifB (o_0 == 10) (J2 (o_0 == 10) w1) (J2 (o_0 == 12) w1)))))))))) ∧ ∀ b3 w4, J2 b3 w4 → ifB b3 (R (.returned (.bool true)) w4) (ifB (o_0 == 7) (ifB (decide (o_1 ≥ (-2200))) (R (.returned (.bool (decide (o_1 ≤ 2200)))) w4) (R (.returned (.bool false)) w4)) (ifB (o_0 == 11) (R (.returned (.bool (decide (o_1 ≥ 1)))) w4) (R (.returned (.bool false)) w4)))
theorem sx83.ok {o_0 o_1 : Int} {o_2 : Nat} {R : Ending → World → Prop} {w : World} (h : sx83 o_0 o_1 o_2 R w) : Aa Tryz.prog 83 [.agg #[.int .i64 o_0, .int .i64 o_1, .float .f64 o_2]] w R :=
 okOf { locals := [1], cuts := [(12, { slots := [(5, .bool)], cells := [] })] } mix Tryz.func83 (by kernel_rfl) (by kernel_rfl) (by kernel_rfl) h
def sx43 (list : Option Addr) (list_n list_c : Nat) (R : Ending → World → Prop) (w : World) : Prop :=
 ifB (decide (((list_n : Nat) : Int) > 8)) (R (.returned (.int .i64 30)) w) (∃ (I1 : Int → World → Prop) (m1 : Int → World → Nat), I1 0 w ∧ ∀ n2 w3, I1 n2 w3 → ifB (decide (n2 < ((list_n : Nat) : Int))) (Ab list (fun d4 => (0 ≤ n2 ∧ n2 < (list_n : Nat)) ∧ ∃ n5 n6 x7, Ae w3 (Addr.add d4 (n2.toNat * 3)) 0 [.int .i64 n5, .int .i64 n6, .float .f64 x7] ∧ Aa Tryz.prog 83 [.agg #[.int .i64 n5, .int .i64 n6, .float .f64 x7]] w3 (RetR R fun u9 w8 => ∃ b10, u9 = .bool b10 ∧ ifB (!b10) (R (.returned (.int .i64 30)) w8) ((I1 (IntKind.i64.wrap (n2 + 1)) w8 ∧ m1 (IntKind.i64.wrap (n2 + 1)) w8 < m1 n2 w3))))) (R (.returned (.int .i64 0)) w3))
theorem sx43.ok {list : Option Addr} {list_n list_c : Nat} {R : Ending → World → Prop} {w : World} (h : sx43 list list_n list_c R w) : Aa Tryz.prog 43 [.slice list list_n list_c] w R :=
 okOf { loops := [(4, { slots := [(3, .int .i64)], cells := [] })] } mix Tryz.func43 (by kernel_rfl) (by kernel_rfl) (by kernel_rfl) h
def sx148 (x : Nat) (R : Ending → World → Prop) (w : World) : Prop :=
 Aa Tryz.prog 145 [.float .f64 x] w (RetR R fun u2 w1 => ∃ n3, u2 = .int .u64 n3 ∧ ∀ n5 : Int, n5 = Go.bits .xor .u64 n3 9223372036854775808 → Aa Tryz.prog 147 [.int .u64 n5] w1 (RetR R fun u7 w6 => ∃ x8, u7 = .float .f64 x8 ∧ R (.returned (.float .f64 x8)) w6))
theorem sx148.ok {x : Nat} {R : Ending → World → Prop} {w : World} (h : sx148 x R w) : Aa Tryz.prog 148 [.float .f64 x] w R :=
 okOf { named := [5] } mix Tryz.func148 (by kernel_rfl) (by kernel_rfl) (by kernel_rfl) h
def sx149 (x : Nat) (R : Ending → World → Prop) (w : World) : Prop :=
 Aa Tryz.prog 145 [.float .f64 x] w (RetR R fun u2 w1 => ∃ n3, u2 = .int .u64 n3 ∧ ∀ n5 : Int, n5 = Go.bits .andNot .u64 n3 9223372036854775808 → Aa Tryz.prog 147 [.int .u64 n5] w1 (RetR R fun u7 w6 => ∃ x8, u7 = .float .f64 x8 ∧ R (.returned (.float .f64 x8)) w6))
theorem sx149.ok {x : Nat} {R : Ending → World → Prop} {w : World} (h : sx149 x R w) : Aa Tryz.prog 149 [.float .f64 x] w R :=
 okOf { named := [5] } mix Tryz.func149 (by kernel_rfl) (by kernel_rfl) (by kernel_rfl) h
def sx153 (n w1 : Int) (R : Ending → World → Prop) (w : World) : Prop :=
 ifB (w1 == (-1)) (R (.returned (.int .i64 (IntKind.i64.wrap (0 - n)))) w) (((w1 = 0 → R (.panicked (Bq Tryz.prog)) w) ∧ (w1 ≠ 0 → ∀ n1 : Int, n1 = IntKind.i64.wrap (Int.tdiv n w1) → R (.returned (.int .i64 n1)) w)))
theorem sx153.ok {n w1 : Int} {R : Ending → World → Prop} {w : World} (h : sx153 n w1 R w) : Aa Tryz.prog 153 [.int .i64 n, .int .i64 w1] w R :=
 okOf { named := [11] } mix Tryz.func153 (by kernel_rfl) (by kernel_rfl) (by kernel_rfl) h
def sx154 (x : Nat) (R : Ending → World → Prop) (w : World) : Prop :=
 ∃ b1, Ao Tryz.prog (eqS .lss 41 (.tmp 4) (.const (.float .f64 0)) (.float .f64 x) (.float .f64 0)) (.bool b1) ∧ ifB b1 (R (.returned (.int .u64 0)) w) (∃ b2, Ao Tryz.prog (eqS .gtr 41 (.tmp 7) (.const (.float .f64 0)) (.float .f64 x) (.float .f64 0)) (.bool b2) ∧ ifB b2 (R (.returned (.int .u64 2)) w) (∃ b3, Ao Tryz.prog (eqS .eql 41 (.tmp 10) (.const (.float .f64 0)) (.float .f64 x) (.float .f64 0)) (.bool b3) ∧ ifB b3 (R (.returned (.int .u64 1)) w) (R (.returned (.int .u64 3)) w)))
theorem sx154.ok {x : Nat} {R : Ending → World → Prop} {w : World} (h : sx154 x R w) : Aa Tryz.prog 154 [.float .f64 x] w R :=
 okOf { pureTo := [5, 8, 11] } mix Tryz.func154 (by kernel_rfl) (by kernel_rfl) (by kernel_rfl) h
def sx129 (d_0 d_1 : Int) (d_2 : Nat) (i_0 : Int) (i_1 : Nat) (R : Ending → World → Prop) (w : World) : Prop :=
  ∀ w1, Grew w w1 → ∀ w2, Grew w1 w2 → ∀ w3, Grew w2 w3 → Aa Tryz.prog 83 [.agg #[.int .i64 d_0, .int .i64 d_1, .float .f64 d_2]] w3 (RetR R fun u5 w4 => ∃ b6, u5 = .bool b6 ∧ ifB (!b6) (R (.returned (.tuple #[.agg #[.int .u64 0, .float .f64 0], .int .i64 0])) w4) (Aa Tryz.prog 128 [.float .f64 i_1] w4 (RetR R fun u9 w8 => ∃ x10, u9 = .float .f64 x10 ∧ ∃ J12 : Nat → Int → Int → World → Prop, (ifB (d_0 == 1) (∃ b13, Ao Tryz.prog (eqS .lss 41 (.tmp 23) (.tmp 25) (.float .f64 x10) (.float .f64 d_2)) (.bool b13) ∧ ifB (!b13) (J12 x10 i_0 2 w8) (J12 x10 i_0 1 w8)) (ifB (d_0 == 2) (∃ b14, Ao Tryz.prog (eqS .gtr 41 (.tmp 30) (.tmp 32) (.float .f64 x10) (.float .f64 d_2)) (.bool b14) ∧ ifB (!b14) (J12 x10 i_0 2 w8) (J12 x10 i_0 1 w8)) (ifB (d_0 == 3) (∃ b15, Ao Tryz.prog (eqS .neq 41 (.tmp 37) (.tmp 38) (.float .f64 x10) (.float .f64 x10)) (.bool b15) ∧ ifB b15 (J12 x10 i_0 2 w8) (J12 x10 i_0 1 w8)) (ifB (d_0 == 4) (Aa Tryz.prog 148 [.float .f64 x10] w8 (RetR R fun u17 w16 => ∃ x18, u17 = .float .f64 x18 ∧ J12 x18 i_0 1 w16)) (ifB (d_0 == 5) (Aa Tryz.prog 149 [.float .f64 x10] w8 (RetR R fun u21 w20 => ∃ x22, u21 = .float .f64 x22 ∧ J12 x22 i_0 1 w20)) (ifB (d_0 == 6) (Aa Tryz.prog 150 [.float .f64 x10] w8 (RetR R fun u25 w24 => ∃ x26, u25 = .float .f64 x26 ∧ J12 x26 i_0 1 w24)) (ifB (d_0 == 7) (Aa Tryz.prog 151 [.float .f64 x10, .int .i64 d_1] w8 (RetR R fun u29 w28 => ∃ x30, u29 = .float .f64 x30 ∧ J12 x30 i_0 1 w28)) (ifB (d_0 == 8) (SemW Tryz.prog (eqS .quo 41 (.const (.float .f64 4607182418800017408)) (.tmp 60) (.float .f64 4607182418800017408) (.float .f64 x10)) (fun u33 w32 => ∃ x34, u33 = .float .f64 x34 ∧ J12 x34 i_0 1 w32) w8) (ifB (d_0 == 9) (SemW Tryz.prog (eqS .sub 41 (.tmp 64) (.tmp 65) (.float .f64 x10) (.float .f64 x10)) (fun u36 w35 => ∃ x37, u36 = .float .f64 x37 ∧ ∃ b38, Ao Tryz.prog (eqS .neq 41 (.tmp 66) (.const (.float .f64 0)) (.float .f64 x37) (.float .f64 0)) (.bool b38) ∧ ifB b38 (J12 x10 i_0 3 w35) (J12 x10 i_0 1 w35)) w8) (ifB (d_0 == 10) (Aa Tryz.prog 144 [.float .f64 x10] w8 (RetR R fun u40 w39 => ∃ n41, u40 = .int .i64 n41 ∧ ifB (n41 == 0) (J12 x10 i_0 3 w39) (Aa Tryz.prog 153 [.int .i64 d_1, .int .i64 n41] w39 (RetR R fun u44 w43 => ∃ n45, u44 = .int .i64 n45 ∧ Aa Tryz.prog 152 [.int .i64 n45] w43 (RetR R fun u48 w47 => ∃ x49, u48 = .float .f64 x49 ∧ J12 x49 i_0 1 w47))))) (ifB (d_0 == 11) ((((IntKind.u64.wrap d_1) = 0 → R (.panicked (Bq Tryz.prog)) w8) ∧ ((IntKind.u64.wrap d_1) ≠ 0 → ∀ n51 : Int, n51 = Int.tmod i_0 (IntKind.u64.wrap d_1) → J12 x10 n51 1 w8))) (ifB (d_0 == 12) ((((4611686018427387904 : Int) = 0 → R (.panicked (Bq Tryz.prog)) w8) ∧ ((4611686018427387904 : Int) ≠ 0 → ∀ n52 : Int, n52 = Int.tmod i_0 4611686018427387904 → Aa Tryz.prog 154 [.float .f64 x10] w8 (RetR R fun u54 w53 => ∃ n55, u54 = .int .u64 n55 ∧ ∀ n57 : Int, n57 = IntKind.u64.wrap ((IntKind.u64.wrap (n52 * 4)) + n55) → J12 x10 n57 1 w53)))) (J12 x10 i_0 1 w8))))))))))))) ∧ ∀ x58 n59 n60 w61, J12 x58
 n59 n60 w61 → ifB (n60 != 1) (R (.returned (.tuple #[.agg #[.int .u64 0, .float .f64 0], .int .i64 n60])) w61) (Aa Tryz.prog 128 [.float .f64 x58] w61 (RetR R fun u63 w62 => ∃ x64, u63 = .float .f64 x64 ∧ R (.returned (.tuple #[.agg #[.int .u64 n59, .float .f64 x64], .int .i64 1])) w62)))))
theorem sx129.ok {d_0 d_1 : Int} {d_2 : Nat} {i_0 : Int} {i_1 : Nat} {R : Ending → World → Prop} {w : World} (h : sx129 d_0 d_1 d_2 i_0 i_1 R w) : Aa Tryz.prog 129 [.agg #[.int .i64 d_0, .int .i64 d_1, .float .f64 d_2], .agg #[.int .u64 i_0, .float .f64 i_1]] w R :=
 okOf { locals := [2, 3, 4], pureTo := [26, 33, 39, 67], sem := [61, 66], named := [85, 89, 93], cuts := [(38, { slots := [(6, .float .f64), (7, .int .u64), (8, .int .i64)], cells := [] })] } mix Tryz.func129 (by kernel_rfl) (by kernel_rfl) (by kernel_rfl) h
def sx106 (list : Option Addr) (list_n list_c : Nat) (r_0 : Int) (r_1 : Nat) (R : Ending → World → Prop) (w : World) : Prop :=
  ∀ w1, Grew w w1 → ∀ w2, Grew w1 w2 → Aa Tryz.prog 43 [.slice list list_n list_c] w2 (RetR R fun u4 w3 => ∃ n5, u4 = .int .i64 n5 ∧ ifB (n5 != 0) (R (.returned (.tuple #[.agg #[.int .u64 0, .float .f64 0], .int .i64 0])) w3) (∀ w7, Grew w3 w7 → ((Aa Tryz.prog 128 [.float .f64 r_1] w7 (RetR R fun u9 w8 => ∃ x10, u9 = .float .f64 x10 ∧ Ad w7 w8 [] ∧ ∀ w12, Grew w8 w12 → Ad w8 w12 [] ∧ ∃ (I13 : Int → Int → Nat → Int → Nat → World → Prop) (m13 : Int → Int → Nat → Int → Nat → World → Nat), I13 0 0 0 r_0 x10 w12 ∧ ∀ n14 n15 x16 n17 x18 w19, I13 n14 n15 x16 n17 x18 w19 → ifB (decide (n14 < ((list_n : Nat) : Int))) (∀ w20, Grew w19 w20 → Ab list (fun d21 => (0 ≤ n14 ∧ n14 < (list_n : Nat)) ∧ ∃ n22 n23 x24, Ae w20 (Addr.add d21 (n14.toNat * 3)) 0 [.int .i64 n22, .int .i64 n23, .float .f64 x24] ∧ ((Aa Tryz.prog 129 [.agg #[.int .i64 n22, .int .i64 n23, .float .f64 x24], .agg #[.int .u64 n17, .float .f64 x18]] w20 (RetR R fun u26 w25 => ∃ n27 x28 n29, u26 = .tuple #[.agg #[.int .u64 n27, .float .f64 x28], .int .i64 n29] ∧ Ad w20 w25 [(Addr.add d21 (n14.toNat * 3))] ∧ ∀ w31, Grew w25 w31 → Ad w25 w31 [(Addr.add d21 (n14.toNat * 3))] ∧ ifB (n29 != 1) (R (.returned (.tuple #[.agg #[.int .u64 0, .float .f64 0], .int .i64 n29])) w31) ((I13 (IntKind.i64.wrap (n14 + 1)) n15 x16 n27 x28 w31 ∧ m13 (IntKind.i64.wrap (n14 + 1)) n15 x16 n27 x28 w31 < m13 n14 n15 x16 n17 x18 w19)))) ∧ (∀ w32, Grew w20 w32 → Ad w20 w32 [(Addr.add d21 (n14.toNat * 3))] ∧ Aa Tryz.prog 129 [.agg #[.int .i64 n22, .int .i64 n23, .float .f64 x24], .agg #[.int .u64 n17, .float .f64 x18]] w32 (RetR R fun u34 w33 => ∃ n35 x36 n37, u34 = .tuple #[.agg #[.int .u64 n35, .float .f64 x36], .int .i64 n37] ∧ Ad w32 w33 [(Addr.add d21 (n14.toNat * 3))] ∧ ifB (n37 != 1) (R (.returned (.tuple #[.agg #[.int .u64 0, .float .f64 0], .int .i64 n37])) w33) ((I13 (IntKind.i64.wrap (n14 + 1)) n15 x16 n35 x36 w33 ∧ m13 (IntKind.i64.wrap (n14 + 1)) n15 x16 n35 x36 w33 < m13 n14 n15 x16 n17 x18 w19))))))) (R (.returned (.tuple #[.agg #[.int .u64 n17, .float .f64 x18], .int .i64 1])) w19))) ∧ (∀ w39, Grew w7 w39 → Ad w7 w39 [] ∧ Aa Tryz.prog 128 [.float .f64 r_1] w39 (RetR R fun u41 w40 => ∃ x42, u41 = .float .f64 x42 ∧ Ad w39 w40 [] ∧ ∃ (I44 : Int → Int → Nat → Int → Nat → World → Prop) (m44 : Int → Int → Nat → Int → Nat → World → Nat), I44 0 0 0 r_0 x42 w40 ∧ ∀ n45 n46 x47 n48 x49 w50, I44 n45 n46 x47 n48 x49 w50 → ifB (decide (n45 < ((list_n : Nat) : Int))) (∀ w51, Grew w50 w51 → Ab list (fun d52 => (0 ≤ n45 ∧ n45 < (list_n : Nat)) ∧ ∃ n53 n54 x55, Ae w51 (Addr.add d52 (n45.toNat * 3)) 0 [.int .i64 n53, .int .i64 n54, .float .f64 x55] ∧ ((Aa Tryz.prog 129 [.agg #[.int .i64 n53, .int .i64 n54, .float .f64 x55], .agg #[.int .u64 n48, .float .f64 x49]] w51 (RetR R fun u57 w56 => ∃ n58 x59 n60, u57 = .tuple #[.agg #[.int .u64 n58, .float .f64 x59], .int .i64 n60] ∧ Ad w51 w56 [(Addr.add d52 (n45.toNat * 3))] ∧ ∀ w62, Grew w56 w62 → Ad w56 w62
 [(Addr.add d52 (n45.toNat * 3))] ∧ ifB (n60 != 1) (R (.returned (.tuple #[.agg #[.int .u64 0, .float .f64 0], .int .i64 n60])) w62) ((I44 (IntKind.i64.wrap (n45 + 1)) n46 x47 n58 x59 w62 ∧ m44 (IntKind.i64.wrap (n45 + 1)) n46 x47 n58 x59 w62 < m44 n45 n46 x47 n48 x49 w50)))) ∧ (∀ w63, Grew w51 w63 → Ad w51 w63 [(Addr.add d52 (n45.toNat * 3))] ∧ Aa Tryz.prog 129 [.agg #[.int .i64 n53, .int .i64 n54, .float .f64 x55], .agg #[.int .u64 n48, .float .f64 x49]] w63 (RetR R fun u65 w64 => ∃ n66 x67 n68, u65 = .tuple #[.agg #[.int .u64 n66, .float .f64 x67], .int .i64 n68] ∧ Ad w63 w64 [(Addr.add d52 (n45.toNat * 3))] ∧ ifB (n68 != 1) (R (.returned (.tuple #[.agg #[.int .u64 0, .float .f64 0], .int .i64 n68])) w64) ((I44 (IntKind.i64.wrap (n45 + 1)) n46 x47 n66 x67 w64 ∧ m44 (IntKind.i64.wrap (n45 + 1)) n46 x47 n66 x67 w64 < m44 n45 n46 x47 n48 x49 w50))))))) (R (.returned (.tuple #[.agg #[.int .u64 n48, .float .f64 x49], .int .i64 1])) w50))))))
theorem sx106.ok {list : Option Addr} {list_n list_c : Nat} {r_0 : Int} {r_1 : Nat} {R : Ending → World → Prop} {w : World} (h : sx106 list list_n list_c r_0 r_1 R w) : Aa Tryz.prog 106 [.slice list list_n list_c, .agg #[.int .u64 r_0, .float .f64 r_1]] w R :=
 okOf { locals := [3, 4, 6, 8], draws := [(3, { order := (ol [0,1,2,3] (.alt (ol [4,5,6,7] .nil) (ol [6,4,5,7] .nil))), bars := [7] }), (7, { order := (ol [0,1,2,3,4] (.alt (ol [5,6,7,8,9,10,11] .nil) (ol [9,5,6,7,8,10,11] .nil))), bars := [10] })], loops := [(5, { slots := [(7, .int .i64)], cells := [(4, 43, [.int .u64, .float .f64]), (6, 43, [.int .u64, .float .f64])] })] } mix Tryz.func106 (by kernel_rfl) (by kernel_rfl) (by kernel_rfl) h
def sx55 (list : Option Addr) (list_n list_c : Nat) (r_0 : Int) (r_1 : Nat) (R : Ending → World → Prop) (w : World) : Prop :=
 ∀ w1, Grew w w1 → Aa Tryz.prog 106 [.slice list list_n list_c, .agg #[.int .u64 r_0, .float .f64 r_1]] w1 (RetR R fun u3 w2 => ∃ n4 x5 n6, u3 = .tuple #[.agg #[.int .u64 n4, .float .f64 x5], .int .i64 n6] ∧ ∀ w8, Grew w2 w8 → R (.returned (.tuple #[.int .u64 n4, .bool (n6 == 1)])) w8)
theorem sx55.ok {list : Option Addr} {list_n list_c : Nat} {r_0 : Int} {r_1 : Nat} {R : Ending → World → Prop} {w : World} (h : sx55 list list_n list_c r_0 r_1 R w) : Aa Tryz.prog 55 [.slice list list_n list_c, .agg #[.int .u64 r_0, .float .f64 r_1]] w R :=
 okOf { locals := [3, 6] } mix Tryz.func55 (by kernel_rfl) (by kernel_rfl) (by kernel_rfl) h
theorem T6 {o : OpV} {w : World} : Aa Tryz.prog 83 [o.v] w (Rets fun v w' => v = .bool (Bn o) ∧ Grew w w') := by
 refine sx83.ok ?_
 unfold sx83
 intro w1 hg1
 have fin : ∀ b, b = Bn o → Rets (fun v w' => v = Value.bool (Bn o) ∧ Grew w w') (.returned (.bool b)) w1 := fun b h => ⟨_, rfl, by rw [h], hg1⟩
 refine ⟨fun b w' => w' = w1 ∧ b = decide (1 ≤ o.kind ∧ o.kind ≤ 12 ∧ o.kind ≠ 7 ∧ o.kind ≠ 11), ⟨fun h => ⟨rfl, ?_⟩, fun h1 => ⟨fun h => ⟨rfl, ?_⟩, fun h2 => ⟨fun h => ⟨rfl, ?_⟩, fun h3 => ⟨fun h => ⟨rfl, ?_⟩, fun h4 => ⟨fun h => ⟨rfl, ?_⟩, fun h5 => ⟨fun h => ⟨rfl, ?_⟩, fun h6 => ⟨fun h => ⟨rfl, ?_⟩, fun h8 => ⟨fun h => ⟨rfl, ?_⟩, fun h9 => ⟨fun h => ⟨rfl, ?_⟩, fun h10 => ⟨rfl, ?_⟩⟩⟩⟩⟩⟩⟩⟩⟩⟩, ?_⟩
 all_goals try (rw [Bool.eq_iff_iff]; simp only [beq_iff_eq, beq_eq_false_iff_ne, ne_eq, decide_eq_true_eq] at *; omega)
 rintro b w4 ⟨hw, hb⟩
 subst hw; subst hb
 refine ⟨fun h => fin _ ?_, fun h => ⟨fun h7 => ⟨fun h => fin _ ?_, fun h => fin _ ?_⟩, fun h7 => ⟨fun h11 => fin _ ?_, fun h11 => fin _ ?_⟩⟩⟩
 all_goals simp only [beq_iff_eq, beq_eq_false_iff_ne, ne_eq, decide_eq_true_eq, decide_eq_false_iff_not, ge_iff_le] at *
 all_goals unfold Bn
 ·rw [if_neg (by omega), if_neg (by omega)]; symm; rw [decide_eq_true_eq]; omega
 ·rw [if_pos h7, decide_eq_decide]; omega
 ·rw [if_pos h7]; symm; rw [decide_eq_false_iff_not]; omega
 ·rw [if_neg h7, if_pos h11]
 ·rw [if_neg h7, if_neg h11]; symm; rw [decide_eq_false_iff_not]; omega
theorem J4 {a : Option Addr} {n c : Nat} {l : List OpV} {w : World} (hr : Reads w Enc.op3 (a, n, c) l) : Aa Tryz.prog 43 [.slice a n c] w (Rets fun v w' => v = .int .i64 (if Aw l then 0 else 30) ∧ Grew w w') := by
 refine sx43.ok ?_
 unfold sx43
 have hn : n = l.length := hr.2.1
 subst hn
 refine ⟨fun h => ?_, fun h => ?_⟩
 ·simp only [decide_eq_true_eq] at h
  have : Aw l = false := by
   unfold Aw
   have : decide (l.length ≤ 8) = false := by rw [decide_eq_false_iff_not]; omega
   rw [this]; rfl
  exact ⟨_, rfl, by rw [this]; rfl, Grew.refl _⟩
 ·simp only [decide_eq_false_iff_not] at h
  refine ⟨fun i w' => ∃ k : Nat, i = k ∧ k ≤ l.length ∧ (l.take k).all Bn = true ∧ Grew w w', fun i _ => l.length - i.toNat, ⟨0, rfl, Nat.zero_le _, rfl, Grew.refl _⟩, ?_⟩
  rintro i w3 ⟨k, rfl, hk, hall, hg3⟩
  refine ⟨fun hlt => ?_, fun hge => ?_⟩
  ·simp only [decide_eq_true_eq] at hlt
   obtain ⟨d, x, rfl, hx, hc⟩ := (hr.grew hg3).at0 (k := k) (by omega)
   have hw : IntKind.i64.wrap ((k : Int) + 1) = ((k + 1 : Nat) : Int) := by rw [IntKind.wrap_i64]; omega
   refine ⟨⟨by omega, by omega⟩, _, _, _, Ck hc, T6.use fun v w9 ⟨hv, hg9⟩ => ?_⟩
   subst hv
   have hg9' := hg3.trans hg9
   rw [hw]
   refine ⟨_, rfl, fun hb => ?_, fun hb => ⟨⟨k + 1, rfl, by omega, ?_, hg9'⟩, by show l.length - (((k + 1 : Nat) : Int)).toNat < l.length - ((k : Int)).toNat; omega⟩⟩
   ·have : Aw l = false := by
     apply Bool.eq_false_iff.2
     intro hc
     have := (Cu hc).2 x (List.mem_of_getElem? hx)
     rw [this] at hb; cases hb
    exact ⟨_, rfl, by rw [this]; rfl, hg9'⟩
   ·rw [Ak hx, List.all_append, hall]
    have : Bn x = true := by simpa using hb
    simp [this]
  ·simp only [decide_eq_false_iff_not] at hge
   rw [List.take_of_length_le (by omega)] at hall
   have : Aw l = true := by
    unfold Aw
    have : decide (l.length ≤ 8) = true := by rw [decide_eq_true_eq]; omega
    rw [this, hall]; rfl
   exact ⟨_, rfl, by rw [this]; rfl, hg3⟩
def T7 (x : Nat) : Nat := if x < 9223372036854775808 then x + 9223372036854775808 else x - 9223372036854775808
theorem Yw {x : Nat} (hx : x < FL) : Ep x (T7 (Ep 4607182418800017408 x)) = T7 x := by
 have hx' : x < 18446744073709551616 := hx
 unfold Ep T7
 repeat' split
 all_goals omega
theorem Yx {x : Nat} {w : World} (hx : x < FL) : Aa Tryz.prog 148 [.float .f64 x] w (Rets fun v w' => v = .float .f64 (T7 x) ∧ w' = w) := by
 refine sx148.ok ?_
 unfold sx148
 refine Gl.use fun v w1 ⟨hv, hw⟩ => ?_
 subst hv; subst hw
 refine ⟨_, rfl, fun n5 h5 => Gm.use fun v w1 ⟨hv, hw⟩ => ?_⟩
 subst hv; subst hw
 refine ⟨_, rfl, _, rfl, ?_, rfl⟩
 have hx' : x < 18446744073709551616 := hx
 have : Go.bits .xor .u64 (x : Int) 9223372036854775808 = ((x ^^^ 9223372036854775808 : Nat) : Int) := by
  have := u64_xor (x : Int) (9223372036854775808 : Int) (by omega) (by omega) (by decide) (by decide)
  rw [this, Int.toNat_natCast]; rfl
 rw [h5, this, Int.toNat_natCast, Aea hx']; rfl
theorem Ab1 {x : Nat} {w : World} (hx : x < FL) : Aa Tryz.prog 149 [.float .f64 x] w (Rets fun v w' => v = .float .f64 (x % 9223372036854775808) ∧ w' = w) := by
 refine sx149.ok ?_
 unfold sx149
 refine Gl.use fun v w1 ⟨hv, hw⟩ => ?_
 subst hv; subst hw
 refine ⟨_, rfl, fun n5 h5 => Gm.use fun v w1 ⟨hv, hw⟩ => ?_⟩
 subst hv; subst hw
 refine ⟨_, rfl, _, rfl, ?_, rfl⟩
 rw [h5, S3 hx, Int.toNat_natCast]
theorem Aew {n v : Int} {w : World} (hv : v ≠ 0) : Aa Tryz.prog 153 [.int .i64 n, .int .i64 v] w (Rets fun u w' => u = .int .i64 (IntKind.i64.wrap (Int.tdiv n v)) ∧ w' = w) := by
 refine sx153.ok ?_
 unfold sx153
 refine ⟨fun h => ⟨_, rfl, ?_, rfl⟩, fun h => ⟨fun h0 => absurd h0 hv, fun _ n1 h1 => ⟨_, rfl, by rw [h1], rfl⟩⟩⟩
 simp only [beq_iff_eq] at h
 rw [h]
 have : Int.tdiv n (-1) = 0 - n := by rw [Int.tdiv_neg, Int.tdiv_one]; omega
 rw [this]
theorem Ab2 {x : Nat} {w : World} : Aa Tryz.prog 154 [.float .f64 x] w (Rets fun v w' => v = .int .u64 (Ie x) ∧ w' = w) := by
 refine sx154.ok ?_
 unfold sx154
 have e3 : ∀ (h0 : (ordB x 0 == some .lt) = false) (h2 : (ordB x 0 == some .gt) = true), Ie x = 2 := by
  intro h0 h2
  unfold Ie; rw [if_neg (by rw [h0]; simp)]
  simp only [beq_iff_eq] at h2
  rw [h2]; rfl
 refine ⟨_, Hz, fun h => ⟨_, rfl, by unfold Ie; rw [if_pos h], rfl⟩, fun h0 => ⟨_, H0, fun h => ⟨_, rfl, by rw [e3 h0 h], rfl⟩, fun h2 => ⟨_, Nq, fun h => ⟨_, rfl, by unfold Ie; rw [if_neg (by rw [h0]; simp), if_pos h], rfl⟩, fun h1 => ⟨_, rfl, by unfold Ie; rw [if_neg (by rw [h0]; simp), if_neg (by rw [h1]; simp), if_neg (by rw [h2]; simp)], rfl⟩⟩⟩⟩
def oneB (o : OpV) (r : RecV) : RecV × Int := match Ge o r with
 | none => (rec0, 3)
 | some (_, false) => (rec0, 2)
 | some (r', true) => (r', 1)
def Py (t : Option (Nat × Bool)) (f : Int) (y : Nat) : Prop := match t with
 | none => f = 3
 | some (_, false) => f = 2
 | some (z, true) => f = 1 ∧ Al y = Al z
theorem Py.trap {y : Nat} : Py none 3 y := rfl
theorem Py.drop {y z : Nat} : Py (some (z, false)) 2 y := rfl
theorem Py.keep {y z : Nat} (h : Al y = Al z) : Py (some (z, true)) 1 y := ⟨rfl, h⟩
theorem Sg {o : OpV} {r : RecV} {w : World} (hs : Bn o = true) (hn : o.n < 9223372036854775808) (hx : r.val < FL) :
  Aa Tryz.prog 129 [o.v, r.v] w (Rets fun v w' => v = .tuple #[(oneB o r).1.v, .int .i64 (oneB o r).2] ∧ Grew w w') := by
 refine sx129.ok ?_
 unfold sx129
 intro w1 hg1 w2 hg2 w3 hg3
 have hg3 := hg1.trans (hg2.trans hg3)
 refine T6.use fun v w4 ⟨hv, hg4⟩ => ?_
 subst hv
 have hg4 := hg3.trans hg4
 refine ⟨_, rfl, fun h => (by rw [hs] at h; cases h), fun _ => (Cs hx).use fun v w5 ⟨hv, hw⟩ => ?_⟩
 subst hv; subst hw
 have hcl : Al r.val < FL := B6 hx
 generalize hX : Al r.val = X at hcl
 refine ⟨_, rfl, fun y k f w' => Grew w w' ∧ y < FL ∧ k = keyB o r.key X ∧ Py (A0 o X) f y, ?_, ?_⟩
 ·have k0 : o.kind ≠ 11 → o.kind ≠ 12 → r.key = keyB o r.key X := by intro a b; unfold keyB; rw [if_neg a, if_neg b]
  refine ⟨fun h => ⟨_, Hz, fun hb => ?_, fun hb => ?_⟩, fun h1 => ⟨fun h => ⟨_, H0, fun hb => ?_, fun hb => ?_⟩, fun h2 => ⟨fun h => ⟨_, D3, fun hb => ?_, fun hb => ?_⟩, fun h3 => ⟨fun h => ?_, fun h4 => ⟨fun h => ?_, fun h5 => ⟨fun h => ?_, fun h6 => ⟨fun h => ?_, fun h7 => ⟨fun h => ?_, fun h8 => ⟨fun h => ?_, fun h9 => ⟨fun h => ?_, fun h10 => ⟨fun h => ?_, fun h11 => ⟨fun h => ?_, fun h12 => ?_⟩⟩⟩⟩⟩⟩⟩⟩⟩⟩⟩⟩
  all_goals simp only [beq_iff_eq, beq_eq_false_iff_ne, ne_eq] at *
  ·refine ⟨hg4, hcl, k0 (by omega) (by omega), ?_⟩
   have : A0 o X = some (X, false) := by unfold A0; rw [if_pos h]; congr 2; simpa using hb
   rw [this]; exact .drop
  ·refine ⟨hg4, hcl, k0 (by omega) (by omega), ?_⟩
   have : A0 o X = some (X, true) := by unfold A0; rw [if_pos h]; congr 2; simpa using hb
   rw [this]; exact .keep rfl
  ·refine ⟨hg4, hcl, k0 (by omega) (by omega), ?_⟩
   have : A0 o X = some (X, false) := by unfold A0; rw [if_neg h1, if_pos h]; congr 2; simpa using hb
   rw [this]; exact .drop
  ·refine ⟨hg4, hcl, k0 (by omega) (by omega), ?_⟩
   have : A0 o X = some (X, true) := by unfold A0; rw [if_neg h1, if_pos h]; congr 2; simpa using hb
   rw [this]; exact .keep rfl
  ·refine ⟨hg4, hcl, k0 (by omega) (by omega), ?_⟩
   have : A0 o X = some (X, false) := by unfold A0; rw [if_neg h1, if_neg h2, if_pos h, hb]; rfl
   rw [this]; exact .drop
  ·refine ⟨hg4, hcl, k0 (by omega) (by omega), ?_⟩
   have : A0 o X = some (X, true) := by unfold A0; rw [if_neg h1, if_neg h2, if_pos h, hb]; rfl
   rw [this]; exact .keep rfl
  ·refine (Yx hcl).use fun v w6 ⟨hv, hw⟩ => ?_
   subst hv; subst hw
   refine ⟨_, rfl, hg4, Nr hcl, k0 (by omega) (by omega), ?_⟩
   have : A0 o X = some (Ep X (T7 (Ep 4607182418800017408 X)), true) := by unfold A0; rw [if_neg h1, if_neg h2, if_neg h3, if_pos h]; rfl
   rw [this, Yw hcl]; exact .keep rfl
  ·refine (Ab1 hcl).use fun v w6 ⟨hv, hw⟩ => ?_
   subst hv; subst hw
   have hcl' : X < 18446744073709551616 := hcl
   refine ⟨_, rfl, hg4, by show X % 9223372036854775808 < 18446744073709551616; omega, k0 (by omega) (by omega), ?_⟩
   have : A0 o X = some (X % 9223372036854775808, true) := by unfold A0; rw [if_neg h1, if_neg h2, if_neg h3, if_neg h4, if_pos h]
   rw [this]; exact .keep rfl
  ·refine (Yr hcl).use fun v w6 ⟨hv, hg⟩ => ?_
   subst hv
   refine ⟨_, rfl, hg4.trans hg, L6 _, k0 (by omega) (by omega), ?_⟩
   have : A0 o X = some (Da X, true) := by unfold A0; rw [if_neg h1, if_neg h2, if_neg h3, if_neg h4, if_neg h5, if_pos h]
   rw [this]; exact .keep rfl
  ·refine (Yt hcl).use fun v w6 ⟨y, hv, hc, hl, hg⟩ => ?_
   subst hv
   refine ⟨_, rfl, hg4.trans hg, hl, k0 (by omega) (by omega), ?_⟩
   have : A0 o X = some (Iw X o.n, true) := by unfold A0; rw [if_neg h1, if_neg h2, if_neg h3, if_neg h4, if_neg h5, if_neg h6, if_pos h]
   rw [this]; exact .keep (by rw [hc, Iw, Le])
  ·refine Ee (.inr (.inr (.inr rfl))) fun q w6 hg hr => ?_
   obtain ⟨r1, r2⟩ := Wg hr
   refine ⟨q, rfl, hg4.trans hg, r2, k0 (by omega) (by omega), ?_⟩
   have : A0 o X = some (divF 4607182418800017408 X, true) := by unfold A0; rw [if_neg h1, if_neg h2, if_neg h3, if_neg h4, if_neg h5, if_neg h6, if_neg h7, if_pos h]
   rw [this]; exact .keep r1
  ·refine Ee (.inr (.inl rfl)) fun q w6 hg hr => ?_
   have hs := sub_self hr
   have ht : A0 o X = if nanB X || infB X then none else some (X, true) := by unfold A0; rw [if_neg h1, if_neg h2, if_neg h3, if_neg h4, if_neg h5, if_neg h6, if_neg h7, if_neg h8, if_pos h]
   refine ⟨q, rfl, _, Rw, fun hb => ⟨hg4.trans hg, hcl, k0 (by omega) (by omega), ?_⟩, fun hb => ⟨hg4.trans hg, hcl, k0 (by omega) (by omega), ?_⟩⟩
   ·rw [ht, if_pos (by rw [← hs]; exact hb)]; exact .trap
   ·rw [ht, if_neg (by rw [← hs, hb]; simp)]; exact .keep rfl
  ·have ht : A0 o X = if By X = 0 then none else some (numOf (IntKind.i64.wrap (Int.tdiv o.n (By X))), true) := by unfold A0; rw [if_neg h1, if_neg h2, if_neg h3, if_neg h4, if_neg h5, if_neg h6, if_neg h7, if_neg h8, if_neg h9, if_pos h]
   refine (Mm hcl).use fun v w6 ⟨hv, hw⟩ => ?_
   subst hv; subst hw
   refine ⟨_, rfl, fun h0 => ⟨hg4, hcl, k0 (by omega) (by omega), ?_⟩, fun h0 => ?_⟩
   ·have h0 : By X = 0 := by simpa using h0
    rw [ht, if_pos h0]; exact .trap
   ·have h0 : By X ≠ 0 := by simpa using h0
    refine (Aew h0).use fun v w7 ⟨hv, hw⟩ => ?_
    subst hv; subst hw
    refine ⟨_, rfl, Aev.use fun v w7 ⟨hv, hw⟩ => ?_⟩
    subst hv; subst hw
    refine ⟨_, rfl, hg4, Om _, k0 (by omega) (by omega), ?_⟩
    rw [ht, if_neg h0]; exact .keep rfl
  ·have ht : A0 o X = some (X, true) := by unfold A0; rw [if_neg h1, if_neg h2, if_neg h3, if_neg h4, if_neg h5, if_neg h6, if_neg h7, if_neg h8, if_neg h9, if_neg h10]
   refine ⟨fun h0 => ?_, fun h0 n hn => ⟨hg4, hcl, ?_, ?_⟩⟩
   ·exfalso
    unfold Bn at hs
    rw [if_neg (by omega), if_pos h] at hs
    simp only [decide_eq_true_eq] at hs
    rw [IntKind.wrap_u64] at h0
    omega
   ·unfold keyB; rw [if_pos h]; exact hn
   ·rw [ht]; exact .keep rfl
  ·have ht : A0 o X = some (X, true) := by unfold A0; rw [if_neg h1, if_neg h2, if_neg h3, if_neg h4, if_neg h5, if_neg h6, if_neg h7, if_neg h8, if_neg h9, if_neg h10]
   refine ⟨fun h0 => (by cases h0), fun _ n52 h52 => Ab2.use fun v w6 ⟨hv, hw⟩ => ?_⟩
   subst hv; subst hw
   refine ⟨_, rfl, fun n57 h57 => ⟨hg4, hcl, ?_, ?_⟩⟩
   ·unfold keyB; rw [if_neg h11, if_pos h, h57, h52]
   ·rw [ht]; exact .keep rfl
  ·have ht : A0 o X = some (X, true) := by unfold A0; rw [if_neg h1, if_neg h2, if_neg h3, if_neg h4, if_neg h5, if_neg h6, if_neg h7, if_neg h8, if_neg h9, if_neg h10]
   refine ⟨hg4, hcl, k0 h11 h12, ?_⟩
   rw [ht]; exact .keep rfl
 ·rintro y k f w6 ⟨hg6, hyl, rfl, hf⟩
  have ho : ∀ (z : Nat) (b : Bool), A0 o X = some (z, b) → oneB o r = if b then (⟨keyB o r.key X, Al z⟩, 1) else (rec0, 2) := by
   intro z b h
   unfold oneB Ge
   rw [hX, h]; cases b <;> rfl
  cases ht : A0 o X with
  | none =>
   rw [ht] at hf
   have e : oneB o r = (rec0, 3) := by unfold oneB Ge; rw [hX, ht]
   have hf : f = 3 := hf
   subst hf
   exact ⟨fun _ => ⟨_, rfl, by rw [e]; rfl, hg6⟩, fun h => (by cases h)⟩
  | some p =>
   obtain ⟨z, b⟩ := p
   rw [ht] at hf
   have e := ho z b ht
   cases b
   ·have hf : f = 2 := hf
    subst hf
    exact ⟨fun _ => ⟨_, rfl, by rw [e]; rfl, hg6⟩, fun h => (by cases h)⟩
   ·obtain ⟨hf, hc⟩ := hf
    subst hf
    refine ⟨fun h => (by cases h), fun _ => (Cs hyl).use fun v w7 ⟨hv, hw⟩ => ?_⟩
    subst hv; subst hw
    exact ⟨_, rfl, _, rfl, by rw [e, hc]; rfl, hg6⟩
theorem Vn {w : World} {a : Addr} {v : Value} (h : w.cell? a = some v) : a.block < w.heap.size := by
 by_cases hb : a.block < w.heap.size
 ·exact hb
 ·exfalso
  have : w.heap[a.block]? = none := Array.getElem?_eq_none (by omega)
  simp [World.cell?, this] at h
theorem Ni {x y : World} {d : Addr} {v : Value} {r : List Value} (hc : Ae x d 0 (v :: r)) (hg : Grew x y) : Ad x y [d] := by
 refine ⟨hg.block _ ?_, trivial⟩
 have := Vn hc.1
 rwa [Addr.add_zero'] at this
theorem Q7 (o : OpV) (l : List OpV) (r : RecV) : Fi (o :: l) r = if (oneB o r).2 = 1 then Fi l (oneB o r).1 else (rec0, (oneB o r).2) := by
 unfold oneB
 rw [Fi]
 cases Ge o r with
 | none => rfl
 | some p => obtain ⟨r', b⟩ := p; cases b <;> rfl
theorem J7 {o : OpV} {r : RecV} (hs : Bn o = true) (ho : o.Fits) (hr : r.Fits) : (oneB o r).1.Fits := by
 unfold oneB
 have h0 : rec0.Fits := ⟨⟨by decide, by decide⟩, by decide⟩
 cases ha : Ge o r with
 | none => exact h0
 | some p =>
  obtain ⟨r', b⟩ := p
  cases b
  ·exact h0
  ·exact I8 hs ho hr ha
theorem W5 {a : Option Addr} {n c : Nat} {l : List OpV} {r : RecV} {w : World} (hr : Reads w Enc.op3 (a, n, c) l) (hl : ∀ o ∈ l, o.Fits) (hf : r.Fits) :
  Aa Tryz.prog 106 [.slice a n c, r.v] w (Rets fun v w' => v = .tuple #[(runB l r).1.v, .int .i64 (runB l r).2] ∧ Grew w w') := by
 refine sx106.ok ?_
 unfold sx106
 have hn : n = l.length := hr.2.1
 subst hn
 have nb : ∀ {x y : World}, Ad x y [] := by intro x y; simp [Ad]
 intro w1 hg1 w2 hg2
 have hg2 := hg1.trans hg2
 refine (J4 (hr.grew hg2)).use fun v w3 ⟨hv, hg3⟩ => ?_
 subst hv
 have hg3 := hg2.trans hg3
 refine ⟨_, rfl, fun h => ?_, fun h w7 hg7 => ?_⟩
 ·have : Aw l = false := by
   cases hc : Aw l
   ·rfl
   ·rw [hc] at h; cases h
  exact ⟨_, rfl, by unfold runB; rw [this]; rfl, hg3⟩
 have hc : Aw l = true := by
  cases hc : Aw l
  ·rw [hc] at h; cases h
  ·rfl
 obtain ⟨hlen, hst⟩ := Cu hc
 have hg7 := hg3.trans hg7
 have hR : runB l r = Fi l ⟨r.key, Al r.val⟩ := by unfold runB; rw [if_pos hc]
 rw [hR]
 generalize hR' : Fi l ⟨r.key, Al r.val⟩ = R
 have hc0 : Al r.val < FL := B6 hf.2
 clear hg1 hg2 hg3
 refine ⟨(Cs hf.2).use fun v w8 ⟨hv, hw⟩ => ?_, fun wA hgA => ⟨nb, (Cs hf.2).use fun v w8 ⟨hv, hw⟩ => ?_⟩⟩
 ·subst hv; subst hw
  refine ⟨_, rfl, nb, fun wL hgL => ⟨nb, ?_⟩⟩
  have hL := hg7.trans hgL
  refine ⟨fun i _ _ k x w' => ∃ j : Nat, i = j ∧ j ≤ l.length ∧ Fi (l.drop j) ⟨k, x⟩ = R ∧ RecV.Fits ⟨k, x⟩ ∧ Grew w w', fun i _ _ _ _ _ => l.length - i.toNat, ⟨0, rfl, Nat.zero_le _, hR', ⟨hf.1, hc0⟩, hL⟩, ?_⟩
  rintro i _ _ k x w14 ⟨j, rfl, hj, hT, hfx, hg14⟩
  refine ⟨fun hlt w20 hg20 => ?_, fun hge => ?_⟩
  ·simp only [decide_eq_true_eq] at hlt
   have hg20 := hg14.trans hg20
   obtain ⟨d, o, rfl, ho, hcc⟩ := (hr.grew hg20).at0 (k := j) (by omega)
   have hw : IntKind.i64.wrap ((j : Int) + 1) = ((j + 1 : Nat) : Int) := by rw [IntKind.wrap_i64]; omega
   have hos := hst o (List.mem_of_getElem? ho)
   have hof := hl o (List.mem_of_getElem? ho)
   rw [Hg ho, Q7] at hT
   refine ⟨⟨by omega, by omega⟩, _, _, _, Ck hcc, (Sg (o := o) (r := ⟨k, x⟩) hos hof.2.1.2 hfx.2).use fun v w25 ⟨hv, hg25⟩ => ?_, fun w32 hg32 => ⟨Ni (Ck hcc) hg32, (Sg (o := o) (r := ⟨k, x⟩) hos hof.2.1.2 hfx.2).use fun v w33 ⟨hv, hg33⟩ => ?_⟩⟩
   ·subst hv
    refine ⟨_, _, _, rfl, Ni (Ck hcc) hg25, fun w31 hg31 => ⟨Ni ((Ck hcc).grew hg25) hg31, fun hb => ?_, fun hb => ?_⟩⟩
    ·simp only [bne_iff_ne, ne_eq] at hb
     rw [if_neg hb] at hT
     exact ⟨_, rfl, by rw [← hT]; rfl, hg20.trans (hg25.trans hg31)⟩
    ·simp only [bne_eq_false_iff_eq] at hb
     rw [if_pos hb] at hT
     rw [hw]
     exact ⟨⟨j + 1, rfl, by omega, hT, J7 hos hof hfx, hg20.trans (hg25.trans hg31)⟩, by show l.length - (((j + 1 : Nat) : Int)).toNat < l.length - ((j : Int)).toNat; omega⟩
   ·subst hv
    refine ⟨_, _, _, rfl, Ni ((Ck hcc).grew hg32) hg33, fun hb => ?_, fun hb => ?_⟩
    ·simp only [bne_iff_ne, ne_eq] at hb
     rw [if_neg hb] at hT
     exact ⟨_, rfl, by rw [← hT]; rfl, hg20.trans (hg32.trans hg33)⟩
    ·simp only [bne_eq_false_iff_eq] at hb
     rw [if_pos hb] at hT
     rw [hw]
     exact ⟨⟨j + 1, rfl, by omega, hT, J7 hos hof hfx, hg20.trans (hg32.trans hg33)⟩, by show l.length - (((j + 1 : Nat) : Int)).toNat < l.length - ((j : Int)).toNat; omega⟩
  ·simp only [decide_eq_false_iff_not] at hge
   rw [List.drop_of_length_le (by omega)] at hT
   exact ⟨_, rfl, by rw [← hT]; rfl, hg14⟩
 ·subst hv; subst hw
  refine ⟨_, rfl, nb, ?_⟩
  have hL := hg7.trans hgA
  refine ⟨fun i _ _ k x w' => ∃ j : Nat, i = j ∧ j ≤ l.length ∧ Fi (l.drop j) ⟨k, x⟩ = R ∧ RecV.Fits ⟨k, x⟩ ∧ Grew w w', fun i _ _ _ _ _ => l.length - i.toNat, ⟨0, rfl, Nat.zero_le _, hR', ⟨hf.1, hc0⟩, hL⟩, ?_⟩
  rintro i _ _ k x w14 ⟨j, rfl, hj, hT, hfx, hg14⟩
  refine ⟨fun hlt w20 hg20 => ?_, fun hge => ?_⟩
  ·simp only [decide_eq_true_eq] at hlt
   have hg20 := hg14.trans hg20
   obtain ⟨d, o, rfl, ho, hcc⟩ := (hr.grew hg20).at0 (k := j) (by omega)
   have hw : IntKind.i64.wrap ((j : Int) + 1) = ((j + 1 : Nat) : Int) := by rw [IntKind.wrap_i64]; omega
   have hos := hst o (List.mem_of_getElem? ho)
   have hof := hl o (List.mem_of_getElem? ho)
   rw [Hg ho, Q7] at hT
   refine ⟨⟨by omega, by omega⟩, _, _, _, Ck hcc, (Sg (o := o) (r := ⟨k, x⟩) hos hof.2.1.2 hfx.2).use fun v w25 ⟨hv, hg25⟩ => ?_, fun w32 hg32 => ⟨Ni (Ck hcc) hg32, (Sg (o := o) (r := ⟨k, x⟩) hos hof.2.1.2 hfx.2).use fun v w33 ⟨hv, hg33⟩ => ?_⟩⟩
   ·subst hv
    refine ⟨_, _, _, rfl, Ni (Ck hcc) hg25, fun w31 hg31 => ⟨Ni ((Ck hcc).grew hg25) hg31, fun hb => ?_, fun hb => ?_⟩⟩
    ·simp only [bne_iff_ne, ne_eq] at hb
     rw [if_neg hb] at hT
     exact ⟨_, rfl, by rw [← hT]; rfl, hg20.trans (hg25.trans hg31)⟩
    ·simp only [bne_eq_false_iff_eq] at hb
     rw [if_pos hb] at hT
     rw [hw]
     exact ⟨⟨j + 1, rfl, by omega, hT, J7 hos hof hfx, hg20.trans (hg25.trans hg31)⟩, by show l.length - (((j + 1 : Nat) : Int)).toNat < l.length - ((j : Int)).toNat; omega⟩
   ·subst hv
    refine ⟨_, _, _, rfl, Ni ((Ck hcc).grew hg32) hg33, fun hb => ?_, fun hb => ?_⟩
    ·simp only [bne_iff_ne, ne_eq] at hb
     rw [if_neg hb] at hT
     exact ⟨_, rfl, by rw [← hT]; rfl, hg20.trans (hg32.trans hg33)⟩
    ·simp only [bne_eq_false_iff_eq] at hb
     rw [if_pos hb] at hT
     rw [hw]
     exact ⟨⟨j + 1, rfl, by omega, hT, J7 hos hof hfx, hg20.trans (hg32.trans hg33)⟩, by show l.length - (((j + 1 : Nat) : Int)).toNat < l.length - ((j : Int)).toNat; omega⟩
  ·simp only [decide_eq_false_iff_not] at hge
   rw [List.drop_of_length_le (by omega)] at hT
   exact ⟨_, rfl, by rw [← hT]; rfl, hg14⟩
theorem W6 {a : Option Addr} {n c : Nat} {l : List OpV} {r : RecV} {w : World} (hr : Reads w Enc.op3 (a, n, c) l) (hl : ∀ o ∈ l, o.Fits) (hf : r.Fits) :
  Aa Tryz.prog 55 [.slice a n c, r.v] w (Rets fun v w' => v = .tuple #[.int .u64 (A8 l r).1, .bool (A8 l r).2] ∧ Grew w w') := by
 refine sx55.ok ?_
 unfold sx55
 intro w1 hg1
 refine (W5 (hr.grew hg1) hl hf).use fun v w2 ⟨hv, hg2⟩ => ?_
 subst hv
 refine ⟨_, _, _, rfl, fun w8 hg8 => ⟨_, rfl, ?_, hg1.trans (hg2.trans hg8)⟩⟩
 unfold A8
 congr 4
end Go.Proofs.YtcpkneemhfnanaaGreat
