/- What the sort's parts hand back: insertion, heap, reversal, partitions, partial insertion. Conditions: none. -/
import Derived.Test.YtcpkneemhfnanaaGreatProg
import Derived.Test.YtcpkneemhfnanaaGreatAgg
import Derived.Test.YtcpkneemhfnanaaGreatSxN
import Derived.Test.YtcpkneemhfnanaaGreatSxP
namespace Go.Proofs.YtcpkneemhfnanaaGreat
open Go.Sx
set_option maxRecDepth 100000
set_option linter.unusedVariables false
set_option linter.unusedSimpArgs false
def sx204 (x : Int) (R : Ending → World → Prop) (w : World) : Prop :=
 R (.returned (.bool (x != x))) w
theorem sx204.ok {x : Int} {R : Ending → World → Prop} {w : World} (h : sx204 x R w) : Aa Tryz.prog 204 [.int .u64 x] w R :=
 okOf {} mix Tryz.func204 (by kernel_rfl) (by kernel_rfl) (by kernel_rfl) h
def sx191 (x y : Int) (R : Ending → World → Prop) (w : World) : Prop :=
 Aa Tryz.prog 204 [.int .u64 x] w (RetR R fun u2 w1 => ∃ b3, u2 = .bool b3 ∧ ifB b3 (Aa Tryz.prog 204 [.int .u64 y] w1 (RetR R fun u6 w5 => ∃ b7, u6 = .bool b7 ∧ ifB (!b7) (R (.returned (.bool true)) w5) (R (.returned (.bool (decide (x < y)))) w5))) (R (.returned (.bool (decide (x < y)))) w1))
theorem sx191.ok {x y : Int} {R : Ending → World → Prop} {w : World} (h : sx191 x y R w) : Aa Tryz.prog 191 [.int .u64 x, .int .u64 y] w R :=
 okOf {} mix Tryz.func191 (by kernel_rfl) (by kernel_rfl) (by kernel_rfl) h
def sx185 (data : Option Addr) (data_n data_c : Nat) (a b : Int) (R : Ending → World → Prop) (w : World) : Prop :=
 ∃ (I1 : Int → World → Prop) (m1 : Int → World → Nat), I1 (IntKind.i64.wrap (a + 1)) w ∧ ∀ n2 w3, I1 n2 w3 → ifB (decide (n2 < b)) (∃ (I4 : Int → World → Prop) (m4 : Int → World → Nat), I4 n2 w3 ∧ ∀ n5 w6, I4 n5 w6 → ∀ w7, Grew w6 w7 → ifB (decide (n5 > a)) (Ab data (fun d8 => (0 ≤ n5 ∧ n5 < (data_n : Nat)) ∧ ∃ n9, w7.cell? (Addr.add d8 (n5.toNat * 1)) = some (.int .u64 n9) ∧ Ab data (fun d10 => (0 ≤ (IntKind.i64.wrap (n5 - 1)) ∧ (IntKind.i64.wrap (n5 - 1)) < (data_n : Nat)) ∧ ∃ n11, w7.cell? (Addr.add d10 ((IntKind.i64.wrap (n5 - 1)).toNat * 1)) = some (.int .u64 n11) ∧ Aa Tryz.prog 191 [.int .u64 n9, .int .u64 n11] w7 (RetR R fun u13 w12 => ∃ b14, u13 = .bool b14 ∧ Ad w7 w12 [(Addr.add d10 ((IntKind.i64.wrap (n5 - 1)).toNat * 1)), (Addr.add d8 (n5.toNat * 1))] ∧ ifB b14 (∀ w16, Grew w12 w16 → Ab data (fun d17 => (0 ≤ (IntKind.i64.wrap (n5 - 1)) ∧ (IntKind.i64.wrap (n5 - 1)) < (data_n : Nat)) ∧ ∃ n18, w16.cell? (Addr.add d17 ((IntKind.i64.wrap (n5 - 1)).toNat * 1)) = some (.int .u64 n18) ∧ Ab data (fun d19 => (0 ≤ n5 ∧ n5 < (data_n : Nat)) ∧ ∃ n20, w16.cell? (Addr.add d19 (n5.toNat * 1)) = some (.int .u64 n20) ∧ Ab data (fun d21 => (0 ≤ n5 ∧ n5 < (data_n : Nat)) ∧ Af w16 (Addr.add d21 (n5.toNat * 1)) 0 [.int .u64 n18] ∧ ∀ w22, w22 = setCells w16 (Addr.add d21 (n5.toNat * 1)) 0 [.int .u64 n18] → Ab data (fun d23 => (0 ≤ (IntKind.i64.wrap (n5 - 1)) ∧ (IntKind.i64.wrap (n5 - 1)) < (data_n : Nat)) ∧ Af w22 (Addr.add d23 ((IntKind.i64.wrap (n5 - 1)).toNat * 1)) 0 [.int .u64 n20] ∧ ∀ w24, w24 = setCells w22 (Addr.add d23 ((IntKind.i64.wrap (n5 - 1)).toNat * 1)) 0 [.int .u64 n20] → (I4 (IntKind.i64.wrap (n5 - 1)) w24 ∧ m4 (IntKind.i64.wrap (n5 - 1)) w24 < m4 n5 w6)))))) ((I1 (IntKind.i64.wrap (n2 + 1)) w12 ∧ m1 (IntKind.i64.wrap (n2 + 1)) w12 < m1 n2 w3)))))) ((I1 (IntKind.i64.wrap (n2 + 1)) w7 ∧ m1 (IntKind.i64.wrap (n2 + 1)) w7 < m1 n2 w3))) (R (.returned (.tuple #[])) w3)
theorem sx185.ok {data : Option Addr} {data_n data_c : Nat} {a b : Int} {R : Ending → World → Prop} {w : World} (h : sx185 data data_n data_c a b R w) : Aa Tryz.prog 185 [.slice data data_n data_c, .int .i64 a, .int .i64 b] w R :=
 okOf { draws := [(4, { order := (ol [0,1,2,3,4,5,6,7,8,9,10,11,12,13,14] .nil), bars := [] }), (6, { order := (ol [0,1,2,3,4,5,6,7,8,9,10,11,12,13,14,15,16,17] .nil), bars := [15, 17] })], loops := [(4, { slots := [(7, .int .i64)], cells := [] }), (1001, { slots := [(6, .int .i64)], cells := [] })] } mix Tryz.func185 (by kernel_rfl) (by kernel_rfl) (by kernel_rfl) h
def sx201 (d : Option Addr) (d_n d_c : Nat) (i p2 p3 : Int) (R : Ending → World → Prop) (w : World) : Prop :=
 ∃ (I1 : Int → World → Prop) (m1 : Int → World → Nat), I1 i w ∧ ∀ n2 w3, I1 n2 w3 → ∀ n4 : Int, n4 = IntKind.i64.wrap ((2 : Int) * n2) → ifB (decide ((IntKind.i64.wrap (n4 + 1)) ≥ p2)) (R (.returned (.tuple #[])) w3) (∃ J5 : Int → World → Prop, (∀ w6, Grew w3 w6 → ∀ n7 : Int, n7 = IntKind.i64.wrap ((IntKind.i64.wrap (n4 + 1)) + 1) → ifB (decide (n7 < p2)) (∀ n8 : Int, n8 = IntKind.i64.wrap (p3 + (IntKind.i64.wrap (n4 + 1))) → Ab d (fun d9 => (0 ≤ n8 ∧ n8 < (d_n : Nat)) ∧ ∃ n10, w6.cell? (Addr.add d9 (n8.toNat * 1)) = some (.int .u64 n10) ∧ ∀ n11 : Int, n11 = IntKind.i64.wrap (p3 + (IntKind.i64.wrap (n4 + 1))) → Ab d (fun d12 => (0 ≤ (IntKind.i64.wrap (n11 + 1)) ∧ (IntKind.i64.wrap (n11 + 1)) < (d_n : Nat)) ∧ ∃ n13, w6.cell? (Addr.add d12 ((IntKind.i64.wrap (n11 + 1)).toNat * 1)) = some (.int .u64 n13) ∧ Aa Tryz.prog 191 [.int .u64 n10, .int .u64 n13] w6 (RetR R fun u15 w14 => ∃ b16, u15 = .bool b16 ∧ Ad w6 w14 [(Addr.add d12 ((IntKind.i64.wrap (n11 + 1)).toNat * 1)), (Addr.add d9 (n8.toNat * 1))] ∧ ifB b16 (∀ n18 : Int, n18 = IntKind.i64.wrap ((IntKind.i64.wrap (n4 + 1)) + 1) → J5 n18 w14) (J5 (IntKind.i64.wrap (n4 + 1)) w14))))) (J5 (IntKind.i64.wrap (n4 + 1)) w6)) ∧ ∀ n19 w20, J5 n19 w20 → ∀ w21, Grew w20 w21 → Ab d (fun d22 => (0 ≤ (IntKind.i64.wrap (p3 + n2)) ∧ (IntKind.i64.wrap (p3 + n2)) < (d_n : Nat)) ∧ ∃ n23, w21.cell? (Addr.add d22 ((IntKind.i64.wrap (p3 + n2)).toNat * 1)) = some (.int .u64 n23) ∧ ∀ n24 : Int, n24 = IntKind.i64.wrap (p3 + n19) → Ab d (fun d25 => (0 ≤ n24 ∧ n24 < (d_n : Nat)) ∧ ∃ n26, w21.cell? (Addr.add d25 (n24.toNat * 1)) = some (.int .u64 n26) ∧ Aa Tryz.prog 191 [.int .u64 n23, .int .u64 n26] w21 (RetR R fun u28 w27 => ∃ b29, u28 = .bool b29 ∧ ifB (!b29) (R (.returned (.tuple #[])) w27) (∀ w31, Grew w27 w31 → ∀ n32 : Int, n32 = IntKind.i64.wrap (p3 + n19) → ∀ n33 : Int, n33 = IntKind.i64.wrap (p3 + n19) → Ab d (fun d34 => (0 ≤ n33 ∧ n33 < (d_n : Nat)) ∧ ∃ n35, w31.cell? (Addr.add d34 (n33.toNat * 1)) = some (.int .u64 n35) ∧ Ab d (fun d36 => (0 ≤ (IntKind.i64.wrap (p3 + n2)) ∧ (IntKind.i64.wrap (p3 + n2)) < (d_n : Nat)) ∧ ∃ n37, w31.cell? (Addr.add d36 ((IntKind.i64.wrap (p3 + n2)).toNat * 1)) = some (.int .u64 n37) ∧ Ab d (fun d38 => (0 ≤ (IntKind.i64.wrap (p3 + n2)) ∧ (IntKind.i64.wrap (p3 + n2)) < (d_n : Nat)) ∧ Af w31 (Addr.add d38 ((IntKind.i64.wrap (p3 + n2)).toNat * 1)) 0 [.int .u64 n35] ∧ ∀ w39, w39 = setCells w31 (Addr.add d38 ((IntKind.i64.wrap (p3 + n2)).toNat * 1)) 0 [.int .u64 n35] → Ab d (fun d40 => (0 ≤ n32 ∧ n32 < (d_n : Nat)) ∧ Af w39 (Addr.add d40 (n32.toNat * 1)) 0 [.int .u64 n37] ∧ ∀ w41, w41 = setCells w39 (Addr.add d40 (n32.toNat * 1)) 0 [.int .u64 n37] → (I1 n19 w41 ∧ m1 n19 w41 < m1 n2 w3))))))))))
theorem sx201.ok {d : Option Addr} {d_n d_c : Nat} {i p2 p3 : Int} {R : Ending → World → Prop} {w : World} (h : sx201 d d_n d_c i p2 p3 R w) : Aa Tryz.prog 201 [.slice d d_n d_c, .int .i64 i, .int .i64 p2, .int .i64 p3] w R :=
 okOf { named := [12, 18, 25, 31, 38, 48, 60, 64], draws := [(3, { order := (ol [0,1,2,3,4,5,6,7,8,9,10,11,12,13,14,15,16,17,18,19] .nil), bars := [] }), (5, { order := (ol [0,1,2,3,4,5,6,7,8,9,10,11,12,13] .nil), bars := [12] }), (6, { order := (ol [0,1,2,3,4,5,6,7,8,9,10,11,12,13,14,15,16,17,18,19,20,21,22,23] .nil), bars := [21, 23] })], loops := [(1, { slots := [(8, .int .i64)], cells := [] })], cuts := [(5, { slots := [(9, .int .i64)], cells := [] })] } mix Tryz.func201 (by kernel_rfl) (by kernel_rfl) (by kernel_rfl) h
def sx186 (data : Option Addr) (data_n data_c : Nat) (a b : Int) (R : Ending → World → Prop) (w : World) : Prop :=
 ∀ n1 : Int, n1 = IntKind.i64.wrap ((IntKind.i64.wrap (b - a)) - 1) → (((2 : Int) = 0 → R (.panicked (Bq Tryz.prog)) w) ∧ ((2 : Int) ≠ 0 → ∀ n2 : Int, n2 = IntKind.i64.wrap (Int.tdiv n1 2) → ∃ (I3 : Int → World → Prop) (m3 : Int → World → Nat), I3 n2 w ∧ ∀ n4 w5, I3 n4 w5 → ifB (decide (n4 ≥ 0)) (Aa Tryz.prog 201 [.slice data data_n data_c, .int .i64 n4, .int .i64 (IntKind.i64.wrap (b - a)), .int .i64 a] w5 (RetR R fun u7 w6 => u7 = .tuple #[] ∧ (I3 (IntKind.i64.wrap (n4 - 1)) w6 ∧ m3 (IntKind.i64.wrap (n4 - 1)) w6 < m3 n4 w5))) (∀ n9 : Int, n9 = IntKind.i64.wrap ((IntKind.i64.wrap (b - a)) - 1) → ∃ (I10 : Int → World → Prop) (m10 : Int → World → Nat), I10 n9 w5 ∧ ∀ n11 w12, I10 n11 w12 → ifB (decide (n11 ≥ 0)) (∀ w13, Grew w12 w13 → Ab data (fun d14 => (0 ≤ (IntKind.i64.wrap (a + n11)) ∧ (IntKind.i64.wrap (a + n11)) < (data_n : Nat)) ∧ ∃ n15, w13.cell? (Addr.add d14 ((IntKind.i64.wrap (a + n11)).toNat * 1)) = some (.int .u64 n15) ∧ Ab data (fun d16 => (0 ≤ a ∧ a < (data_n : Nat)) ∧ ∃ n17, w13.cell? (Addr.add d16 (a.toNat * 1)) = some (.int .u64 n17) ∧ Ab data (fun d18 => (0 ≤ a ∧ a < (data_n : Nat)) ∧ Af w13 (Addr.add d18 (a.toNat * 1)) 0 [.int .u64 n15] ∧ ∀ w19, w19 = setCells w13 (Addr.add d18 (a.toNat * 1)) 0 [.int .u64 n15] → Ab data (fun d20 => (0 ≤ (IntKind.i64.wrap (a + n11)) ∧ (IntKind.i64.wrap (a + n11)) < (data_n : Nat)) ∧ Af w19 (Addr.add d20 ((IntKind.i64.wrap (a + n11)).toNat * 1)) 0 [.int .u64 n17] ∧ ∀ w21, w21 = setCells w19 (Addr.add d20 ((IntKind.i64.wrap (a + n11)).toNat * 1)) 0 [.int .u64 n17] → Aa Tryz.prog 201 [.slice data data_n data_c, .int .i64 0, .int .i64 n11, .int .i64 a] w21 (RetR R fun u23 w22 => u23 = .tuple #[] ∧ (I10 (IntKind.i64.wrap (n11 - 1)) w22 ∧ m10 (IntKind.i64.wrap (n11 - 1)) w22 < m10 n11 w12))))))) (R (.returned (.tuple #[])) w12))))
theorem sx186.ok {data : Option Addr} {data_n data_c : Nat} {a b : Int} {R : Ending → World → Prop} {w : World} (h : sx186 data data_n data_c a b R w) : Aa Tryz.prog 186 [.slice data data_n data_c, .int .i64 a, .int .i64 b] w R :=
 okOf { named := [16, 17, 28], draws := [(10, { order := (ol [0,1,2,3,4,5,6,7,8,9,10,11,12,13,14,15,16,17,18,19] .nil), bars := [17, 19] })], loops := [(4, { slots := [(9, .int .i64)], cells := [] }), (8, { slots := [(10, .int .i64)], cells := [] })] } mix Tryz.func186 (by kernel_rfl) (by kernel_rfl) (by kernel_rfl) h
def sx189 (data : Option Addr) (data_n data_c : Nat) (a b : Int) (R : Ending → World → Prop) (w : World) : Prop :=
 ∃ (I1 : Int → Int → World → Prop) (m1 : Int → Int → World → Nat), I1 a (IntKind.i64.wrap (b - 1)) w ∧ ∀ n2 n3 w4, I1 n2 n3 w4 → ifB (decide (n2 < n3)) (∀ w5, Grew w4 w5 → Ab data (fun d6 => (0 ≤ n3 ∧ n3 < (data_n : Nat)) ∧ ∃ n7, w5.cell? (Addr.add d6 (n3.toNat * 1)) = some (.int .u64 n7) ∧ Ab data (fun d8 => (0 ≤ n2 ∧ n2 < (data_n : Nat)) ∧ ∃ n9, w5.cell? (Addr.add d8 (n2.toNat * 1)) = some (.int .u64 n9) ∧ Ab data (fun d10 => (0 ≤ n2 ∧ n2 < (data_n : Nat)) ∧ Af w5 (Addr.add d10 (n2.toNat * 1)) 0 [.int .u64 n7] ∧ ∀ w11, w11 = setCells w5 (Addr.add d10 (n2.toNat * 1)) 0 [.int .u64 n7] → Ab data (fun d12 => (0 ≤ n3 ∧ n3 < (data_n : Nat)) ∧ Af w11 (Addr.add d12 (n3.toNat * 1)) 0 [.int .u64 n9] ∧ ∀ w13, w13 = setCells w11 (Addr.add d12 (n3.toNat * 1)) 0 [.int .u64 n9] → (I1 (IntKind.i64.wrap (n2 + 1)) (IntKind.i64.wrap (n3 - 1)) w13 ∧ m1 (IntKind.i64.wrap (n2 + 1)) (IntKind.i64.wrap (n3 - 1)) w13 < m1 n2 n3 w4)))))) (R (.returned (.tuple #[])) w4)
theorem sx189.ok {data : Option Addr} {data_n data_c : Nat} {a b : Int} {R : Ending → World → Prop} {w : World} (h : sx189 data data_n data_c a b R w) : Aa Tryz.prog 189 [.slice data data_n data_c, .int .i64 a, .int .i64 b] w R :=
 okOf { draws := [(3, { order := (ol [0,1,2,3,4,5,6,7,8,9,10,11,12,13,14,15] .nil), bars := [13, 15] })], loops := [(2, { slots := [(6, .int .i64), (7, .int .i64)], cells := [] })] } mix Tryz.func189 (by kernel_rfl) (by kernel_rfl) (by kernel_rfl) h
def sx193 (d : Option Addr) (d_n d_c : Nat) (i p2 p3 : Int) (R : Ending → World → Prop) (w : World) : Prop :=
  ∀ w1, Grew w w1 → Ab d (fun d2 => (0 ≤ p3 ∧ p3 < (d_n : Nat)) ∧ ∃ n3, w1.cell? (Addr.add d2 (p3.toNat * 1)) = some (.int .u64 n3) ∧ Ab d (fun d4 => (0 ≤ i ∧ i < (d_n : Nat)) ∧ ∃ n5, w1.cell? (Addr.add d4 (i.toNat * 1)) = some (.int .u64 n5) ∧ Ab d (fun d6 => (0 ≤ i ∧ i < (d_n : Nat)) ∧ Af w1 (Addr.add d6 (i.toNat * 1)) 0 [.int .u64 n3] ∧ ∀ w7, w7 = setCells w1 (Addr.add d6 (i.toNat * 1)) 0 [.int .u64 n3] → Ab d (fun d8 => (0 ≤ p3 ∧ p3 < (d_n : Nat)) ∧ Af w7 (Addr.add d8 (p3.toNat * 1)) 0 [.int .u64 n5] ∧ ∀ w9, w9 = setCells w7 (Addr.add d8 (p3.toNat * 1)) 0 [.int .u64 n5] → ∃ J10 : Int → World → Prop, (∃ (I11 : Int → World → Prop) (m11 : Int → World → Nat), I11 (IntKind.i64.wrap (i + 1)) w9 ∧ ∀ n12 w13, I11 n12 w13 → ∀ w14, Grew w13 w14 → ifB (decide (n12 ≤ IntKind.i64.wrap (p2 - 1))) (Ab d (fun d15 => (0 ≤ n12 ∧ n12 < (d_n : Nat)) ∧ ∃ n16, w14.cell? (Addr.add d15 (n12.toNat * 1)) = some (.int .u64 n16) ∧ Ab d (fun d17 => (0 ≤ i ∧ i < (d_n : Nat)) ∧ ∃ n18, w14.cell? (Addr.add d17 (i.toNat * 1)) = some (.int .u64 n18) ∧ Aa Tryz.prog 191 [.int .u64 n16, .int .u64 n18] w14 (RetR R fun u20 w19 => ∃ b21, u20 = .bool b21 ∧ Ad w14 w19 [(Addr.add d17 (i.toNat * 1)), (Addr.add d15 (n12.toNat * 1))] ∧ ifB b21 ((I11 (IntKind.i64.wrap (n12 + 1)) w19 ∧ m11 (IntKind.i64.wrap (n12 + 1)) w19 < m11 n12 w13)) (J10 n12 w19))))) (J10 n12 w14)) ∧ ∀ n23 w24, J10 n23 w24 → ∃ J25 : Int → World → Prop, (∃ (I26 : Int → World → Prop) (m26 : Int → World → Nat), I26 (IntKind.i64.wrap (p2 - 1)) w24 ∧ ∀ n27 w28, I26 n27 w28 → ∀ w29, Grew w28 w29 → ifB (decide (n23 ≤ n27)) (Ab d (fun d30 => (0 ≤ n27 ∧ n27 < (d_n : Nat)) ∧ ∃ n31, w29.cell? (Addr.add d30 (n27.toNat * 1)) = some (.int .u64 n31) ∧ Ab d (fun d32 => (0 ≤ i ∧ i < (d_n : Nat)) ∧ ∃ n33, w29.cell? (Addr.add d32 (i.toNat * 1)) = some (.int .u64 n33) ∧ Aa Tryz.prog 191 [.int .u64 n31, .int .u64 n33] w29 (RetR R fun u35 w34 => ∃ b36, u35 = .bool b36 ∧ Ad w29 w34 [(Addr.add d32 (i.toNat * 1)), (Addr.add d30 (n27.toNat * 1))] ∧ ifB (!b36) ((I26 (IntKind.i64.wrap (n27 - 1)) w34 ∧ m26 (IntKind.i64.wrap (n27 - 1)) w34 < m26 n27 w28)) (J25 n27 w34))))) (J25 n27 w29)) ∧ ∀ n38 w39, J25 n38 w39 → ifB (decide (n23 > n38)) (∀ w40, Grew w39 w40 → Ab d (fun d41 => (0 ≤ i ∧ i < (d_n : Nat)) ∧ ∃ n42, w40.cell? (Addr.add d41 (i.toNat * 1)) = some (.int .u64 n42) ∧ Ab d (fun d43 => (0 ≤ n38 ∧ n38 < (d_n : Nat)) ∧ ∃ n44, w40.cell? (Addr.add d43 (n38.toNat * 1)) = some (.int .u64 n44) ∧ Ab d (fun d45 => (0 ≤ n38 ∧ n38 < (d_n : Nat)) ∧ Af w40 (Addr.add d45 (n38.toNat * 1)) 0 [.int .u64 n42] ∧ ∀ w46, w46 = setCells w40 (Addr.add d45 (n38.toNat * 1)) 0 [.int .u64 n42] → Ab d (fun d47 => (0 ≤ i ∧ i < (d_n : Nat)) ∧ Af w46 (Addr.add d47 (i.toNat * 1)) 0 [.int .u64 n44] ∧ ∀ w48, w48 = setCells w46 (Addr.add d47 (i.toNat * 1)) 0 [.int .u64 n44] → R (.returned (.tuple #[.int .i64 n38, .bool true])) w48))))) (∀ w49, Grew w39 w49 → Ab d (fun d50 =>
 (0 ≤ n38 ∧ n38 < (d_n : Nat)) ∧ ∃ n51, w49.cell? (Addr.add d50 (n38.toNat * 1)) = some (.int .u64 n51) ∧ Ab d (fun d52 => (0 ≤ n23 ∧ n23 < (d_n : Nat)) ∧ ∃ n53, w49.cell? (Addr.add d52 (n23.toNat * 1)) = some (.int .u64 n53) ∧ Ab d (fun d54 => (0 ≤ n23 ∧ n23 < (d_n : Nat)) ∧ Af w49 (Addr.add d54 (n23.toNat * 1)) 0 [.int .u64 n51] ∧ ∀ w55, w55 = setCells w49 (Addr.add d54 (n23.toNat * 1)) 0 [.int .u64 n51] → Ab d (fun d56 => (0 ≤ n38 ∧ n38 < (d_n : Nat)) ∧ Af w55 (Addr.add d56 (n38.toNat * 1)) 0 [.int .u64 n53] ∧ ∀ w57, w57 = setCells w55 (Addr.add d56 (n38.toNat * 1)) 0 [.int .u64 n53] → ∃ (I58 : Int → Int → World → Prop) (m58 : Int → Int → World → Nat), I58 (IntKind.i64.wrap (n23 + 1)) (IntKind.i64.wrap (n38 - 1)) w57 ∧ ∀ n59 n60 w61, I58 n59 n60 w61 → ∃ J62 : Int → World → Prop, (∃ (I63 : Int → World → Prop) (m63 : Int → World → Nat), I63 n59 w61 ∧ ∀ n64 w65, I63 n64 w65 → ∀ w66, Grew w65 w66 → ifB (decide (n64 ≤ n60)) (Ab d (fun d67 => (0 ≤ n64 ∧ n64 < (d_n : Nat)) ∧ ∃ n68, w66.cell? (Addr.add d67 (n64.toNat * 1)) = some (.int .u64 n68) ∧ Ab d (fun d69 => (0 ≤ i ∧ i < (d_n : Nat)) ∧ ∃ n70, w66.cell? (Addr.add d69 (i.toNat * 1)) = some (.int .u64 n70) ∧ Aa Tryz.prog 191 [.int .u64 n68, .int .u64 n70] w66 (RetR R fun u72 w71 => ∃ b73, u72 = .bool b73 ∧ Ad w66 w71 [(Addr.add d69 (i.toNat * 1)), (Addr.add d67 (n64.toNat * 1))] ∧ ifB b73 ((I63 (IntKind.i64.wrap (n64 + 1)) w71 ∧ m63 (IntKind.i64.wrap (n64 + 1)) w71 < m63 n64 w65)) (J62 n64 w71))))) (J62 n64 w66)) ∧ ∀ n75 w76, J62 n75 w76 → ∃ (I77 : Int → World → Prop) (m77 : Int → World → Nat), I77 n60 w76 ∧ ∀ n78 w79, I77 n78 w79 → ∀ w80, Grew w79 w80 → ifB (decide (n75 ≤ n78)) (Ab d (fun d81 => (0 ≤ n78 ∧ n78 < (d_n : Nat)) ∧ ∃ n82, w80.cell? (Addr.add d81 (n78.toNat * 1)) = some (.int .u64 n82) ∧ Ab d (fun d83 => (0 ≤ i ∧ i < (d_n : Nat)) ∧ ∃ n84, w80.cell? (Addr.add d83 (i.toNat * 1)) = some (.int .u64 n84) ∧ Aa Tryz.prog 191 [.int .u64 n82, .int .u64 n84] w80 (RetR R fun u86 w85 => ∃ b87, u86 = .bool b87 ∧ Ad w80 w85 [(Addr.add d83 (i.toNat * 1)), (Addr.add d81 (n78.toNat * 1))] ∧ ifB (!b87) ((I77 (IntKind.i64.wrap (n78 - 1)) w85 ∧ m77 (IntKind.i64.wrap (n78 - 1)) w85 < m77 n78 w79)) (ifB (decide (n75 > n78)) (∀ w89, Grew w85 w89 → Ab d (fun d90 => (0 ≤ i ∧ i < (d_n : Nat)) ∧ ∃ n91, w89.cell? (Addr.add d90 (i.toNat * 1)) = some (.int .u64 n91) ∧ Ab d (fun d92 => (0 ≤ n78 ∧ n78 < (d_n : Nat)) ∧ ∃ n93, w89.cell? (Addr.add d92 (n78.toNat * 1)) = some (.int .u64 n93) ∧ Ab d (fun d94 => (0 ≤ n78 ∧ n78 < (d_n : Nat)) ∧ Af w89 (Addr.add d94 (n78.toNat * 1)) 0 [.int .u64 n91] ∧ ∀ w95, w95 = setCells w89 (Addr.add d94 (n78.toNat * 1)) 0 [.int .u64 n91] → Ab d (fun d96 => (0 ≤ i ∧ i < (d_n : Nat)) ∧ Af w95 (Addr.add d96 (i.toNat * 1)) 0 [.int .u64 n93] ∧ ∀ w97, w97 = setCells w95 (Addr.add d96 (i.toNat * 1)) 0 [.int .u64 n93] → R (.returned (.tuple #[.int .i64 n78, .bool false])) w97))))) (∀ w98, Grew w85 w98 →
 Ab d (fun d99 => (0 ≤ n78 ∧ n78 < (d_n : Nat)) ∧ ∃ n100, w98.cell? (Addr.add d99 (n78.toNat * 1)) = some (.int .u64 n100) ∧ Ab d (fun d101 => (0 ≤ n75 ∧ n75 < (d_n : Nat)) ∧ ∃ n102, w98.cell? (Addr.add d101 (n75.toNat * 1)) = some (.int .u64 n102) ∧ Ab d (fun d103 => (0 ≤ n75 ∧ n75 < (d_n : Nat)) ∧ Af w98 (Addr.add d103 (n75.toNat * 1)) 0 [.int .u64 n100] ∧ ∀ w104, w104 = setCells w98 (Addr.add d103 (n75.toNat * 1)) 0 [.int .u64 n100] → Ab d (fun d105 => (0 ≤ n78 ∧ n78 < (d_n : Nat)) ∧ Af w104 (Addr.add d105 (n78.toNat * 1)) 0 [.int .u64 n102] ∧ ∀ w106, w106 = setCells w104 (Addr.add d105 (n78.toNat * 1)) 0 [.int .u64 n102] → (I58 (IntKind.i64.wrap (n75 + 1)) (IntKind.i64.wrap (n78 - 1)) w106 ∧ m58 (IntKind.i64.wrap (n75 + 1)) (IntKind.i64.wrap (n78 - 1)) w106 < m58 n59 n60 w61))))))))))) (ifB (decide (n75 > n78)) (∀ w107, Grew w80 w107 → Ab d (fun d108 => (0 ≤ i ∧ i < (d_n : Nat)) ∧ ∃ n109, w107.cell? (Addr.add d108 (i.toNat * 1)) = some (.int .u64 n109) ∧ Ab d (fun d110 => (0 ≤ n78 ∧ n78 < (d_n : Nat)) ∧ ∃ n111, w107.cell? (Addr.add d110 (n78.toNat * 1)) = some (.int .u64 n111) ∧ Ab d (fun d112 => (0 ≤ n78 ∧ n78 < (d_n : Nat)) ∧ Af w107 (Addr.add d112 (n78.toNat * 1)) 0 [.int .u64 n109] ∧ ∀ w113, w113 = setCells w107 (Addr.add d112 (n78.toNat * 1)) 0 [.int .u64 n109] → Ab d (fun d114 => (0 ≤ i ∧ i < (d_n : Nat)) ∧ Af w113 (Addr.add d114 (i.toNat * 1)) 0 [.int .u64 n111] ∧ ∀ w115, w115 = setCells w113 (Addr.add d114 (i.toNat * 1)) 0 [.int .u64 n111] → R (.returned (.tuple #[.int .i64 n78, .bool false])) w115))))) (∀ w116, Grew w80 w116 → Ab d (fun d117 => (0 ≤ n78 ∧ n78 < (d_n : Nat)) ∧ ∃ n118, w116.cell? (Addr.add d117 (n78.toNat * 1)) = some (.int .u64 n118) ∧ Ab d (fun d119 => (0 ≤ n75 ∧ n75 < (d_n : Nat)) ∧ ∃ n120, w116.cell? (Addr.add d119 (n75.toNat * 1)) = some (.int .u64 n120) ∧ Ab d (fun d121 => (0 ≤ n75 ∧ n75 < (d_n : Nat)) ∧ Af w116 (Addr.add d121 (n75.toNat * 1)) 0 [.int .u64 n118] ∧ ∀ w122, w122 = setCells w116 (Addr.add d121 (n75.toNat * 1)) 0 [.int .u64 n118] → Ab d (fun d123 => (0 ≤ n78 ∧ n78 < (d_n : Nat)) ∧ Af w122 (Addr.add d123 (n78.toNat * 1)) 0 [.int .u64 n120] ∧ ∀ w124, w124 = setCells w122 (Addr.add d123 (n78.toNat * 1)) 0 [.int .u64 n120] → (I58 (IntKind.i64.wrap (n75 + 1)) (IntKind.i64.wrap (n78 - 1)) w124 ∧ m58 (IntKind.i64.wrap (n75 + 1)) (IntKind.i64.wrap (n78 - 1)) w124 < m58 n59 n60 w61))))))))))))))))
theorem sx193.ok {d : Option Addr} {d_n d_c : Nat} {i p2 p3 : Int} {R : Ending → World → Prop} {w : World} (h : sx193 d d_n d_c i p2 p3 R w) : Aa Tryz.prog 193 [.slice d d_n d_c, .int .i64 i, .int .i64 p2, .int .i64 p3] w R :=
 okOf { draws := [(1, { order := (ol [0,1,2,3,4,5,6,7,8,9,10,11,12,13,14,15] .nil), bars := [13, 15] }), (3, { order := (ol [0,1,2,3,4,5,6,7,8,9,10,11,12,13] .nil), bars := [] }), (5, { order := (ol [0,1,2,3,4,5,6,7,8,9,10,11,12,13,14] .nil), bars := [] }), (8, { order := (ol [0,1,2,3,4,5,6,7,8,9,10,11,12,13,14,15] .nil), bars := [13, 15] }), (10, { order := (ol [0,1,2,3,4,5,6,7,8,9,10,11,12,13,14,15] .nil), bars := [13, 15] }), (13, { order := (ol [0,1,2,3,4,5,6,7,8,9,10,11,12,13] .nil), bars := [] }), (15, { order := (ol [0,1,2,3,4,5,6,7,8,9,10,11,12,13,14] .nil), bars := [] }), (18, { order := (ol [0,1,2,3,4,5,6,7,8,9,10,11,12,13,14,15] .nil), bars := [13, 15] }), (21, { order := (ol [0,1,2,3,4,5,6,7,8,9,10,11,12,13,14,15] .nil), bars := [13, 15] })], loops := [(3, { slots := [(10, .int .i64)], cells := [] }), (5, { slots := [(11, .int .i64)], cells := [] }), (13, { slots := [(10, .int .i64)], cells := [] }), (15, { slots := [(11, .int .i64)], cells := [] }), (2013, { slots := [(10, .int .i64), (11, .int .i64)], cells := [] })], cuts := [(5, { slots := [(10, .int .i64)], cells := [] }), (7, { slots := [(11, .int .i64)], cells := [] }), (15, { slots := [(10, .int .i64)], cells := [] })] } mix Tryz.func193 (by kernel_rfl) (by kernel_rfl) (by kernel_rfl) h
def sx192 (d : Option Addr) (d_n d_c : Nat) (i p2 p3 : Int) (R : Ending → World → Prop) (w : World) : Prop :=
  ∀ w1, Grew w w1 → Ab d (fun d2 => (0 ≤ p3 ∧ p3 < (d_n : Nat)) ∧ ∃ n3, w1.cell? (Addr.add d2 (p3.toNat * 1)) = some (.int .u64 n3) ∧ Ab d (fun d4 => (0 ≤ i ∧ i < (d_n : Nat)) ∧ ∃ n5, w1.cell? (Addr.add d4 (i.toNat * 1)) = some (.int .u64 n5) ∧ Ab d (fun d6 => (0 ≤ i ∧ i < (d_n : Nat)) ∧ Af w1 (Addr.add d6 (i.toNat * 1)) 0 [.int .u64 n3] ∧ ∀ w7, w7 = setCells w1 (Addr.add d6 (i.toNat * 1)) 0 [.int .u64 n3] → Ab d (fun d8 => (0 ≤ p3 ∧ p3 < (d_n : Nat)) ∧ Af w7 (Addr.add d8 (p3.toNat * 1)) 0 [.int .u64 n5] ∧ ∀ w9, w9 = setCells w7 (Addr.add d8 (p3.toNat * 1)) 0 [.int .u64 n5] → ∃ (I10 : Int → Int → World → Prop) (m10 : Int → Int → World → Nat), I10 (IntKind.i64.wrap (i + 1)) (IntKind.i64.wrap (p2 - 1)) w9 ∧ ∀ n11 n12 w13, I10 n11 n12 w13 → ∃ J14 : Int → World → Prop, (∃ (I15 : Int → World → Prop) (m15 : Int → World → Nat), I15 n11 w13 ∧ ∀ n16 w17, I15 n16 w17 → ∀ w18, Grew w17 w18 → ifB (decide (n16 ≤ n12)) (Ab d (fun d19 => (0 ≤ i ∧ i < (d_n : Nat)) ∧ ∃ n20, w18.cell? (Addr.add d19 (i.toNat * 1)) = some (.int .u64 n20) ∧ Ab d (fun d21 => (0 ≤ n16 ∧ n16 < (d_n : Nat)) ∧ ∃ n22, w18.cell? (Addr.add d21 (n16.toNat * 1)) = some (.int .u64 n22) ∧ Aa Tryz.prog 191 [.int .u64 n20, .int .u64 n22] w18 (RetR R fun u24 w23 => ∃ b25, u24 = .bool b25 ∧ Ad w18 w23 [(Addr.add d21 (n16.toNat * 1)), (Addr.add d19 (i.toNat * 1))] ∧ ifB (!b25) ((I15 (IntKind.i64.wrap (n16 + 1)) w23 ∧ m15 (IntKind.i64.wrap (n16 + 1)) w23 < m15 n16 w17)) (J14 n16 w23))))) (J14 n16 w18)) ∧ ∀ n27 w28, J14 n27 w28 → ∃ (I29 : Int → World → Prop) (m29 : Int → World → Nat), I29 n12 w28 ∧ ∀ n30 w31, I29 n30 w31 → ∀ w32, Grew w31 w32 → ifB (decide (n27 ≤ n30)) (Ab d (fun d33 => (0 ≤ i ∧ i < (d_n : Nat)) ∧ ∃ n34, w32.cell? (Addr.add d33 (i.toNat * 1)) = some (.int .u64 n34) ∧ Ab d (fun d35 => (0 ≤ n30 ∧ n30 < (d_n : Nat)) ∧ ∃ n36, w32.cell? (Addr.add d35 (n30.toNat * 1)) = some (.int .u64 n36) ∧ Aa Tryz.prog 191 [.int .u64 n34, .int .u64 n36] w32 (RetR R fun u38 w37 => ∃ b39, u38 = .bool b39 ∧ Ad w32 w37 [(Addr.add d35 (n30.toNat * 1)), (Addr.add d33 (i.toNat * 1))] ∧ ifB b39 ((I29 (IntKind.i64.wrap (n30 - 1)) w37 ∧ m29 (IntKind.i64.wrap (n30 - 1)) w37 < m29 n30 w31)) (ifB (decide (n27 > n30)) (R (.returned (.int .i64 n27)) w37) (∀ w41, Grew w37 w41 → Ab d (fun d42 => (0 ≤ n30 ∧ n30 < (d_n : Nat)) ∧ ∃ n43, w41.cell? (Addr.add d42 (n30.toNat * 1)) = some (.int .u64 n43) ∧ Ab d (fun d44 => (0 ≤ n27 ∧ n27 < (d_n : Nat)) ∧ ∃ n45, w41.cell? (Addr.add d44 (n27.toNat * 1)) = some (.int .u64 n45) ∧ Ab d (fun d46 => (0 ≤ n27 ∧ n27 < (d_n : Nat)) ∧ Af w41 (Addr.add d46 (n27.toNat * 1)) 0 [.int .u64 n43] ∧ ∀ w47, w47 = setCells w41 (Addr.add d46 (n27.toNat * 1)) 0 [.int .u64 n43] → Ab d (fun d48 => (0 ≤ n30 ∧ n30 < (d_n : Nat)) ∧ Af w47 (Addr.add d48 (n30.toNat * 1)) 0 [.int .u64 n45] ∧ ∀ w49, w49 = setCells w47 (Addr.add d48 (n30.toNat * 1)) 0 [.int .u64 n45] → (I10 (IntKind.i64.wrap (n27 + 1))
 (IntKind.i64.wrap (n30 - 1)) w49 ∧ m10 (IntKind.i64.wrap (n27 + 1)) (IntKind.i64.wrap (n30 - 1)) w49 < m10 n11 n12 w13))))))))))) (ifB (decide (n27 > n30)) (R (.returned (.int .i64 n27)) w32) (∀ w50, Grew w32 w50 → Ab d (fun d51 => (0 ≤ n30 ∧ n30 < (d_n : Nat)) ∧ ∃ n52, w50.cell? (Addr.add d51 (n30.toNat * 1)) = some (.int .u64 n52) ∧ Ab d (fun d53 => (0 ≤ n27 ∧ n27 < (d_n : Nat)) ∧ ∃ n54, w50.cell? (Addr.add d53 (n27.toNat * 1)) = some (.int .u64 n54) ∧ Ab d (fun d55 => (0 ≤ n27 ∧ n27 < (d_n : Nat)) ∧ Af w50 (Addr.add d55 (n27.toNat * 1)) 0 [.int .u64 n52] ∧ ∀ w56, w56 = setCells w50 (Addr.add d55 (n27.toNat * 1)) 0 [.int .u64 n52] → Ab d (fun d57 => (0 ≤ n30 ∧ n30 < (d_n : Nat)) ∧ Af w56 (Addr.add d57 (n30.toNat * 1)) 0 [.int .u64 n54] ∧ ∀ w58, w58 = setCells w56 (Addr.add d57 (n30.toNat * 1)) 0 [.int .u64 n54] → (I10 (IntKind.i64.wrap (n27 + 1)) (IntKind.i64.wrap (n30 - 1)) w58 ∧ m10 (IntKind.i64.wrap (n27 + 1)) (IntKind.i64.wrap (n30 - 1)) w58 < m10 n11 n12 w13)))))))))))
theorem sx192.ok {d : Option Addr} {d_n d_c : Nat} {i p2 p3 : Int} {R : Ending → World → Prop} {w : World} (h : sx192 d d_n d_c i p2 p3 R w) : Aa Tryz.prog 192 [.slice d d_n d_c, .int .i64 i, .int .i64 p2, .int .i64 p3] w R :=
 okOf { draws := [(1, { order := (ol [0,1,2,3,4,5,6,7,8,9,10,11,12,13,14,15] .nil), bars := [13, 15] }), (3, { order := (ol [0,1,2,3,4,5,6,7,8,9,10,11,12,13,14] .nil), bars := [] }), (5, { order := (ol [0,1,2,3,4,5,6,7,8,9,10,11,12,13] .nil), bars := [] }), (8, { order := (ol [0,1,2,3,4,5,6,7,8,9,10,11,12,13,14,15] .nil), bars := [13, 15] })], loops := [(3, { slots := [(9, .int .i64)], cells := [] }), (5, { slots := [(10, .int .i64)], cells := [] }), (2003, { slots := [(9, .int .i64), (10, .int .i64)], cells := [] })], cuts := [(5, { slots := [(9, .int .i64)], cells := [] })] } mix Tryz.func192 (by kernel_rfl) (by kernel_rfl) (by kernel_rfl) h
open Go.Sort
theorem Vd {x : Int} {w : World} : Aa Tryz.prog 204 [.int .u64 x] w (Rets fun v w' => v = .bool false ∧ w' = w) := by
 refine sx204.ok ?_
 unfold sx204
 exact ⟨_, rfl, by simp, rfl⟩
theorem X0 {x y : Int} {w : World} : Aa Tryz.prog 191 [.int .u64 x, .int .u64 y] w (Rets fun v w' => v = .bool (ltInt x y) ∧ w' = w) := by
 refine sx191.ok ?_
 unfold sx191
 refine Vd.use fun v w1 ⟨hv, hw⟩ => ?_
 subst hv; subst hw
 exact ⟨_, rfl, fun h => (by cases h), fun _ => ⟨_, rfl, rfl, rfl⟩⟩
theorem Bw {x y : Int} {w : World} {k : Value → World → Prop} {pn : List PanicEntry → World → Prop} (h : k (.bool (ltInt x y)) w) : Aa Tryz.prog 191 [.int .u64 x, .int .u64 y] w (Ret k pn) :=
 X0.use' fun v w' ⟨hv, hw⟩ => by subst hv; subst hw; exact h
abbrev Sr_U (B : Nat) (a : Option Addr) (n c : Nat) (w : World) (d : Array Int) : Prop := Ar .u64 40 B a n c w d
def O5 (B : Nat) (p : Option Addr) (n c : Nat) (w : World) (r : Value) (d : Array Int) (v : Value) (w' : World) : Prop := v = r ∧ Sr_U B p n c w' d ∧ Upd (Blk p) w w'
theorem Aa1 {B : Nat} {p : Option Addr} {n c a b : Nat} {d : Array Int} {w : World} (h : Sr_U B p n c w d) (hab : a ≤ b) (hb : b ≤ d.size) (hsz : d.size < 4611686018427387904) :
  Aa Tryz.prog 185 [.slice p n c, .int .i64 a, .int .i64 b] w (Rets (O5 B p n c w (.tuple #[]) (insertionSort ltInt d a b))) := by
 refine sx185.ok ?_
 unfold sx185
 have hw0 : IntKind.i64.wrap ((a : Int) + 1) = ((a + 1 : Nat) : Int) := by rw [IntKind.wrap_i64]; omega
 rw [hw0]
 refine ⟨fun i w' => ∃ (k : Nat) (d' : Array Int), i = k ∧ a + 1 ≤ k ∧ k ≤ b + 1 ∧ d'.size = d.size ∧ Sr_U B p n c w' d' ∧ insOuter ltInt a b k d' = insertionSort ltInt d a b ∧ Upd (Blk p) w w', fun i _ => b + 1 - i.toNat, ⟨a + 1, d, rfl, Nat.le_refl _, by omega, rfl, h, rfl, Upd.refl _ _⟩, ?_⟩
 rintro i w3 ⟨k, d', rfl, hk, hkb, hs, h3, he, hu⟩
 have hw1 : IntKind.i64.wrap ((k : Int) + 1) = ((k + 1 : Nat) : Int) := by rw [IntKind.wrap_i64]; omega
 rw [hw1]
 refine ⟨fun hlt => ?_, fun hge => ?_⟩
 ·simp only [decide_eq_true_eq] at hlt
  rw [insOuter_go (by omega)] at he
  have hm : b + 1 - (((k + 1 : Nat) : Int)).toNat < b + 1 - ((k : Int)).toNat := by omega
  refine ⟨fun i w' => ∃ (j : Nat) (d2 : Array Int), i = j ∧ a ≤ j ∧ j ≤ k ∧ d2.size = d.size ∧ Sr_U B p n c w' d2 ∧ insInner ltInt a j d2 = insInner ltInt a k d' ∧ Upd (Blk p) w w', fun i _ => i.toNat, ⟨k, d', rfl, by omega, Nat.le_refl _, hs, h3, rfl, hu⟩, ?_⟩
  rintro i w6 ⟨j, d2, rfl, hj, hjk, hs2, h6, he2, hu6⟩ w7 hg7
  refine ⟨fun hgt => ?_, fun hle => ?_⟩
  ·simp only [decide_eq_true_eq] at hgt
   have hw2 : IntKind.i64.wrap ((j : Int) - 1) = ((j - 1 : Nat) : Int) := by rw [IntKind.wrap_i64]; omega
   rw [hw2]
   refine Ar.rd (h6.grew hg7) (i := j) rfl (by omega) fun q1 => Ar.rd (h6.grew hg7) (i := j - 1) rfl (by omega) fun q2 => Bw ⟨_, rfl, Cl _ _, fun hl w16 hg16 => ?_, fun hl => ?_⟩
   ·have h16 := (h6.grew hg7).grew hg16
    refine Ar.rd h16 (i := j - 1) rfl (by omega) fun q3 => Ar.rd h16 (i := j) rfl (by omega) fun q4 => Ar.st h16 (i := j) rfl (by omega) fun q5 w22 h22 hu22 => Ar.st h22 (i := j - 1) rfl (by simp; omega) fun q6 w24 h24 hu24 => ?_
    exact ⟨⟨j - 1, swp d2 j (j - 1), rfl, by omega, by omega, by rw [Cb]; exact hs2, h24, by rw [← he2, R0 (by omega) hl], (((hu6.then_grew hg7).then_grew hg16).trans hu22).trans hu24⟩, by show (((j - 1 : Nat) : Int)).toNat < ((j : Int)).toNat; omega⟩
   ·refine ⟨⟨k + 1, d2, rfl, by omega, by omega, hs2, h6.grew hg7, ?_, hu6.then_grew hg7⟩, hm⟩
    rw [← he, ← he2, S8 hl]
  ·simp only [decide_eq_false_iff_not] at hle
   refine ⟨⟨k + 1, d2, rfl, by omega, by omega, hs2, h6.grew hg7, ?_, hu6.then_grew hg7⟩, hm⟩
   rw [← he, ← he2, insInner_stop (by omega)]
 ·simp only [decide_eq_false_iff_not] at hge
  rw [R1 (by omega)] at he
  subst he
  exact ⟨_, rfl, rfl, h3, hu⟩
theorem Qv {B : Nat} {p : Option Addr} {n c lo hi first : Nat} {d : Array Int} {w : World} (h : Sr_U B p n c w d) (hb : first + hi ≤ d.size) (hlo : lo ≤ hi) (hsz : d.size < 2305843009213693952) :
  Aa Tryz.prog 201 [.slice p n c, .int .i64 lo, .int .i64 hi, .int .i64 first] w (Rets (O5 B p n c w (.tuple #[]) (siftDown ltInt hi first lo d))) := by
 refine sx201.ok ?_
 unfold sx201
 refine ⟨fun i w' => ∃ (r : Nat) (d' : Array Int), i = r ∧ r ≤ hi ∧ d'.size = d.size ∧ Sr_U B p n c w' d' ∧ siftDown ltInt hi first r d' = siftDown ltInt hi first lo d ∧ Upd (Blk p) w w', fun i _ => hi - i.toNat, ⟨lo, d, rfl, hlo, rfl, h, rfl, Upd.refl _ _⟩, ?_⟩
 rintro i w3 ⟨r, d', rfl, hr, hs, h3, he, hu⟩
 rintro n4 rfl
 have e1 : IntKind.i64.wrap (IntKind.i64.wrap ((2 : Int) * r) + 1) = ((2 * r + 1 : Nat) : Int) := by rw [IntKind.wrap_i64, IntKind.wrap_i64]; omega
 have e2 : IntKind.i64.wrap (((2 * r + 1 : Nat) : Int) + 1) = ((2 * r + 2 : Nat) : Int) := by rw [IntKind.wrap_i64]; omega
 rw [e1, e2]
 refine ⟨fun hge => ?_, fun hlt => ?_⟩
 ·simp only [decide_eq_true_eq] at hge
  rw [Li (by omega)] at he
  subst he
  exact ⟨_, rfl, rfl, h3, hu⟩
 simp only [decide_eq_false_iff_not] at hlt
 have hlt' : ¬ 2 * r + 1 ≥ hi := by omega
 have hc := S9 (first := first) (d := d') hlt'
 refine ⟨fun i w' => i = (child hi first r d' : Nat) ∧ Sr_U B p n c w' d' ∧ Upd (Blk p) w w', fun w6 hg6 => ?_, ?_⟩
 ·rintro n7 rfl
  have h6 := h3.grew hg6
  have hu6 := hu.then_grew hg6
  refine ⟨fun h2 => ?_, fun h2 => ?_⟩
  ·simp only [decide_eq_true_eq] at h2
   rintro n8 rfl
   have e3 : IntKind.i64.wrap ((first : Int) + ((2 * r + 1 : Nat) : Int)) = ((first + (2 * r + 1) : Nat) : Int) := by rw [IntKind.wrap_i64]; omega
   have e4 : IntKind.i64.wrap (((first + (2 * r + 1) : Nat) : Int) + 1) = ((first + (2 * r + 2) : Nat) : Int) := by rw [IntKind.wrap_i64]; omega
   refine Ar.rd h6 (i := first + (2 * r + 1)) e3 (by omega) fun q1 => ?_
   rintro n11 rfl
   refine Ar.rd h6 (i := first + (2 * r + 2)) (by rw [e3]; exact e4) (by omega) fun q2 => Bw ⟨_, rfl, Cl _ _, fun hl => ?_, fun hl => ?_⟩
   ·rintro n18 rfl
    exact ⟨by rw [child, if_pos ⟨by omega, hl⟩], h6, hu6⟩
   ·exact ⟨by rw [child, if_neg (fun hh => by rw [hh.2] at hl; cases hl)], h6, hu6⟩
  ·simp only [decide_eq_false_iff_not] at h2
   exact ⟨by rw [child, if_neg (fun hh => by omega)], h6, hu6⟩
 ·rintro i w20 ⟨rfl, h20, hu20⟩ w21 hg21
  have h21 := h20.grew hg21
  have e5 : IntKind.i64.wrap ((first : Int) + (r : Int)) = ((first + r : Nat) : Int) := by rw [IntKind.wrap_i64]; omega
  have e6 : IntKind.i64.wrap ((first : Int) + ((child hi first r d' : Nat) : Int)) = ((first + child hi first r d' : Nat) : Int) := by rw [IntKind.wrap_i64]; omega
  rw [e5, e6]
  rw [M9 hlt'] at he
  refine Ar.rd h21 (i := first + r) rfl (by omega) fun q1 => ?_
  rintro n24 rfl
  refine Ar.rd h21 (i := first + child hi first r d') rfl (by omega) fun q2 => Bw ⟨_, rfl, fun hl => ?_, fun hl w31 hg31 => ?_⟩
  ·have hl' : ltInt d'[first + r]! d'[first + child hi first r d']! = false := by simpa using hl
   rw [hl', if_neg (by simp)] at he
   subst he
   exact ⟨_, rfl, rfl, h21, hu20.then_grew hg21⟩
  ·have hl' : ltInt d'[first + r]! d'[first + child hi first r d']! = true := by simpa using hl
   rw [hl', if_pos rfl] at he
   have h31 := h21.grew hg31
   rintro n32 rfl n33 rfl
   refine Ar.rd h31 (i := first + child hi first r d') rfl (by omega) fun q3 => Ar.rd h31 (i := first + r) rfl (by omega) fun q4 => Ar.st h31 (i := first + r) rfl (by omega) fun q5 w39 h39 hu39 => Ar.st h39 (i := first + child hi first r d') rfl (by simp; omega) fun q6 w41 h41 hu41 => ?_
   exact ⟨⟨child hi first r d', _, rfl, by omega, by rw [← hs]; exact Cb d' (first + r) (first + child hi first r d'), h41, he, (((hu20.then_grew hg21).then_grew hg31).trans hu39).trans hu41⟩, by show hi - (((child hi first r d' : Nat) : Int)).toNat < hi - ((r : Int)).toNat; omega⟩
theorem X5 {B : Nat} {p : Option Addr} {n c a b : Nat} {d : Array Int} {w : World} (h : Sr_U B p n c w d) (hab : a < b) (hb : b ≤ d.size) (hsz : d.size < 2305843009213693952) :
  Aa Tryz.prog 186 [.slice p n c, .int .i64 a, .int .i64 b] w (Rets (O5 B p n c w (.tuple #[]) (heapSort ltInt d a b))) := by
 refine sx186.ok ?_
 unfold sx186
 have e0 : IntKind.i64.wrap ((b : Int) - (a : Int)) = ((b - a : Nat) : Int) := by rw [IntKind.wrap_i64]; omega
 have e1 : IntKind.i64.wrap (((b - a : Nat) : Int) - 1) = ((b - a - 1 : Nat) : Int) := by rw [IntKind.wrap_i64]; omega
 have e2 : IntKind.i64.wrap (Int.tdiv ((b - a - 1 : Nat) : Int) 2) = (((b - a - 1) / 2 : Nat) : Int) := by
  rw [Int.tdiv_eq_ediv_of_nonneg (by omega), IntKind.wrap_i64]; omega
 rw [e0, e1]
 rintro n1 rfl
 refine ⟨fun h => (by cases h), fun _ => ?_⟩
 rintro n2 rfl
 rw [e2]
 obtain ⟨N, hN⟩ : ∃ N, N = b - a := ⟨_, rfl⟩
 rw [← hN]
 have hheap : heapSort ltInt d a b = heapPop ltInt a N (heapBuild ltInt N a ((N - 1) / 2 + 1) d) := by rw [heapSort, hN]
 refine ⟨fun i w' => ∃ (k : Nat) (d' : Array Int), i = (k : Int) - 1 ∧ k ≤ (N - 1) / 2 + 1 ∧ d'.size = d.size ∧ Sr_U B p n c w' d' ∧ heapBuild ltInt N a k d' = heapBuild ltInt N a ((N - 1) / 2 + 1) d ∧ Upd (Blk p) w w', fun i _ => (i + 1).toNat, ⟨(N - 1) / 2 + 1, d, by omega, Nat.le_refl _, rfl, h, rfl, Upd.refl _ _⟩, ?_⟩
 rintro i w5 ⟨k, d', rfl, hk, hs, h5, he, hu⟩
 refine ⟨fun hge => ?_, fun hlt => ?_⟩
 ·simp only [decide_eq_true_eq, ge_iff_le] at hge
  obtain ⟨k, rfl⟩ : ∃ k', k = k' + 1 := ⟨k - 1, by omega⟩
  have e3 : (((k + 1 : Nat) : Int) - 1) = (k : Int) := by omega
  have e4 : IntKind.i64.wrap ((k : Int) - 1) = (k : Int) - 1 := by rw [IntKind.wrap_i64]; omega
  rw [e3, e4]
  rw [heapBuild] at he
  refine (Qv h5 (by omega) (by omega) (by omega)).use fun v w6 ⟨hv, h6, hu6⟩ => ?_
  exact ⟨hv, ⟨k, _, rfl, by omega, by rw [Gf _ _ _ _ _ (Nat.le_refl _), hs], h6, he, hu.trans hu6⟩, by show ((k : Int) - 1 + 1).toNat < ((k : Int) + 1).toNat; omega⟩
 ·simp only [decide_eq_false_iff_not, ge_iff_le] at hlt
  have hk0 : k = 0 := by omega
  subst hk0
  rw [heapBuild] at he
  subst he
  rintro n9 rfl
  refine ⟨fun i w' => ∃ (k : Nat) (d2 : Array Int), i = (k : Int) - 1 ∧ k ≤ N ∧ d2.size = d.size ∧ Sr_U B p n c w' d2 ∧ heapPop ltInt a k d2 = heapSort ltInt d a b ∧ Upd (Blk p) w w', fun i _ => (i + 1).toNat, ⟨N, _, by omega, Nat.le_refl _, hs, h5, hheap.symm, hu⟩, ?_⟩
  rintro i w12 ⟨k, d2, rfl, hk, hs2, h12, he2, hu12⟩
  refine ⟨fun hge => ?_, fun hlt => ?_⟩
  ·simp only [decide_eq_true_eq, ge_iff_le] at hge
   obtain ⟨k, rfl⟩ : ∃ k', k = k' + 1 := ⟨k - 1, by omega⟩
   have e3 : (((k + 1 : Nat) : Int) - 1) = (k : Int) := by omega
   have e4 : IntKind.i64.wrap ((k : Int) - 1) = (k : Int) - 1 := by rw [IntKind.wrap_i64]; omega
   have e5 : IntKind.i64.wrap ((a : Int) + (k : Int)) = ((a + k : Nat) : Int) := by rw [IntKind.wrap_i64]; omega
   rw [e3, e4, e5]
   rw [heapPop] at he2
   intro w13 hg13
   have h13 := h12.grew hg13
   refine Ar.rd h13 (i := a + k) rfl (by omega) fun q3 => Ar.rd h13 (i := a) rfl (by omega) fun q4 => Ar.st h13 (i := a) rfl (by omega) fun q5 w19 h19 hu19 => Ar.st h19 (i := a + k) rfl (by simp; omega) fun q6 w21 h21 hu21 => ?_
   have hs21 := Cb d2 a (a + k)
   refine (Qv (lo := 0) (hi := k) (d := swp d2 a (a + k)) h21 (by omega) (Nat.zero_le _) (by omega)).use fun v w22 ⟨hv, h22, hu22⟩ => ?_
   exact ⟨hv, ⟨k, _, rfl, by omega, by rw [Gf _ _ _ _ _ (Nat.le_refl _), hs21, hs2], h22, he2, (((hu12.then_grew hg13).trans hu19).trans hu21).trans hu22⟩, by show ((k : Int) - 1 + 1).toNat < ((k : Int) + 1).toNat; omega⟩
  ·simp only [decide_eq_false_iff_not, ge_iff_le] at hlt
   have hk0 : k = 0 := by omega
   subst hk0
   rw [heapPop] at he2
   subst he2
   exact ⟨_, rfl, rfl, h12, hu12⟩
theorem Aa2 {B : Nat} {p : Option Addr} {n c a b : Nat} {d : Array Int} {w : World} (h : Sr_U B p n c w d) (hab : a < b) (hb : b ≤ d.size) (hsz : d.size < 4611686018427387904) :
  Aa Tryz.prog 189 [.slice p n c, .int .i64 a, .int .i64 b] w (Rets (O5 B p n c w (.tuple #[]) (reverseRange d a b))) := by
 refine sx189.ok ?_
 unfold sx189
 have e1 : IntKind.i64.wrap ((b : Int) - 1) = ((b - 1 : Nat) : Int) := by rw [IntKind.wrap_i64]; omega
 rw [e1]
 refine ⟨fun x y w' => ∃ (i j : Nat) (d' : Array Int), x = i ∧ y = j ∧ a ≤ i ∧ j < b ∧ d'.size = d.size ∧ Sr_U B p n c w' d' ∧ reverseLoop i j d' = reverseLoop a (b - 1) d ∧ Upd (Blk p) w w', fun x y _ => (y - x).toNat, ⟨a, b - 1, d, rfl, rfl, Nat.le_refl _, by omega, rfl, h, rfl, Upd.refl _ _⟩, ?_⟩
 rintro x y w4 ⟨i, j, d', rfl, rfl, hi, hj, hs, h4, he, hu⟩
 refine ⟨fun hlt w5 hg5 => ?_, fun hge => ?_⟩
 ·simp only [decide_eq_true_eq] at hlt
  have e2 : IntKind.i64.wrap ((i : Int) + 1) = ((i + 1 : Nat) : Int) := by rw [IntKind.wrap_i64]; omega
  have e3 : IntKind.i64.wrap ((j : Int) - 1) = ((j - 1 : Nat) : Int) := by rw [IntKind.wrap_i64]; omega
  rw [e2, e3]
  have h5 := h4.grew hg5
  refine Ar.rd h5 (i := j) rfl (by omega) fun q3 => Ar.rd h5 (i := i) rfl (by omega) fun q4 => Ar.st h5 (i := i) rfl (by omega) fun q5 w11 h11 hu11 => Ar.st h11 (i := j) rfl (by simp; omega) fun q6 w13 h13 hu13 => ?_
  rw [reverseLoop, if_pos (by omega)] at he
  exact ⟨⟨i + 1, j - 1, _, rfl, rfl, by omega, by omega, by rw [← hs]; exact Cb d' i j, h13, he, ((hu.then_grew hg5).trans hu11).trans hu13⟩, by show (((j - 1 : Nat) : Int) - ((i + 1 : Nat) : Int)).toNat < ((j : Int) - (i : Int)).toNat; omega⟩
 ·simp only [decide_eq_false_iff_not] at hge
  rw [reverseLoop, if_neg (by omega)] at he
  exact ⟨_, rfl, rfl, by rw [reverseRange, ← he]; exact h4, hu⟩
end Go.Proofs.YtcpkneemhfnanaaGreat
