import Derived.Test.YtcpkneemhfnanaaGreatProg
import Derived.Test.YtcpkneemhfnanaaGreatAgg
import Derived.Test.YtcpkneemhfnanaaGreatSxO
import Derived.Test.YtcpkneemhfnanaaGreatSxV
/- What the sort's parts hand back: insertion, heap, reversal, partitions, partial insertion. Conditions: none. -/
namespace Go.Proofs.YtcpkneemhfnanaaGreat
open Go.Sx
set_option maxRecDepth 100000
set_option linter.unusedVariables false
set_option linter.unusedSimpArgs false
/- cmp.Less[int] -/
def sx161 (x : Int) (y : Int) (R : Ending → World → Prop) (w : World) : Prop :=
  CallsW Tryz.prog 182 [.int .i64 x] w (RetR R fun u2 w1 => ∃ (b3 : Bool), u2 = .bool b3 ∧ ((b3 = true → CallsW Tryz.prog 182 [.int .i64 y] w1 (RetR R fun u6 w5 => ∃ (b7 : Bool), u6 = .bool b7 ∧ (((!b7) = true → R (.returned
    (.bool true)) w5) ∧ ((!b7) = false → R (.returned (.bool (decide (x < y)))) w5)))) ∧ (b3 = false → R (.returned (.bool (decide (x < y)))) w1)))
theorem sx161.ok {x : Int} {y : Int} {R : Ending → World → Prop} {w : World} (h : sx161 x y R w) : CallsW Tryz.prog 161 [.int .i64 x, .int .i64 y] w R :=
  callsW_of mix Tryz.func161 (by kernel_rfl) (by kernel_rfl) (Eq.mpr (by kernel_rfl : denFn Tryz.prog {} Tryz.f161 [.int .i64 x, .int .i64 y] R w = sx161 x y R w) h)

/- slices.insertionSortOrdered[int] -/
def sx155 (data : Option Addr) (data_n data_c : Nat) (a : Int) (b : Int) (R : Ending → World → Prop) (w : World) : Prop :=
  ∃ (I1 : Int → World → Prop) (m1 : Int → World → Nat), I1 (IntKind.i64.wrap (a + 1)) w ∧ ∀ (n2 : Int) (w3 : World), I1 n2 w3 → (((decide (n2 < b)) = true → ∃ (I4 : Int → World → Prop) (m4 : Int → World → Nat), I4 n2 w3 ∧ ∀
    (n5 : Int) (w6 : World), I4 n5 w6 → ∀ w7, Grew w6 w7 → (((decide (n5 > a)) = true → withSome data (fun d8 => (0 ≤ n5 ∧ n5 < (data_n : Nat)) ∧ ∃ (n9 : Int), w7.cell? (Addr.add d8 (n5.toNat * 1)) = some (.int .i64 n9) ∧
    withSome data (fun d10 => (0 ≤ (IntKind.i64.wrap (n5 - 1)) ∧ (IntKind.i64.wrap (n5 - 1)) < (data_n : Nat)) ∧ ∃ (n11 : Int), w7.cell? (Addr.add d10 ((IntKind.i64.wrap (n5 - 1)).toNat * 1)) = some (.int .i64 n11) ∧
    CallsW Tryz.prog 161 [.int .i64 n9, .int .i64 n11] w7 (RetR R fun u13 w12 => ∃ (b14 : Bool), u13 = .bool b14 ∧ SameB w7 w12 [(Addr.add d10 ((IntKind.i64.wrap (n5 - 1)).toNat * 1)), (Addr.add d8 (n5.toNat * 1))] ∧ ((b14
    = true → ∀ w16, Grew w12 w16 → withSome data (fun d17 => (0 ≤ (IntKind.i64.wrap (n5 - 1)) ∧ (IntKind.i64.wrap (n5 - 1)) < (data_n : Nat)) ∧ ∃ (n18 : Int), w16.cell? (Addr.add d17 ((IntKind.i64.wrap (n5 - 1)).toNat *
    1)) = some (.int .i64 n18) ∧ withSome data (fun d19 => (0 ≤ n5 ∧ n5 < (data_n : Nat)) ∧ ∃ (n20 : Int), w16.cell? (Addr.add d19 (n5.toNat * 1)) = some (.int .i64 n20) ∧ withSome data (fun d21 => (0 ≤ n5 ∧ n5 < (data_n
    : Nat)) ∧ RoomAt w16 (Addr.add d21 (n5.toNat * 1)) 0 [.int .i64 n18] ∧ ∀ w22, w22 = setCells w16 (Addr.add d21 (n5.toNat * 1)) 0 [.int .i64 n18] → withSome data (fun d23 => (0 ≤ (IntKind.i64.wrap (n5 - 1)) ∧
    (IntKind.i64.wrap (n5 - 1)) < (data_n : Nat)) ∧ RoomAt w22 (Addr.add d23 ((IntKind.i64.wrap (n5 - 1)).toNat * 1)) 0 [.int .i64 n20] ∧ ∀ w24, w24 = setCells w22 (Addr.add d23 ((IntKind.i64.wrap (n5 - 1)).toNat * 1)) 0
    [.int .i64 n20] → (I4 (IntKind.i64.wrap (n5 - 1)) w24 ∧ m4 (IntKind.i64.wrap (n5 - 1)) w24 < m4 n5 w6)))))) ∧ (b14 = false → (I1 (IntKind.i64.wrap (n2 + 1)) w12 ∧ m1 (IntKind.i64.wrap (n2 + 1)) w12 < m1 n2 w3))))))) ∧
    ((decide (n5 > a)) = false → (I1 (IntKind.i64.wrap (n2 + 1)) w7 ∧ m1 (IntKind.i64.wrap (n2 + 1)) w7 < m1 n2 w3)))) ∧ ((decide (n2 < b)) = false → R (.returned (.tuple #[])) w3))
theorem sx155.ok {data : Option Addr} {data_n data_c : Nat} {a : Int} {b : Int} {R : Ending → World → Prop} {w : World} (h : sx155 data data_n data_c a b R w) : CallsW Tryz.prog 155 [.slice data data_n data_c, .int .i64 a, .int .i64 b] w R :=
  callsW_of mix Tryz.func155 (by kernel_rfl) (by kernel_rfl) (Eq.mpr (by kernel_rfl : denFn Tryz.prog { draws := [(4, { order := (.cons 0 (.cons 1 (.cons 2 (.cons 3 (.cons 4 (.cons 5 (.cons 6 (.cons 7 (.cons 8 (.cons 9 (.cons 10 (.cons 11 (.cons 12 (.cons 13 (.cons 14 .nil))))))))))))))), bars := [] }), (6, { order := (.cons 0 (.cons 1 (.cons 2 (.cons 3 (.cons 4 (.cons 5 (.cons 6 (.cons 7 (.cons 8 (.cons 9 (.cons 10 (.cons 11 (.cons 12 (.cons 13 (.cons 14 (.cons 15 (.cons 16 (.cons 17 .nil)))))))))))))))))), bars := [15, 17] })], loops := [(4, { slots := [(7, .int .i64)], cells := [] }), (1001, { slots := [(6, .int .i64)], cells := [] })] } Tryz.f155 [.slice data data_n data_c, .int .i64 a, .int .i64 b] R w = sx155 data data_n data_c a b R w) h)

/- slices.siftDownOrdered[int] -/
def sx177 (d : Option Addr) (d_n d_c : Nat) (i : Int) (p2 : Int) (p3 : Int) (R : Ending → World → Prop) (w : World) : Prop :=
  ∃ (I1 : Int → World → Prop) (m1 : Int → World → Nat), I1 i w ∧ ∀ (n2 : Int) (w3 : World), I1 n2 w3 → ∀ n4 : Int, n4 = IntKind.i64.wrap ((2 : Int) * n2) → (((decide ((IntKind.i64.wrap (n4 + 1)) ≥ p2)) = true → R (.returned
    (.tuple #[])) w3) ∧ ((decide ((IntKind.i64.wrap (n4 + 1)) ≥ p2)) = false → ∃ (J5 : Int → World → Prop), (∀ w6, Grew w3 w6 → ∀ n7 : Int, n7 = IntKind.i64.wrap ((IntKind.i64.wrap (n4 + 1)) + 1) → (((decide (n7 < p2)) =
    true → ∀ n8 : Int, n8 = IntKind.i64.wrap (p3 + (IntKind.i64.wrap (n4 + 1))) → withSome d (fun d9 => (0 ≤ n8 ∧ n8 < (d_n : Nat)) ∧ ∃ (n10 : Int), w6.cell? (Addr.add d9 (n8.toNat * 1)) = some (.int .i64 n10) ∧ ∀ n11 :
    Int, n11 = IntKind.i64.wrap (p3 + (IntKind.i64.wrap (n4 + 1))) → withSome d (fun d12 => (0 ≤ (IntKind.i64.wrap (n11 + 1)) ∧ (IntKind.i64.wrap (n11 + 1)) < (d_n : Nat)) ∧ ∃ (n13 : Int), w6.cell? (Addr.add d12
    ((IntKind.i64.wrap (n11 + 1)).toNat * 1)) = some (.int .i64 n13) ∧ CallsW Tryz.prog 161 [.int .i64 n10, .int .i64 n13] w6 (RetR R fun u15 w14 => ∃ (b16 : Bool), u15 = .bool b16 ∧ SameB w6 w14 [(Addr.add d12
    ((IntKind.i64.wrap (n11 + 1)).toNat * 1)), (Addr.add d9 (n8.toNat * 1))] ∧ ((b16 = true → ∀ n18 : Int, n18 = IntKind.i64.wrap ((IntKind.i64.wrap (n4 + 1)) + 1) → J5 n18 w14) ∧ (b16 = false → J5 (IntKind.i64.wrap (n4 +
    1)) w14)))))) ∧ ((decide (n7 < p2)) = false → J5 (IntKind.i64.wrap (n4 + 1)) w6))) ∧ ∀ (n19 : Int) (w20 : World), J5 n19 w20 → ∀ w21, Grew w20 w21 → withSome d (fun d22 => (0 ≤ (IntKind.i64.wrap (p3 + n2)) ∧
    (IntKind.i64.wrap (p3 + n2)) < (d_n : Nat)) ∧ ∃ (n23 : Int), w21.cell? (Addr.add d22 ((IntKind.i64.wrap (p3 + n2)).toNat * 1)) = some (.int .i64 n23) ∧ ∀ n24 : Int, n24 = IntKind.i64.wrap (p3 + n19) → withSome d (fun
    d25 => (0 ≤ n24 ∧ n24 < (d_n : Nat)) ∧ ∃ (n26 : Int), w21.cell? (Addr.add d25 (n24.toNat * 1)) = some (.int .i64 n26) ∧ CallsW Tryz.prog 161 [.int .i64 n23, .int .i64 n26] w21 (RetR R fun u28 w27 => ∃ (b29 : Bool), u28
    = .bool b29 ∧ (((!b29) = true → R (.returned (.tuple #[])) w27) ∧ ((!b29) = false → ∀ w31, Grew w27 w31 → ∀ n32 : Int, n32 = IntKind.i64.wrap (p3 + n19) → ∀ n33 : Int, n33 = IntKind.i64.wrap (p3 + n19) → withSome d
    (fun d34 => (0 ≤ n33 ∧ n33 < (d_n : Nat)) ∧ ∃ (n35 : Int), w31.cell? (Addr.add d34 (n33.toNat * 1)) = some (.int .i64 n35) ∧ withSome d (fun d36 => (0 ≤ (IntKind.i64.wrap (p3 + n2)) ∧ (IntKind.i64.wrap (p3 + n2)) <
    (d_n : Nat)) ∧ ∃ (n37 : Int), w31.cell? (Addr.add d36 ((IntKind.i64.wrap (p3 + n2)).toNat * 1)) = some (.int .i64 n37) ∧ withSome d (fun d38 => (0 ≤ (IntKind.i64.wrap (p3 + n2)) ∧ (IntKind.i64.wrap (p3 + n2)) < (d_n :
    Nat)) ∧ RoomAt w31 (Addr.add d38 ((IntKind.i64.wrap (p3 + n2)).toNat * 1)) 0 [.int .i64 n35] ∧ ∀ w39, w39 = setCells w31 (Addr.add d38 ((IntKind.i64.wrap (p3 + n2)).toNat * 1)) 0 [.int .i64 n35] → withSome d (fun d40
    => (0 ≤ n32 ∧ n32 < (d_n : Nat)) ∧ RoomAt w39 (Addr.add d40 (n32.toNat * 1)) 0 [.int .i64 n37] ∧ ∀ w41, w41 = setCells w39 (Addr.add d40 (n32.toNat * 1)) 0 [.int .i64 n37] → (I1 n19 w41 ∧ m1 n19 w41 < m1 n2
    w3))))))))))))
theorem sx177.ok {d : Option Addr} {d_n d_c : Nat} {i : Int} {p2 : Int} {p3 : Int} {R : Ending → World → Prop} {w : World} (h : sx177 d d_n d_c i p2 p3 R w) : CallsW Tryz.prog 177 [.slice d d_n d_c, .int .i64 i, .int .i64 p2, .int .i64 p3] w R :=
  callsW_of mix Tryz.func177 (by kernel_rfl) (by kernel_rfl) (Eq.mpr (by kernel_rfl : denFn Tryz.prog { named := [12, 18, 25, 31, 38, 48, 60, 64], draws := [(3, { order := (.cons 0 (.cons 1 (.cons 2 (.cons 3 (.cons 4 (.cons 5 (.cons 6 (.cons 7 (.cons 8 (.cons 9 (.cons 10 (.cons 11 (.cons 12 (.cons 13 (.cons 14 (.cons 15 (.cons 16 (.cons 17 (.cons 18 (.cons 19 .nil)))))))))))))))))))), bars := [] }), (5, { order := (.cons 0 (.cons 1 (.cons 2 (.cons 3 (.cons 4 (.cons 5 (.cons 6 (.cons 7 (.cons 8 (.cons 9 (.cons 10 (.cons 11 (.cons 12 (.cons 13 .nil)))))))))))))), bars := [12] }), (6, { order := (.cons 0 (.cons 1 (.cons 2 (.cons 3 (.cons 4 (.cons 5 (.cons 6 (.cons 7 (.cons 8 (.cons 9 (.cons 10 (.cons 11 (.cons 12 (.cons 13 (.cons 14 (.cons 15 (.cons 16 (.cons 17 (.cons 18 (.cons 19 (.cons 20 (.cons 21 (.cons 22 (.cons 23 .nil)))))))))))))))))))))))), bars := [21, 23] })], loops := [(1, { slots := [(8, .int .i64)], cells := [] })], cuts := [(5, { slots := [(9, .int .i64)], cells := [] })] } Tryz.f177 [.slice d d_n d_c, .int .i64 i, .int .i64 p2, .int .i64 p3] R w = sx177 d d_n d_c i p2 p3 R w) h)

/- slices.heapSortOrdered[int] -/
def sx156 (data : Option Addr) (data_n data_c : Nat) (a : Int) (b : Int) (R : Ending → World → Prop) (w : World) : Prop :=
  ∀ n1 : Int, n1 = IntKind.i64.wrap ((IntKind.i64.wrap (b - a)) - 1) → (((2 : Int) = 0 → R (.panicked (divPanic Tryz.prog)) w) ∧ ((2 : Int) ≠ 0 → ∀ n2 : Int, n2 = IntKind.i64.wrap (Int.tdiv n1 2) → ∃ (I3 : Int → World →
    Prop) (m3 : Int → World → Nat), I3 n2 w ∧ ∀ (n4 : Int) (w5 : World), I3 n4 w5 → (((decide (n4 ≥ 0)) = true → CallsW Tryz.prog 177 [.slice data data_n data_c, .int .i64 n4, .int .i64 (IntKind.i64.wrap (b - a)), .int
    .i64 a] w5 (RetR R fun u7 w6 => u7 = .tuple #[] ∧ (I3 (IntKind.i64.wrap (n4 - 1)) w6 ∧ m3 (IntKind.i64.wrap (n4 - 1)) w6 < m3 n4 w5))) ∧ ((decide (n4 ≥ 0)) = false → ∀ n9 : Int, n9 = IntKind.i64.wrap
    ((IntKind.i64.wrap (b - a)) - 1) → ∃ (I10 : Int → World → Prop) (m10 : Int → World → Nat), I10 n9 w5 ∧ ∀ (n11 : Int) (w12 : World), I10 n11 w12 → (((decide (n11 ≥ 0)) = true → ∀ w13, Grew w12 w13 → withSome data (fun
    d14 => (0 ≤ (IntKind.i64.wrap (a + n11)) ∧ (IntKind.i64.wrap (a + n11)) < (data_n : Nat)) ∧ ∃ (n15 : Int), w13.cell? (Addr.add d14 ((IntKind.i64.wrap (a + n11)).toNat * 1)) = some (.int .i64 n15) ∧ withSome data (fun
    d16 => (0 ≤ a ∧ a < (data_n : Nat)) ∧ ∃ (n17 : Int), w13.cell? (Addr.add d16 (a.toNat * 1)) = some (.int .i64 n17) ∧ withSome data (fun d18 => (0 ≤ a ∧ a < (data_n : Nat)) ∧ RoomAt w13 (Addr.add d18 (a.toNat * 1)) 0
    [.int .i64 n15] ∧ ∀ w19, w19 = setCells w13 (Addr.add d18 (a.toNat * 1)) 0 [.int .i64 n15] → withSome data (fun d20 => (0 ≤ (IntKind.i64.wrap (a + n11)) ∧ (IntKind.i64.wrap (a + n11)) < (data_n : Nat)) ∧ RoomAt w19
    (Addr.add d20 ((IntKind.i64.wrap (a + n11)).toNat * 1)) 0 [.int .i64 n17] ∧ ∀ w21, w21 = setCells w19 (Addr.add d20 ((IntKind.i64.wrap (a + n11)).toNat * 1)) 0 [.int .i64 n17] → CallsW Tryz.prog 177 [.slice data data_n
    data_c, .int .i64 0, .int .i64 n11, .int .i64 a] w21 (RetR R fun u23 w22 => u23 = .tuple #[] ∧ (I10 (IntKind.i64.wrap (n11 - 1)) w22 ∧ m10 (IntKind.i64.wrap (n11 - 1)) w22 < m10 n11 w12))))))) ∧ ((decide (n11 ≥ 0)) =
    false → R (.returned (.tuple #[])) w12))))))
theorem sx156.ok {data : Option Addr} {data_n data_c : Nat} {a : Int} {b : Int} {R : Ending → World → Prop} {w : World} (h : sx156 data data_n data_c a b R w) : CallsW Tryz.prog 156 [.slice data data_n data_c, .int .i64 a, .int .i64 b] w R :=
  callsW_of mix Tryz.func156 (by kernel_rfl) (by kernel_rfl) (Eq.mpr (by kernel_rfl : denFn Tryz.prog { named := [16, 17, 28], draws := [(10, { order := (.cons 0 (.cons 1 (.cons 2 (.cons 3 (.cons 4 (.cons 5 (.cons 6 (.cons 7 (.cons 8 (.cons 9 (.cons 10 (.cons 11 (.cons 12 (.cons 13 (.cons 14 (.cons 15 (.cons 16 (.cons 17 (.cons 18 (.cons 19 .nil)))))))))))))))))))), bars := [17, 19] })], loops := [(4, { slots := [(9, .int .i64)], cells := [] }), (8, { slots := [(10, .int .i64)], cells := [] })] } Tryz.f156 [.slice data data_n data_c, .int .i64 a, .int .i64 b] R w = sx156 data data_n data_c a b R w) h)

/- slices.reverseRangeOrdered[int] -/
def sx159 (data : Option Addr) (data_n data_c : Nat) (a : Int) (b : Int) (R : Ending → World → Prop) (w : World) : Prop :=
  ∃ (I1 : Int → Int → World → Prop) (m1 : Int → Int → World → Nat), I1 a (IntKind.i64.wrap (b - 1)) w ∧ ∀ (n2 : Int) (n3 : Int) (w4 : World), I1 n2 n3 w4 → (((decide (n2 < n3)) = true → ∀ w5, Grew w4 w5 → withSome data (fun
    d6 => (0 ≤ n3 ∧ n3 < (data_n : Nat)) ∧ ∃ (n7 : Int), w5.cell? (Addr.add d6 (n3.toNat * 1)) = some (.int .i64 n7) ∧ withSome data (fun d8 => (0 ≤ n2 ∧ n2 < (data_n : Nat)) ∧ ∃ (n9 : Int), w5.cell? (Addr.add d8
    (n2.toNat * 1)) = some (.int .i64 n9) ∧ withSome data (fun d10 => (0 ≤ n2 ∧ n2 < (data_n : Nat)) ∧ RoomAt w5 (Addr.add d10 (n2.toNat * 1)) 0 [.int .i64 n7] ∧ ∀ w11, w11 = setCells w5 (Addr.add d10 (n2.toNat * 1)) 0
    [.int .i64 n7] → withSome data (fun d12 => (0 ≤ n3 ∧ n3 < (data_n : Nat)) ∧ RoomAt w11 (Addr.add d12 (n3.toNat * 1)) 0 [.int .i64 n9] ∧ ∀ w13, w13 = setCells w11 (Addr.add d12 (n3.toNat * 1)) 0 [.int .i64 n9] → (I1
    (IntKind.i64.wrap (n2 + 1)) (IntKind.i64.wrap (n3 - 1)) w13 ∧ m1 (IntKind.i64.wrap (n2 + 1)) (IntKind.i64.wrap (n3 - 1)) w13 < m1 n2 n3 w4)))))) ∧ ((decide (n2 < n3)) = false → R (.returned (.tuple #[])) w4))
theorem sx159.ok {data : Option Addr} {data_n data_c : Nat} {a : Int} {b : Int} {R : Ending → World → Prop} {w : World} (h : sx159 data data_n data_c a b R w) : CallsW Tryz.prog 159 [.slice data data_n data_c, .int .i64 a, .int .i64 b] w R :=
  callsW_of mix Tryz.func159 (by kernel_rfl) (by kernel_rfl) (Eq.mpr (by kernel_rfl : denFn Tryz.prog { draws := [(3, { order := (.cons 0 (.cons 1 (.cons 2 (.cons 3 (.cons 4 (.cons 5 (.cons 6 (.cons 7 (.cons 8 (.cons 9 (.cons 10 (.cons 11 (.cons 12 (.cons 13 (.cons 14 (.cons 15 .nil)))))))))))))))), bars := [13, 15] })], loops := [(2, { slots := [(6, .int .i64), (7, .int .i64)], cells := [] })] } Tryz.f159 [.slice data data_n data_c, .int .i64 a, .int .i64 b] R w = sx159 data data_n data_c a b R w) h)

/- slices.partitionOrdered[int] -/
def sx163 (d : Option Addr) (d_n d_c : Nat) (i : Int) (p2 : Int) (p3 : Int) (R : Ending → World → Prop) (w : World) : Prop :=
  ∀ w1, Grew w w1 → withSome d (fun d2 => (0 ≤ p3 ∧ p3 < (d_n : Nat)) ∧ ∃ (n3 : Int), w1.cell? (Addr.add d2 (p3.toNat * 1)) = some (.int .i64 n3) ∧ withSome d (fun d4 => (0 ≤ i ∧ i < (d_n : Nat)) ∧ ∃ (n5 : Int), w1.cell?
    (Addr.add d4 (i.toNat * 1)) = some (.int .i64 n5) ∧ withSome d (fun d6 => (0 ≤ i ∧ i < (d_n : Nat)) ∧ RoomAt w1 (Addr.add d6 (i.toNat * 1)) 0 [.int .i64 n3] ∧ ∀ w7, w7 = setCells w1 (Addr.add d6 (i.toNat * 1)) 0 [.int
    .i64 n3] → withSome d (fun d8 => (0 ≤ p3 ∧ p3 < (d_n : Nat)) ∧ RoomAt w7 (Addr.add d8 (p3.toNat * 1)) 0 [.int .i64 n5] ∧ ∀ w9, w9 = setCells w7 (Addr.add d8 (p3.toNat * 1)) 0 [.int .i64 n5] → ∃ (J10 : Int → World →
    Prop), (∃ (I11 : Int → World → Prop) (m11 : Int → World → Nat), I11 (IntKind.i64.wrap (i + 1)) w9 ∧ ∀ (n12 : Int) (w13 : World), I11 n12 w13 → ∀ w14, Grew w13 w14 → (((decide (n12 ≤ IntKind.i64.wrap (p2 - 1))) = true
    → withSome d (fun d15 => (0 ≤ n12 ∧ n12 < (d_n : Nat)) ∧ ∃ (n16 : Int), w14.cell? (Addr.add d15 (n12.toNat * 1)) = some (.int .i64 n16) ∧ withSome d (fun d17 => (0 ≤ i ∧ i < (d_n : Nat)) ∧ ∃ (n18 : Int), w14.cell?
    (Addr.add d17 (i.toNat * 1)) = some (.int .i64 n18) ∧ CallsW Tryz.prog 161 [.int .i64 n16, .int .i64 n18] w14 (RetR R fun u20 w19 => ∃ (b21 : Bool), u20 = .bool b21 ∧ SameB w14 w19 [(Addr.add d17 (i.toNat * 1)),
    (Addr.add d15 (n12.toNat * 1))] ∧ ((b21 = true → (I11 (IntKind.i64.wrap (n12 + 1)) w19 ∧ m11 (IntKind.i64.wrap (n12 + 1)) w19 < m11 n12 w13)) ∧ (b21 = false → J10 n12 w19)))))) ∧ ((decide (n12 ≤ IntKind.i64.wrap (p2 -
    1))) = false → J10 n12 w14))) ∧ ∀ (n23 : Int) (w24 : World), J10 n23 w24 → ∃ (J25 : Int → World → Prop), (∃ (I26 : Int → World → Prop) (m26 : Int → World → Nat), I26 (IntKind.i64.wrap (p2 - 1)) w24 ∧ ∀ (n27 : Int)
    (w28 : World), I26 n27 w28 → ∀ w29, Grew w28 w29 → (((decide (n23 ≤ n27)) = true → withSome d (fun d30 => (0 ≤ n27 ∧ n27 < (d_n : Nat)) ∧ ∃ (n31 : Int), w29.cell? (Addr.add d30 (n27.toNat * 1)) = some (.int .i64 n31)
    ∧ withSome d (fun d32 => (0 ≤ i ∧ i < (d_n : Nat)) ∧ ∃ (n33 : Int), w29.cell? (Addr.add d32 (i.toNat * 1)) = some (.int .i64 n33) ∧ CallsW Tryz.prog 161 [.int .i64 n31, .int .i64 n33] w29 (RetR R fun u35 w34 => ∃ (b36
    : Bool), u35 = .bool b36 ∧ SameB w29 w34 [(Addr.add d32 (i.toNat * 1)), (Addr.add d30 (n27.toNat * 1))] ∧ (((!b36) = true → (I26 (IntKind.i64.wrap (n27 - 1)) w34 ∧ m26 (IntKind.i64.wrap (n27 - 1)) w34 < m26 n27 w28))
    ∧ ((!b36) = false → J25 n27 w34)))))) ∧ ((decide (n23 ≤ n27)) = false → J25 n27 w29))) ∧ ∀ (n38 : Int) (w39 : World), J25 n38 w39 → (((decide (n23 > n38)) = true → ∀ w40, Grew w39 w40 → withSome d (fun d41 => (0 ≤ i ∧
    i < (d_n : Nat)) ∧ ∃ (n42 : Int), w40.cell? (Addr.add d41 (i.toNat * 1)) = some (.int .i64 n42) ∧ withSome d (fun d43 => (0 ≤ n38 ∧ n38 < (d_n : Nat)) ∧ ∃ (n44 : Int), w40.cell? (Addr.add d43 (n38.toNat * 1)) = some
    (.int .i64 n44) ∧ withSome d (fun d45 => (0 ≤ n38 ∧ n38 < (d_n : Nat)) ∧ RoomAt w40 (Addr.add d45 (n38.toNat * 1)) 0 [.int .i64 n42] ∧ ∀ w46, w46 = setCells w40 (Addr.add d45 (n38.toNat * 1)) 0 [.int .i64 n42] →
    withSome d (fun d47 => (0 ≤ i ∧ i < (d_n : Nat)) ∧ RoomAt w46 (Addr.add d47 (i.toNat * 1)) 0 [.int .i64 n44] ∧ ∀ w48, w48 = setCells w46 (Addr.add d47 (i.toNat * 1)) 0 [.int .i64 n44] → R (.returned (.tuple #[.int
    .i64 n38, .bool true])) w48))))) ∧ ((decide (n23 > n38)) = false → ∀ w49, Grew w39 w49 → withSome d (fun d50 => (0 ≤ n38 ∧ n38 < (d_n : Nat)) ∧ ∃ (n51 : Int), w49.cell? (Addr.add d50 (n38.toNat * 1)) = some (.int .i64
    n51) ∧ withSome d (fun d52 => (0 ≤ n23 ∧ n23 < (d_n : Nat)) ∧ ∃ (n53 : Int), w49.cell? (Addr.add d52 (n23.toNat * 1)) = some (.int .i64 n53) ∧ withSome d (fun d54 => (0 ≤ n23 ∧ n23 < (d_n : Nat)) ∧ RoomAt w49
    (Addr.add d54 (n23.toNat * 1)) 0 [.int .i64 n51] ∧ ∀ w55, w55 = setCells w49 (Addr.add d54 (n23.toNat * 1)) 0 [.int .i64 n51] → withSome d (fun d56 => (0 ≤ n38 ∧ n38 < (d_n : Nat)) ∧ RoomAt w55 (Addr.add d56
    (n38.toNat * 1)) 0 [.int .i64 n53] ∧ ∀ w57, w57 = setCells w55 (Addr.add d56 (n38.toNat * 1)) 0 [.int .i64 n53] → ∃ (I58 : Int → Int → World → Prop) (m58 : Int → Int → World → Nat), I58 (IntKind.i64.wrap (n23 + 1))
    (IntKind.i64.wrap (n38 - 1)) w57 ∧ ∀ (n59 : Int) (n60 : Int) (w61 : World), I58 n59 n60 w61 → ∃ (J62 : Int → World → Prop), (∃ (I63 : Int → World → Prop) (m63 : Int → World → Nat), I63 n59 w61 ∧ ∀ (n64 : Int) (w65 :
    World), I63 n64 w65 → ∀ w66, Grew w65 w66 → (((decide (n64 ≤ n60)) = true → withSome d (fun d67 => (0 ≤ n64 ∧ n64 < (d_n : Nat)) ∧ ∃ (n68 : Int), w66.cell? (Addr.add d67 (n64.toNat * 1)) = some (.int .i64 n68) ∧
    withSome d (fun d69 => (0 ≤ i ∧ i < (d_n : Nat)) ∧ ∃ (n70 : Int), w66.cell? (Addr.add d69 (i.toNat * 1)) = some (.int .i64 n70) ∧ CallsW Tryz.prog 161 [.int .i64 n68, .int .i64 n70] w66 (RetR R fun u72 w71 => ∃ (b73 :
    Bool), u72 = .bool b73 ∧ SameB w66 w71 [(Addr.add d69 (i.toNat * 1)), (Addr.add d67 (n64.toNat * 1))] ∧ ((b73 = true → (I63 (IntKind.i64.wrap (n64 + 1)) w71 ∧ m63 (IntKind.i64.wrap (n64 + 1)) w71 < m63 n64 w65)) ∧
    (b73 = false → J62 n64 w71)))))) ∧ ((decide (n64 ≤ n60)) = false → J62 n64 w66))) ∧ ∀ (n75 : Int) (w76 : World), J62 n75 w76 → ∃ (I77 : Int → World → Prop) (m77 : Int → World → Nat), I77 n60 w76 ∧ ∀ (n78 : Int) (w79 :
    World), I77 n78 w79 → ∀ w80, Grew w79 w80 → (((decide (n75 ≤ n78)) = true → withSome d (fun d81 => (0 ≤ n78 ∧ n78 < (d_n : Nat)) ∧ ∃ (n82 : Int), w80.cell? (Addr.add d81 (n78.toNat * 1)) = some (.int .i64 n82) ∧
    withSome d (fun d83 => (0 ≤ i ∧ i < (d_n : Nat)) ∧ ∃ (n84 : Int), w80.cell? (Addr.add d83 (i.toNat * 1)) = some (.int .i64 n84) ∧ CallsW Tryz.prog 161 [.int .i64 n82, .int .i64 n84] w80 (RetR R fun u86 w85 => ∃ (b87 :
    Bool), u86 = .bool b87 ∧ SameB w80 w85 [(Addr.add d83 (i.toNat * 1)), (Addr.add d81 (n78.toNat * 1))] ∧ (((!b87) = true → (I77 (IntKind.i64.wrap (n78 - 1)) w85 ∧ m77 (IntKind.i64.wrap (n78 - 1)) w85 < m77 n78 w79)) ∧
    ((!b87) = false → (((decide (n75 > n78)) = true → ∀ w89, Grew w85 w89 → withSome d (fun d90 => (0 ≤ i ∧ i < (d_n : Nat)) ∧ ∃ (n91 : Int), w89.cell? (Addr.add d90 (i.toNat * 1)) = some (.int .i64 n91) ∧ withSome d (fun
    d92 => (0 ≤ n78 ∧ n78 < (d_n : Nat)) ∧ ∃ (n93 : Int), w89.cell? (Addr.add d92 (n78.toNat * 1)) = some (.int .i64 n93) ∧ withSome d (fun d94 => (0 ≤ n78 ∧ n78 < (d_n : Nat)) ∧ RoomAt w89 (Addr.add d94 (n78.toNat * 1))
    0 [.int .i64 n91] ∧ ∀ w95, w95 = setCells w89 (Addr.add d94 (n78.toNat * 1)) 0 [.int .i64 n91] → withSome d (fun d96 => (0 ≤ i ∧ i < (d_n : Nat)) ∧ RoomAt w95 (Addr.add d96 (i.toNat * 1)) 0 [.int .i64 n93] ∧ ∀ w97,
    w97 = setCells w95 (Addr.add d96 (i.toNat * 1)) 0 [.int .i64 n93] → R (.returned (.tuple #[.int .i64 n78, .bool false])) w97))))) ∧ ((decide (n75 > n78)) = false → ∀ w98, Grew w85 w98 → withSome d (fun d99 => (0 ≤ n78
    ∧ n78 < (d_n : Nat)) ∧ ∃ (n100 : Int), w98.cell? (Addr.add d99 (n78.toNat * 1)) = some (.int .i64 n100) ∧ withSome d (fun d101 => (0 ≤ n75 ∧ n75 < (d_n : Nat)) ∧ ∃ (n102 : Int), w98.cell? (Addr.add d101 (n75.toNat *
    1)) = some (.int .i64 n102) ∧ withSome d (fun d103 => (0 ≤ n75 ∧ n75 < (d_n : Nat)) ∧ RoomAt w98 (Addr.add d103 (n75.toNat * 1)) 0 [.int .i64 n100] ∧ ∀ w104, w104 = setCells w98 (Addr.add d103 (n75.toNat * 1)) 0 [.int
    .i64 n100] → withSome d (fun d105 => (0 ≤ n78 ∧ n78 < (d_n : Nat)) ∧ RoomAt w104 (Addr.add d105 (n78.toNat * 1)) 0 [.int .i64 n102] ∧ ∀ w106, w106 = setCells w104 (Addr.add d105 (n78.toNat * 1)) 0 [.int .i64 n102] →
    (I58 (IntKind.i64.wrap (n75 + 1)) (IntKind.i64.wrap (n78 - 1)) w106 ∧ m58 (IntKind.i64.wrap (n75 + 1)) (IntKind.i64.wrap (n78 - 1)) w106 < m58 n59 n60 w61))))))))))))) ∧ ((decide (n75 ≤ n78)) = false → (((decide (n75
    > n78)) = true → ∀ w107, Grew w80 w107 → withSome d (fun d108 => (0 ≤ i ∧ i < (d_n : Nat)) ∧ ∃ (n109 : Int), w107.cell? (Addr.add d108 (i.toNat * 1)) = some (.int .i64 n109) ∧ withSome d (fun d110 => (0 ≤ n78 ∧ n78 <
    (d_n : Nat)) ∧ ∃ (n111 : Int), w107.cell? (Addr.add d110 (n78.toNat * 1)) = some (.int .i64 n111) ∧ withSome d (fun d112 => (0 ≤ n78 ∧ n78 < (d_n : Nat)) ∧ RoomAt w107 (Addr.add d112 (n78.toNat * 1)) 0 [.int .i64
    n109] ∧ ∀ w113, w113 = setCells w107 (Addr.add d112 (n78.toNat * 1)) 0 [.int .i64 n109] → withSome d (fun d114 => (0 ≤ i ∧ i < (d_n : Nat)) ∧ RoomAt w113 (Addr.add d114 (i.toNat * 1)) 0 [.int .i64 n111] ∧ ∀ w115, w115
    = setCells w113 (Addr.add d114 (i.toNat * 1)) 0 [.int .i64 n111] → R (.returned (.tuple #[.int .i64 n78, .bool false])) w115))))) ∧ ((decide (n75 > n78)) = false → ∀ w116, Grew w80 w116 → withSome d (fun d117 => (0 ≤
    n78 ∧ n78 < (d_n : Nat)) ∧ ∃ (n118 : Int), w116.cell? (Addr.add d117 (n78.toNat * 1)) = some (.int .i64 n118) ∧ withSome d (fun d119 => (0 ≤ n75 ∧ n75 < (d_n : Nat)) ∧ ∃ (n120 : Int), w116.cell? (Addr.add d119
    (n75.toNat * 1)) = some (.int .i64 n120) ∧ withSome d (fun d121 => (0 ≤ n75 ∧ n75 < (d_n : Nat)) ∧ RoomAt w116 (Addr.add d121 (n75.toNat * 1)) 0 [.int .i64 n118] ∧ ∀ w122, w122 = setCells w116 (Addr.add d121
    (n75.toNat * 1)) 0 [.int .i64 n118] → withSome d (fun d123 => (0 ≤ n78 ∧ n78 < (d_n : Nat)) ∧ RoomAt w122 (Addr.add d123 (n78.toNat * 1)) 0 [.int .i64 n120] ∧ ∀ w124, w124 = setCells w122 (Addr.add d123 (n78.toNat *
    1)) 0 [.int .i64 n120] → (I58 (IntKind.i64.wrap (n75 + 1)) (IntKind.i64.wrap (n78 - 1)) w124 ∧ m58 (IntKind.i64.wrap (n75 + 1)) (IntKind.i64.wrap (n78 - 1)) w124 < m58 n59 n60 w61)))))))))))))))))))
theorem sx163.ok {d : Option Addr} {d_n d_c : Nat} {i : Int} {p2 : Int} {p3 : Int} {R : Ending → World → Prop} {w : World} (h : sx163 d d_n d_c i p2 p3 R w) : CallsW Tryz.prog 163 [.slice d d_n d_c, .int .i64 i, .int .i64 p2, .int .i64 p3] w R :=
  callsW_of mix Tryz.func163 (by kernel_rfl) (by kernel_rfl) (Eq.mpr (by kernel_rfl : denFn Tryz.prog { draws := [(1, { order := (.cons 0 (.cons 1 (.cons 2 (.cons 3 (.cons 4 (.cons 5 (.cons 6 (.cons 7 (.cons 8 (.cons 9 (.cons 10 (.cons 11 (.cons 12 (.cons 13 (.cons 14 (.cons 15 .nil)))))))))))))))), bars := [13, 15] }), (3, { order := (.cons 0 (.cons 1 (.cons 2 (.cons 3 (.cons 4 (.cons 5 (.cons 6 (.cons 7 (.cons 8 (.cons 9 (.cons 10 (.cons 11 (.cons 12 (.cons 13 .nil)))))))))))))), bars := [] }), (5, { order := (.cons 0 (.cons 1 (.cons 2 (.cons 3 (.cons 4 (.cons 5 (.cons 6 (.cons 7 (.cons 8 (.cons 9 (.cons 10 (.cons 11 (.cons 12 (.cons 13 (.cons 14 .nil))))))))))))))), bars := [] }), (8, { order := (.cons 0 (.cons 1 (.cons 2 (.cons 3 (.cons 4 (.cons 5 (.cons 6 (.cons 7 (.cons 8 (.cons 9 (.cons 10 (.cons 11 (.cons 12 (.cons 13 (.cons 14 (.cons 15 .nil)))))))))))))))), bars := [13, 15] }), (10, { order := (.cons 0 (.cons 1 (.cons 2 (.cons 3 (.cons 4 (.cons 5 (.cons 6 (.cons 7 (.cons 8 (.cons 9 (.cons 10 (.cons 11 (.cons 12 (.cons 13 (.cons 14 (.cons 15 .nil)))))))))))))))), bars := [13, 15] }), (13, { order := (.cons 0 (.cons 1 (.cons 2 (.cons 3 (.cons 4 (.cons 5 (.cons 6 (.cons 7 (.cons 8 (.cons 9 (.cons 10 (.cons 11 (.cons 12 (.cons 13 .nil)))))))))))))), bars := [] }), (15, { order := (.cons 0 (.cons 1 (.cons 2 (.cons 3 (.cons 4 (.cons 5 (.cons 6 (.cons 7 (.cons 8 (.cons 9 (.cons 10 (.cons 11 (.cons 12 (.cons 13 (.cons 14 .nil))))))))))))))), bars := [] }), (18, { order := (.cons 0 (.cons 1 (.cons 2 (.cons 3 (.cons 4 (.cons 5 (.cons 6 (.cons 7 (.cons 8 (.cons 9 (.cons 10 (.cons 11 (.cons 12 (.cons 13 (.cons 14 (.cons 15 .nil)))))))))))))))), bars := [13, 15] }), (21, { order := (.cons 0 (.cons 1 (.cons 2 (.cons 3 (.cons 4 (.cons 5 (.cons 6 (.cons 7 (.cons 8 (.cons 9 (.cons 10 (.cons 11 (.cons 12 (.cons 13 (.cons 14 (.cons 15 .nil)))))))))))))))), bars := [13, 15] })], loops := [(3, { slots := [(10, .int .i64)], cells := [] }), (5, { slots := [(11, .int .i64)], cells := [] }), (13, { slots := [(10, .int .i64)], cells := [] }), (15, { slots := [(11, .int .i64)], cells := [] }), (2013, { slots := [(10, .int .i64), (11, .int .i64)], cells := [] })], cuts := [(5, { slots := [(10, .int .i64)], cells := [] }), (7, { slots := [(11, .int .i64)], cells := [] }), (15, { slots := [(10, .int .i64)], cells := [] })] } Tryz.f163 [.slice d d_n d_c, .int .i64 i, .int .i64 p2, .int .i64 p3] R w = sx163 d d_n d_c i p2 p3 R w) h)

/- slices.partitionEqualOrdered[int] -/
def sx162 (d : Option Addr) (d_n d_c : Nat) (i : Int) (p2 : Int) (p3 : Int) (R : Ending → World → Prop) (w : World) : Prop :=
  ∀ w1, Grew w w1 → withSome d (fun d2 => (0 ≤ p3 ∧ p3 < (d_n : Nat)) ∧ ∃ (n3 : Int), w1.cell? (Addr.add d2 (p3.toNat * 1)) = some (.int .i64 n3) ∧ withSome d (fun d4 => (0 ≤ i ∧ i < (d_n : Nat)) ∧ ∃ (n5 : Int), w1.cell?
    (Addr.add d4 (i.toNat * 1)) = some (.int .i64 n5) ∧ withSome d (fun d6 => (0 ≤ i ∧ i < (d_n : Nat)) ∧ RoomAt w1 (Addr.add d6 (i.toNat * 1)) 0 [.int .i64 n3] ∧ ∀ w7, w7 = setCells w1 (Addr.add d6 (i.toNat * 1)) 0 [.int
    .i64 n3] → withSome d (fun d8 => (0 ≤ p3 ∧ p3 < (d_n : Nat)) ∧ RoomAt w7 (Addr.add d8 (p3.toNat * 1)) 0 [.int .i64 n5] ∧ ∀ w9, w9 = setCells w7 (Addr.add d8 (p3.toNat * 1)) 0 [.int .i64 n5] → ∃ (I10 : Int → Int →
    World → Prop) (m10 : Int → Int → World → Nat), I10 (IntKind.i64.wrap (i + 1)) (IntKind.i64.wrap (p2 - 1)) w9 ∧ ∀ (n11 : Int) (n12 : Int) (w13 : World), I10 n11 n12 w13 → ∃ (J14 : Int → World → Prop), (∃ (I15 : Int →
    World → Prop) (m15 : Int → World → Nat), I15 n11 w13 ∧ ∀ (n16 : Int) (w17 : World), I15 n16 w17 → ∀ w18, Grew w17 w18 → (((decide (n16 ≤ n12)) = true → withSome d (fun d19 => (0 ≤ i ∧ i < (d_n : Nat)) ∧ ∃ (n20 : Int),
    w18.cell? (Addr.add d19 (i.toNat * 1)) = some (.int .i64 n20) ∧ withSome d (fun d21 => (0 ≤ n16 ∧ n16 < (d_n : Nat)) ∧ ∃ (n22 : Int), w18.cell? (Addr.add d21 (n16.toNat * 1)) = some (.int .i64 n22) ∧ CallsW Tryz.prog
    161 [.int .i64 n20, .int .i64 n22] w18 (RetR R fun u24 w23 => ∃ (b25 : Bool), u24 = .bool b25 ∧ SameB w18 w23 [(Addr.add d21 (n16.toNat * 1)), (Addr.add d19 (i.toNat * 1))] ∧ (((!b25) = true → (I15 (IntKind.i64.wrap
    (n16 + 1)) w23 ∧ m15 (IntKind.i64.wrap (n16 + 1)) w23 < m15 n16 w17)) ∧ ((!b25) = false → J14 n16 w23)))))) ∧ ((decide (n16 ≤ n12)) = false → J14 n16 w18))) ∧ ∀ (n27 : Int) (w28 : World), J14 n27 w28 → ∃ (I29 : Int →
    World → Prop) (m29 : Int → World → Nat), I29 n12 w28 ∧ ∀ (n30 : Int) (w31 : World), I29 n30 w31 → ∀ w32, Grew w31 w32 → (((decide (n27 ≤ n30)) = true → withSome d (fun d33 => (0 ≤ i ∧ i < (d_n : Nat)) ∧ ∃ (n34 : Int),
    w32.cell? (Addr.add d33 (i.toNat * 1)) = some (.int .i64 n34) ∧ withSome d (fun d35 => (0 ≤ n30 ∧ n30 < (d_n : Nat)) ∧ ∃ (n36 : Int), w32.cell? (Addr.add d35 (n30.toNat * 1)) = some (.int .i64 n36) ∧ CallsW Tryz.prog
    161 [.int .i64 n34, .int .i64 n36] w32 (RetR R fun u38 w37 => ∃ (b39 : Bool), u38 = .bool b39 ∧ SameB w32 w37 [(Addr.add d35 (n30.toNat * 1)), (Addr.add d33 (i.toNat * 1))] ∧ ((b39 = true → (I29 (IntKind.i64.wrap (n30
    - 1)) w37 ∧ m29 (IntKind.i64.wrap (n30 - 1)) w37 < m29 n30 w31)) ∧ (b39 = false → (((decide (n27 > n30)) = true → R (.returned (.int .i64 n27)) w37) ∧ ((decide (n27 > n30)) = false → ∀ w41, Grew w37 w41 → withSome d
    (fun d42 => (0 ≤ n30 ∧ n30 < (d_n : Nat)) ∧ ∃ (n43 : Int), w41.cell? (Addr.add d42 (n30.toNat * 1)) = some (.int .i64 n43) ∧ withSome d (fun d44 => (0 ≤ n27 ∧ n27 < (d_n : Nat)) ∧ ∃ (n45 : Int), w41.cell? (Addr.add
    d44 (n27.toNat * 1)) = some (.int .i64 n45) ∧ withSome d (fun d46 => (0 ≤ n27 ∧ n27 < (d_n : Nat)) ∧ RoomAt w41 (Addr.add d46 (n27.toNat * 1)) 0 [.int .i64 n43] ∧ ∀ w47, w47 = setCells w41 (Addr.add d46 (n27.toNat *
    1)) 0 [.int .i64 n43] → withSome d (fun d48 => (0 ≤ n30 ∧ n30 < (d_n : Nat)) ∧ RoomAt w47 (Addr.add d48 (n30.toNat * 1)) 0 [.int .i64 n45] ∧ ∀ w49, w49 = setCells w47 (Addr.add d48 (n30.toNat * 1)) 0 [.int .i64 n45] →
    (I10 (IntKind.i64.wrap (n27 + 1)) (IntKind.i64.wrap (n30 - 1)) w49 ∧ m10 (IntKind.i64.wrap (n27 + 1)) (IntKind.i64.wrap (n30 - 1)) w49 < m10 n11 n12 w13))))))))))))) ∧ ((decide (n27 ≤ n30)) = false → (((decide (n27 >
    n30)) = true → R (.returned (.int .i64 n27)) w32) ∧ ((decide (n27 > n30)) = false → ∀ w50, Grew w32 w50 → withSome d (fun d51 => (0 ≤ n30 ∧ n30 < (d_n : Nat)) ∧ ∃ (n52 : Int), w50.cell? (Addr.add d51 (n30.toNat * 1))
    = some (.int .i64 n52) ∧ withSome d (fun d53 => (0 ≤ n27 ∧ n27 < (d_n : Nat)) ∧ ∃ (n54 : Int), w50.cell? (Addr.add d53 (n27.toNat * 1)) = some (.int .i64 n54) ∧ withSome d (fun d55 => (0 ≤ n27 ∧ n27 < (d_n : Nat)) ∧
    RoomAt w50 (Addr.add d55 (n27.toNat * 1)) 0 [.int .i64 n52] ∧ ∀ w56, w56 = setCells w50 (Addr.add d55 (n27.toNat * 1)) 0 [.int .i64 n52] → withSome d (fun d57 => (0 ≤ n30 ∧ n30 < (d_n : Nat)) ∧ RoomAt w56 (Addr.add
    d57 (n30.toNat * 1)) 0 [.int .i64 n54] ∧ ∀ w58, w58 = setCells w56 (Addr.add d57 (n30.toNat * 1)) 0 [.int .i64 n54] → (I10 (IntKind.i64.wrap (n27 + 1)) (IntKind.i64.wrap (n30 - 1)) w58 ∧ m10 (IntKind.i64.wrap (n27 +
    1)) (IntKind.i64.wrap (n30 - 1)) w58 < m10 n11 n12 w13)))))))))))))
theorem sx162.ok {d : Option Addr} {d_n d_c : Nat} {i : Int} {p2 : Int} {p3 : Int} {R : Ending → World → Prop} {w : World} (h : sx162 d d_n d_c i p2 p3 R w) : CallsW Tryz.prog 162 [.slice d d_n d_c, .int .i64 i, .int .i64 p2, .int .i64 p3] w R :=
  callsW_of mix Tryz.func162 (by kernel_rfl) (by kernel_rfl) (Eq.mpr (by kernel_rfl : denFn Tryz.prog { draws := [(1, { order := (.cons 0 (.cons 1 (.cons 2 (.cons 3 (.cons 4 (.cons 5 (.cons 6 (.cons 7 (.cons 8 (.cons 9 (.cons 10 (.cons 11 (.cons 12 (.cons 13 (.cons 14 (.cons 15 .nil)))))))))))))))), bars := [13, 15] }), (3, { order := (.cons 0 (.cons 1 (.cons 2 (.cons 3 (.cons 4 (.cons 5 (.cons 6 (.cons 7 (.cons 8 (.cons 9 (.cons 10 (.cons 11 (.cons 12 (.cons 13 (.cons 14 .nil))))))))))))))), bars := [] }), (5, { order := (.cons 0 (.cons 1 (.cons 2 (.cons 3 (.cons 4 (.cons 5 (.cons 6 (.cons 7 (.cons 8 (.cons 9 (.cons 10 (.cons 11 (.cons 12 (.cons 13 .nil)))))))))))))), bars := [] }), (8, { order := (.cons 0 (.cons 1 (.cons 2 (.cons 3 (.cons 4 (.cons 5 (.cons 6 (.cons 7 (.cons 8 (.cons 9 (.cons 10 (.cons 11 (.cons 12 (.cons 13 (.cons 14 (.cons 15 .nil)))))))))))))))), bars := [13, 15] })], loops := [(3, { slots := [(9, .int .i64)], cells := [] }), (5, { slots := [(10, .int .i64)], cells := [] }), (2003, { slots := [(9, .int .i64), (10, .int .i64)], cells := [] })], cuts := [(5, { slots := [(9, .int .i64)], cells := [] })] } Tryz.f162 [.slice d d_n d_c, .int .i64 i, .int .i64 p2, .int .i64 p3] R w = sx162 d d_n d_c i p2 p3 R w) h)

open Go.Sort

theorem isNaN_I_ok {x : Int} {w : World} : CallsW Tryz.prog 182 [.int .i64 x] w (Rets fun v w' => v = .bool false ∧ w' = w) := by
  refine sx182.ok ?_
  unfold sx182
  exact ⟨_, rfl, by simp, rfl⟩
theorem less_I_ok {x y : Int} {w : World} : CallsW Tryz.prog 161 [.int .i64 x, .int .i64 y] w (Rets fun v w' => v = .bool (ltInt x y) ∧ w' = w) := by
  refine sx161.ok ?_
  unfold sx161
  refine isNaN_I_ok.use fun v w1 ⟨hv, hw⟩ => ?_
  subst hv; subst hw
  exact ⟨_, rfl, fun h => (by cases h), fun _ => ⟨_, rfl, rfl, rfl⟩⟩
/-- two numbers compared, whatever is around -/
theorem less_I_use {x y : Int} {w : World} {k : Value → World → Prop} {pn : List PanicEntry → World → Prop} (h : k (.bool (ltInt x y)) w) : CallsW Tryz.prog 161 [.int .i64 x, .int .i64 y] w (Ret k pn) :=
  less_I_ok.use' fun v w' ⟨hv, hw⟩ => by subst hv; subst hw; exact h

abbrev Sr_I (B : Nat) (a : Option Addr) (n c : Nat) (w : World) (d : Array Int) : Prop := Ar .i64 3 B a n c w d
/-- the row is turned into d -/
def Srt_I (B : Nat) (p : Option Addr) (n c : Nat) (w : World) (r : Value) (d : Array Int) (v : Value) (w' : World) : Prop := v = r ∧ Sr_I B p n c w' d ∧ Upd (Blk p) w w'

theorem ins_I_ok {B : Nat} {p : Option Addr} {n c a b : Nat} {d : Array Int} {w : World} (h : Sr_I B p n c w d) (hab : a ≤ b) (hb : b ≤ d.size) (hsz : d.size < 4611686018427387904) :
    CallsW Tryz.prog 155 [.slice p n c, .int .i64 a, .int .i64 b] w (Rets (Srt_I B p n c w (.tuple #[]) (insertionSort ltInt d a b))) := by
  refine sx155.ok ?_
  unfold sx155
  have hw0 : IntKind.i64.wrap ((a : Int) + 1) = ((a + 1 : Nat) : Int) := by rw [IntKind.wrap_i64]; omega
  rw [hw0]
  refine ⟨fun i w' => ∃ (k : Nat) (d' : Array Int), i = k ∧ a + 1 ≤ k ∧ k ≤ b + 1 ∧ d'.size = d.size ∧ Sr_I B p n c w' d' ∧ insOuter ltInt a b k d' = insertionSort ltInt d a b ∧ Upd (Blk p) w w', fun i _ => b + 1 - i.toNat, ⟨a + 1, d, rfl, Nat.le_refl _, by omega, rfl, h, rfl, Upd.refl _ _⟩, ?_⟩
  rintro i w3 ⟨k, d', rfl, hk, hkb, hs, h3, he, hu⟩
  have hw1 : IntKind.i64.wrap ((k : Int) + 1) = ((k + 1 : Nat) : Int) := by rw [IntKind.wrap_i64]; omega
  rw [hw1]
  refine ⟨fun hlt => ?_, fun hge => ?_⟩
  · simp only [decide_eq_true_eq] at hlt
    rw [insOuter_go (by omega)] at he
    have hm : b + 1 - (((k + 1 : Nat) : Int)).toNat < b + 1 - ((k : Int)).toNat := by omega
    refine ⟨fun i w' => ∃ (j : Nat) (d2 : Array Int), i = j ∧ a ≤ j ∧ j ≤ k ∧ d2.size = d.size ∧ Sr_I B p n c w' d2 ∧ insInner ltInt a j d2 = insInner ltInt a k d' ∧ Upd (Blk p) w w', fun i _ => i.toNat, ⟨k, d', rfl, by omega, Nat.le_refl _, hs, h3, rfl, hu⟩, ?_⟩
    rintro i w6 ⟨j, d2, rfl, hj, hjk, hs2, h6, he2, hu6⟩ w7 hg7
    refine ⟨fun hgt => ?_, fun hle => ?_⟩
    · simp only [decide_eq_true_eq] at hgt
      have hw2 : IntKind.i64.wrap ((j : Int) - 1) = ((j - 1 : Nat) : Int) := by rw [IntKind.wrap_i64]; omega
      rw [hw2]
      refine Ar.rd (h6.grew hg7) (i := j) rfl (by omega) fun q1 => Ar.rd (h6.grew hg7) (i := j - 1) rfl (by omega) fun q2 => less_I_use ⟨_, rfl, sameB_refl _ _, fun hl w16 hg16 => ?_, fun hl => ?_⟩
      · have h16 := (h6.grew hg7).grew hg16
        refine Ar.rd h16 (i := j - 1) rfl (by omega) fun q3 => Ar.rd h16 (i := j) rfl (by omega) fun q4 => Ar.st h16 (i := j) rfl (by omega) fun q5 w22 h22 hu22 => Ar.st h22 (i := j - 1) rfl (by simp; omega) fun q6 w24 h24 hu24 => ?_
        exact ⟨⟨j - 1, swp d2 j (j - 1), rfl, by omega, by omega, by rw [swp_size']; exact hs2, h24, by rw [← he2, insInner_yes (by omega) hl], (((hu6.then_grew hg7).then_grew hg16).trans hu22).trans hu24⟩, by show (((j - 1 : Nat) : Int)).toNat < ((j : Int)).toNat; omega⟩
      · refine ⟨⟨k + 1, d2, rfl, by omega, by omega, hs2, h6.grew hg7, ?_, hu6.then_grew hg7⟩, hm⟩
        rw [← he, ← he2, insInner_no hl]
    · simp only [decide_eq_false_iff_not] at hle
      refine ⟨⟨k + 1, d2, rfl, by omega, by omega, hs2, h6.grew hg7, ?_, hu6.then_grew hg7⟩, hm⟩
      rw [← he, ← he2, insInner_stop (by omega)]
  · simp only [decide_eq_false_iff_not] at hge
    rw [insOuter_end (by omega)] at he
    subst he
    exact ⟨_, rfl, rfl, h3, hu⟩

theorem sift_I_ok {B : Nat} {p : Option Addr} {n c lo hi first : Nat} {d : Array Int} {w : World} (h : Sr_I B p n c w d) (hb : first + hi ≤ d.size) (hlo : lo ≤ hi) (hsz : d.size < 2305843009213693952) :
    CallsW Tryz.prog 177 [.slice p n c, .int .i64 lo, .int .i64 hi, .int .i64 first] w (Rets (Srt_I B p n c w (.tuple #[]) (siftDown ltInt hi first lo d))) := by
  refine sx177.ok ?_
  unfold sx177
  refine ⟨fun i w' => ∃ (r : Nat) (d' : Array Int), i = r ∧ r ≤ hi ∧ d'.size = d.size ∧ Sr_I B p n c w' d' ∧ siftDown ltInt hi first r d' = siftDown ltInt hi first lo d ∧ Upd (Blk p) w w', fun i _ => hi - i.toNat, ⟨lo, d, rfl, hlo, rfl, h, rfl, Upd.refl _ _⟩, ?_⟩
  rintro i w3 ⟨r, d', rfl, hr, hs, h3, he, hu⟩
  rintro n4 rfl
  have e1 : IntKind.i64.wrap (IntKind.i64.wrap ((2 : Int) * r) + 1) = ((2 * r + 1 : Nat) : Int) := by rw [IntKind.wrap_i64, IntKind.wrap_i64]; omega
  have e2 : IntKind.i64.wrap (((2 * r + 1 : Nat) : Int) + 1) = ((2 * r + 2 : Nat) : Int) := by rw [IntKind.wrap_i64]; omega
  rw [e1, e2]
  refine ⟨fun hge => ?_, fun hlt => ?_⟩
  · simp only [decide_eq_true_eq] at hge
    rw [siftDown_end (by omega)] at he
    subst he
    exact ⟨_, rfl, rfl, h3, hu⟩
  simp only [decide_eq_false_iff_not] at hlt
  have hlt' : ¬ 2 * r + 1 ≥ hi := by omega
  have hc := child_lt (first := first) (d := d') hlt'
  refine ⟨fun i w' => i = (child hi first r d' : Nat) ∧ Sr_I B p n c w' d' ∧ Upd (Blk p) w w', fun w6 hg6 => ?_, ?_⟩
  · rintro n7 rfl
    have h6 := h3.grew hg6
    have hu6 := hu.then_grew hg6
    refine ⟨fun h2 => ?_, fun h2 => ?_⟩
    · simp only [decide_eq_true_eq] at h2
      rintro n8 rfl
      have e3 : IntKind.i64.wrap ((first : Int) + ((2 * r + 1 : Nat) : Int)) = ((first + (2 * r + 1) : Nat) : Int) := by rw [IntKind.wrap_i64]; omega
      have e4 : IntKind.i64.wrap (((first + (2 * r + 1) : Nat) : Int) + 1) = ((first + (2 * r + 2) : Nat) : Int) := by rw [IntKind.wrap_i64]; omega
      refine Ar.rd h6 (i := first + (2 * r + 1)) e3 (by omega) fun q1 => ?_
      rintro n11 rfl
      refine Ar.rd h6 (i := first + (2 * r + 2)) (by rw [e3]; exact e4) (by omega) fun q2 => less_I_use ⟨_, rfl, sameB_refl _ _, fun hl => ?_, fun hl => ?_⟩
      · rintro n18 rfl
        exact ⟨by rw [child, if_pos ⟨by omega, hl⟩], h6, hu6⟩
      · exact ⟨by rw [child, if_neg (fun hh => by rw [hh.2] at hl; cases hl)], h6, hu6⟩
    · simp only [decide_eq_false_iff_not] at h2
      exact ⟨by rw [child, if_neg (fun hh => by omega)], h6, hu6⟩
  · rintro i w20 ⟨rfl, h20, hu20⟩ w21 hg21
    have h21 := h20.grew hg21
    have e5 : IntKind.i64.wrap ((first : Int) + (r : Int)) = ((first + r : Nat) : Int) := by rw [IntKind.wrap_i64]; omega
    have e6 : IntKind.i64.wrap ((first : Int) + ((child hi first r d' : Nat) : Int)) = ((first + child hi first r d' : Nat) : Int) := by rw [IntKind.wrap_i64]; omega
    rw [e5, e6]
    rw [siftDown_go hlt'] at he
    refine Ar.rd h21 (i := first + r) rfl (by omega) fun q1 => ?_
    rintro n24 rfl
    refine Ar.rd h21 (i := first + child hi first r d') rfl (by omega) fun q2 => less_I_use ⟨_, rfl, fun hl => ?_, fun hl w31 hg31 => ?_⟩
    · have hl' : ltInt d'[first + r]! d'[first + child hi first r d']! = false := by simpa using hl
      rw [hl', if_neg (by simp)] at he
      subst he
      exact ⟨_, rfl, rfl, h21, hu20.then_grew hg21⟩
    · have hl' : ltInt d'[first + r]! d'[first + child hi first r d']! = true := by simpa using hl
      rw [hl', if_pos rfl] at he
      have h31 := h21.grew hg31
      rintro n32 rfl n33 rfl
      refine Ar.rd h31 (i := first + child hi first r d') rfl (by omega) fun q3 => Ar.rd h31 (i := first + r) rfl (by omega) fun q4 => Ar.st h31 (i := first + r) rfl (by omega) fun q5 w39 h39 hu39 => Ar.st h39 (i := first + child hi first r d') rfl (by simp; omega) fun q6 w41 h41 hu41 => ?_
      exact ⟨⟨child hi first r d', _, rfl, by omega, by rw [← hs]; exact swp_size' d' (first + r) (first + child hi first r d'), h41, he, (((hu20.then_grew hg21).then_grew hg31).trans hu39).trans hu41⟩, by show hi - (((child hi first r d' : Nat) : Int)).toNat < hi - ((r : Int)).toNat; omega⟩

theorem heap_I_ok {B : Nat} {p : Option Addr} {n c a b : Nat} {d : Array Int} {w : World} (h : Sr_I B p n c w d) (hab : a < b) (hb : b ≤ d.size) (hsz : d.size < 2305843009213693952) :
    CallsW Tryz.prog 156 [.slice p n c, .int .i64 a, .int .i64 b] w (Rets (Srt_I B p n c w (.tuple #[]) (heapSort ltInt d a b))) := by
  refine sx156.ok ?_
  unfold sx156
  have e0 : IntKind.i64.wrap ((b : Int) - (a : Int)) = ((b - a : Nat) : Int) := by rw [IntKind.wrap_i64]; omega
  have e1 : IntKind.i64.wrap (((b - a : Nat) : Int) - 1) = ((b - a - 1 : Nat) : Int) := by rw [IntKind.wrap_i64]; omega
  have e2 : IntKind.i64.wrap (Int.tdiv ((b - a - 1 : Nat) : Int) 2) = (((b - a - 1) / 2 : Nat) : Int) := by
    rw [Int.tdiv_eq_ediv_of_nonneg (by omega), IntKind.wrap_i64]; omega
  rw [e0, e1]
  rintro n1 rfl
  refine ⟨fun h => (by cases h), fun _ => ?_⟩
  rintro n2 rfl
  rw [e2]
  obtain ⟨N, hN⟩ : ∃ N, N = b - a := ⟨_, rfl⟩
  rw [← hN]
  have hheap : heapSort ltInt d a b = heapPop ltInt a N (heapBuild ltInt N a ((N - 1) / 2 + 1) d) := by rw [heapSort, hN]
  refine ⟨fun i w' => ∃ (k : Nat) (d' : Array Int), i = (k : Int) - 1 ∧ k ≤ (N - 1) / 2 + 1 ∧ d'.size = d.size ∧ Sr_I B p n c w' d' ∧ heapBuild ltInt N a k d' = heapBuild ltInt N a ((N - 1) / 2 + 1) d ∧ Upd (Blk p) w w', fun i _ => (i + 1).toNat, ⟨(N - 1) / 2 + 1, d, by omega, Nat.le_refl _, rfl, h, rfl, Upd.refl _ _⟩, ?_⟩
  rintro i w5 ⟨k, d', rfl, hk, hs, h5, he, hu⟩
  refine ⟨fun hge => ?_, fun hlt => ?_⟩
  · simp only [decide_eq_true_eq, ge_iff_le] at hge
    obtain ⟨k, rfl⟩ : ∃ k', k = k' + 1 := ⟨k - 1, by omega⟩
    have e3 : (((k + 1 : Nat) : Int) - 1) = (k : Int) := by omega
    have e4 : IntKind.i64.wrap ((k : Int) - 1) = (k : Int) - 1 := by rw [IntKind.wrap_i64]; omega
    rw [e3, e4]
    rw [heapBuild] at he
    refine (sift_I_ok h5 (by omega) (by omega) (by omega)).use fun v w6 ⟨hv, h6, hu6⟩ => ?_
    exact ⟨hv, ⟨k, _, rfl, by omega, by rw [siftDown_size' _ _ _ _ _ (Nat.le_refl _), hs], h6, he, hu.trans hu6⟩, by show ((k : Int) - 1 + 1).toNat < ((k : Int) + 1).toNat; omega⟩
  · simp only [decide_eq_false_iff_not, ge_iff_le] at hlt
    have hk0 : k = 0 := by omega
    subst hk0
    rw [heapBuild] at he
    subst he
    rintro n9 rfl
    refine ⟨fun i w' => ∃ (k : Nat) (d2 : Array Int), i = (k : Int) - 1 ∧ k ≤ N ∧ d2.size = d.size ∧ Sr_I B p n c w' d2 ∧ heapPop ltInt a k d2 = heapSort ltInt d a b ∧ Upd (Blk p) w w', fun i _ => (i + 1).toNat, ⟨N, _, by omega, Nat.le_refl _, hs, h5, hheap.symm, hu⟩, ?_⟩
    rintro i w12 ⟨k, d2, rfl, hk, hs2, h12, he2, hu12⟩
    refine ⟨fun hge => ?_, fun hlt => ?_⟩
    · simp only [decide_eq_true_eq, ge_iff_le] at hge
      obtain ⟨k, rfl⟩ : ∃ k', k = k' + 1 := ⟨k - 1, by omega⟩
      have e3 : (((k + 1 : Nat) : Int) - 1) = (k : Int) := by omega
      have e4 : IntKind.i64.wrap ((k : Int) - 1) = (k : Int) - 1 := by rw [IntKind.wrap_i64]; omega
      have e5 : IntKind.i64.wrap ((a : Int) + (k : Int)) = ((a + k : Nat) : Int) := by rw [IntKind.wrap_i64]; omega
      rw [e3, e4, e5]
      rw [heapPop] at he2
      intro w13 hg13
      have h13 := h12.grew hg13
      refine Ar.rd h13 (i := a + k) rfl (by omega) fun q3 => Ar.rd h13 (i := a) rfl (by omega) fun q4 => Ar.st h13 (i := a) rfl (by omega) fun q5 w19 h19 hu19 => Ar.st h19 (i := a + k) rfl (by simp; omega) fun q6 w21 h21 hu21 => ?_
      have hs21 := swp_size' d2 a (a + k)
      refine (sift_I_ok (lo := 0) (hi := k) (d := swp d2 a (a + k)) h21 (by omega) (Nat.zero_le _) (by omega)).use fun v w22 ⟨hv, h22, hu22⟩ => ?_
      exact ⟨hv, ⟨k, _, rfl, by omega, by rw [siftDown_size' _ _ _ _ _ (Nat.le_refl _), hs21, hs2], h22, he2, (((hu12.then_grew hg13).trans hu19).trans hu21).trans hu22⟩, by show ((k : Int) - 1 + 1).toNat < ((k : Int) + 1).toNat; omega⟩
    · simp only [decide_eq_false_iff_not, ge_iff_le] at hlt
      have hk0 : k = 0 := by omega
      subst hk0
      rw [heapPop] at he2
      subst he2
      exact ⟨_, rfl, rfl, h12, hu12⟩

theorem rev_I_ok {B : Nat} {p : Option Addr} {n c a b : Nat} {d : Array Int} {w : World} (h : Sr_I B p n c w d) (hab : a < b) (hb : b ≤ d.size) (hsz : d.size < 4611686018427387904) :
    CallsW Tryz.prog 159 [.slice p n c, .int .i64 a, .int .i64 b] w (Rets (Srt_I B p n c w (.tuple #[]) (reverseRange d a b))) := by
  refine sx159.ok ?_
  unfold sx159
  have e1 : IntKind.i64.wrap ((b : Int) - 1) = ((b - 1 : Nat) : Int) := by rw [IntKind.wrap_i64]; omega
  rw [e1]
  refine ⟨fun x y w' => ∃ (i j : Nat) (d' : Array Int), x = i ∧ y = j ∧ a ≤ i ∧ j < b ∧ d'.size = d.size ∧ Sr_I B p n c w' d' ∧ reverseLoop i j d' = reverseLoop a (b - 1) d ∧ Upd (Blk p) w w', fun x y _ => (y - x).toNat, ⟨a, b - 1, d, rfl, rfl, Nat.le_refl _, by omega, rfl, h, rfl, Upd.refl _ _⟩, ?_⟩
  rintro x y w4 ⟨i, j, d', rfl, rfl, hi, hj, hs, h4, he, hu⟩
  refine ⟨fun hlt w5 hg5 => ?_, fun hge => ?_⟩
  · simp only [decide_eq_true_eq] at hlt
    have e2 : IntKind.i64.wrap ((i : Int) + 1) = ((i + 1 : Nat) : Int) := by rw [IntKind.wrap_i64]; omega
    have e3 : IntKind.i64.wrap ((j : Int) - 1) = ((j - 1 : Nat) : Int) := by rw [IntKind.wrap_i64]; omega
    rw [e2, e3]
    have h5 := h4.grew hg5
    refine Ar.rd h5 (i := j) rfl (by omega) fun q3 => Ar.rd h5 (i := i) rfl (by omega) fun q4 => Ar.st h5 (i := i) rfl (by omega) fun q5 w11 h11 hu11 => Ar.st h11 (i := j) rfl (by simp; omega) fun q6 w13 h13 hu13 => ?_
    rw [reverseLoop, if_pos (by omega)] at he
    exact ⟨⟨i + 1, j - 1, _, rfl, rfl, by omega, by omega, by rw [← hs]; exact swp_size' d' i j, h13, he, ((hu.then_grew hg5).trans hu11).trans hu13⟩, by show (((j - 1 : Nat) : Int) - ((i + 1 : Nat) : Int)).toNat < ((j : Int) - (i : Int)).toNat; omega⟩
  · simp only [decide_eq_false_iff_not] at hge
    rw [reverseLoop, if_neg (by omega)] at he
    exact ⟨_, rfl, rfl, by rw [reverseRange, ← he]; exact h4, hu⟩
end Go.Proofs.YtcpkneemhfnanaaGreat
/- What the sort's parts hand back: the partitions. Conditions: none. -/
namespace Go.Proofs.YtcpkneemhfnanaaGreat
open Go.Sx
set_option maxRecDepth 100000
set_option linter.unusedVariables false
set_option linter.unusedSimpArgs false
open Go.Sort

set_option maxHeartbeats 1000000 in
theorem part_I_ok {B : Nat} {p : Option Addr} {n c a b pv : Nat} {d : Array Int} {w : World} (h : Sr_I B p n c w d) (hap : a ≤ pv) (hpb : pv < b) (hb : b ≤ d.size) (hsz : d.size < 4611686018427387904) :
    CallsW Tryz.prog 163 [.slice p n c, .int .i64 a, .int .i64 b, .int .i64 pv] w (Rets (Srt_I B p n c w (.tuple #[.int .i64 (partition ltInt d a b pv).1, .bool (partition ltInt d a b pv).2.1]) (partition ltInt d a b pv).2.2)) := by
  refine sx163.ok ?_
  unfold sx163
  intro w1 hg1
  have h1 := h.grew hg1
  refine Ar.rd h1 (i := pv) rfl (by omega) fun q3 => Ar.rd h1 (i := a) rfl (by omega) fun q4 => Ar.st h1 (i := a) rfl (by omega) fun q5 w7 h7 hu7 => Ar.st h7 (i := pv) rfl (by simp; omega) fun q6 w9 h9 hu9 => ?_
  obtain ⟨d1, hd1⟩ : ∃ d1, d1 = swp d a pv := ⟨_, rfl⟩
  have h9 : Sr_I B p n c w9 d1 := by rw [hd1]; exact h9
  have hu9 : Upd (Blk p) w w9 := ((hg1.upd (S := Blk p)).trans hu7).trans hu9
  have hs1 : d1.size = d.size := by rw [hd1]; exact swp_size' d a pv
  have hpart : partition ltInt d a b pv = (if scanUp (fun x => ltInt x d1[a]!) d1 (b - 1) (a + 1) > scanDown (fun x => !ltInt x d1[a]!) d1 (scanUp (fun x => ltInt x d1[a]!) d1 (b - 1) (a + 1)) (b - 1) then (scanDown (fun x => !ltInt x d1[a]!) d1 (scanUp (fun x => ltInt x d1[a]!) d1 (b - 1) (a + 1)) (b - 1), true, swp d1 (scanDown (fun x => !ltInt x d1[a]!) d1 (scanUp (fun x => ltInt x d1[a]!) d1 (b - 1) (a + 1)) (b - 1)) a)
      else ((partLoop ltInt a (scanUp (fun x => ltInt x d1[a]!) d1 (b - 1) (a + 1) + 1) (scanDown (fun x => !ltInt x d1[a]!) d1 (scanUp (fun x => ltInt x d1[a]!) d1 (b - 1) (a + 1)) (b - 1) - 1) (swp d1 (scanUp (fun x => ltInt x d1[a]!) d1 (b - 1) (a + 1)) (scanDown (fun x => !ltInt x d1[a]!) d1 (scanUp (fun x => ltInt x d1[a]!) d1 (b - 1) (a + 1)) (b - 1)))).1, false,
        swp (partLoop ltInt a (scanUp (fun x => ltInt x d1[a]!) d1 (b - 1) (a + 1) + 1) (scanDown (fun x => !ltInt x d1[a]!) d1 (scanUp (fun x => ltInt x d1[a]!) d1 (b - 1) (a + 1)) (b - 1) - 1) (swp d1 (scanUp (fun x => ltInt x d1[a]!) d1 (b - 1) (a + 1)) (scanDown (fun x => !ltInt x d1[a]!) d1 (scanUp (fun x => ltInt x d1[a]!) d1 (b - 1) (a + 1)) (b - 1)))).2
          (partLoop ltInt a (scanUp (fun x => ltInt x d1[a]!) d1 (b - 1) (a + 1) + 1) (scanDown (fun x => !ltInt x d1[a]!) d1 (scanUp (fun x => ltInt x d1[a]!) d1 (b - 1) (a + 1)) (b - 1) - 1) (swp d1 (scanUp (fun x => ltInt x d1[a]!) d1 (b - 1) (a + 1)) (scanDown (fun x => !ltInt x d1[a]!) d1 (scanUp (fun x => ltInt x d1[a]!) d1 (b - 1) (a + 1)) (b - 1)))).1 a)) := by
    rw [hd1]; rfl
  have sU := scanUp_spec (fun x => ltInt x d1[a]!) d1 (b - 1) _ (a + 1) rfl
  obtain ⟨i0, hi0⟩ : ∃ i0, i0 = scanUp (fun x => ltInt x d1[a]!) d1 (b - 1) (a + 1) := ⟨_, rfl⟩
  rw [← hi0] at hpart sU
  have sD := scanDown_spec (fun x => !ltInt x d1[a]!) d1 i0 (b - 1)
  obtain ⟨j0, hj0⟩ : ∃ j0, j0 = scanDown (fun x => !ltInt x d1[a]!) d1 i0 (b - 1) := ⟨_, rfl⟩
  rw [← hj0] at hpart sD
  have e1 : IntKind.i64.wrap ((a : Int) + 1) = ((a + 1 : Nat) : Int) := by rw [IntKind.wrap_i64]; omega
  have e2 : IntKind.i64.wrap ((b : Int) - 1) = ((b - 1 : Nat) : Int) := by rw [IntKind.wrap_i64]; omega
  rw [e1, e2]
  refine ⟨fun x w' => x = (i0 : Nat) ∧ Sr_I B p n c w' d1 ∧ Upd (Blk p) w w', ⟨fun x w' => ∃ i : Nat, x = i ∧ a + 1 ≤ i ∧ i ≤ b ∧ scanUp (fun x => ltInt x d1[a]!) d1 (b - 1) i = i0 ∧ Sr_I B p n c w' d1 ∧ Upd (Blk p) w w', fun x _ => b - x.toNat, ⟨a + 1, rfl, Nat.le_refl _, by omega, hi0.symm, h9, hu9⟩, ?_⟩, ?_⟩
  · rintro x w13 ⟨i, rfl, hi, hib, he, h13, hu13⟩ w14 hg14
    have h14 := h13.grew hg14
    refine ⟨fun hle => ?_, fun hgt => ?_⟩
    · simp only [decide_eq_true_eq] at hle
      have e3 : IntKind.i64.wrap ((i : Int) + 1) = ((i + 1 : Nat) : Int) := by rw [IntKind.wrap_i64]; omega
      rw [e3]
      refine Ar.rd h14 (i := i) rfl (by omega) fun q1 => Ar.rd h14 (i := a) rfl (by omega) fun q2 => less_I_use ⟨_, rfl, sameB_refl _ _, fun hl => ?_, fun hl => ?_⟩
      · exact ⟨⟨i + 1, rfl, by omega, by omega, by rw [← he, scanUp_go (p := fun x => ltInt x d1[a]!) (by omega) hl], h14, hu13.then_grew hg14⟩, by show b - (((i + 1 : Nat) : Int)).toNat < b - ((i : Int)).toNat; omega⟩
      · rw [scanUp_end (p := fun x => ltInt x d1[a]!) (fun _ => hl)] at he
        exact ⟨by rw [he], h14, hu13.then_grew hg14⟩
    · simp only [decide_eq_false_iff_not] at hgt
      rw [scanUp_end (fun hh => by omega)] at he
      exact ⟨by rw [he], h14, hu13.then_grew hg14⟩
  rintro x w24 ⟨rfl, h24, hu24⟩
  refine ⟨fun x w' => x = (j0 : Nat) ∧ Sr_I B p n c w' d1 ∧ Upd (Blk p) w w', ⟨fun x w' => ∃ j : Nat, x = j ∧ j < b ∧ scanDown (fun x => !ltInt x d1[a]!) d1 i0 j = j0 ∧ Sr_I B p n c w' d1 ∧ Upd (Blk p) w w', fun x _ => x.toNat, ⟨b - 1, rfl, by omega, hj0.symm, h24, hu24⟩, ?_⟩, ?_⟩
  · rintro x w28 ⟨j, rfl, hjb, he, h28, hu28⟩ w29 hg29
    have h29 := h28.grew hg29
    refine ⟨fun hle => ?_, fun hgt => ?_⟩
    · simp only [decide_eq_true_eq] at hle
      have e3 : IntKind.i64.wrap ((j : Int) - 1) = ((j - 1 : Nat) : Int) := by rw [IntKind.wrap_i64]; omega
      rw [e3]
      refine Ar.rd h29 (i := j) rfl (by omega) fun q1 => Ar.rd h29 (i := a) rfl (by omega) fun q2 => less_I_use ⟨_, rfl, sameB_refl _ _, fun hl => ?_, fun hl => ?_⟩
      · exact ⟨⟨j - 1, rfl, by omega, by rw [← he, scanDown_go (p := fun x => !ltInt x d1[a]!) (by omega) (by omega) hl], h29, hu28.then_grew hg29⟩, by show (((j - 1 : Nat) : Int)).toNat < ((j : Int)).toNat; omega⟩
      · rw [scanDown_end (p := fun x => !ltInt x d1[a]!) (fun _ => hl)] at he
        exact ⟨by rw [he], h29, hu28.then_grew hg29⟩
    · simp only [decide_eq_false_iff_not] at hgt
      rw [scanDown_end (fun hh => by omega)] at he
      exact ⟨by rw [he], h29, hu28.then_grew hg29⟩
  rintro x w39 ⟨rfl, h39, hu39⟩
  refine ⟨fun hgt w40 hg40 => ?_, fun hle w49 hg49 => ?_⟩
  · simp only [decide_eq_true_eq] at hgt
    rw [if_pos (by omega)] at hpart
    have h40 := h39.grew hg40
    refine Ar.rd h40 (i := a) rfl (by omega) fun q3 => Ar.rd h40 (i := j0) rfl (by omega) fun q4 => Ar.st h40 (i := j0) rfl (by omega) fun q5 w46 h46 hu46 => Ar.st h46 (i := a) rfl (by simp; omega) fun q6 w48 h48 hu48 => ?_
    rw [hpart]
    exact ⟨_, rfl, rfl, h48, ((hu39.then_grew hg40).trans hu46).trans hu48⟩
  simp only [decide_eq_false_iff_not] at hle
  rw [if_neg (by omega)] at hpart
  obtain ⟨r, hr⟩ : ∃ r, r = partLoop ltInt a (i0 + 1) (j0 - 1) (swp d1 i0 j0) := ⟨_, rfl⟩
  rw [← hr] at hpart
  rw [hpart]
  have h49 := h39.grew hg49
  have hi0j : i0 ≤ j0 := by omega
  refine Ar.rd h49 (i := j0) rfl (by omega) fun q3 => Ar.rd h49 (i := i0) rfl (by omega) fun q4 => Ar.st h49 (i := i0) rfl (by omega) fun q5 w55 h55 hu55 => Ar.st h55 (i := j0) rfl (by simp; omega) fun q6 w57 h57 hu57 => ?_
  have hu57 := ((hu39.then_grew hg49).trans hu55).trans hu57
  have e3 : IntKind.i64.wrap ((i0 : Int) + 1) = ((i0 + 1 : Nat) : Int) := by rw [IntKind.wrap_i64]; omega
  have e4 : IntKind.i64.wrap ((j0 : Int) - 1) = ((j0 - 1 : Nat) : Int) := by rw [IntKind.wrap_i64]; omega
  rw [e3, e4]
  refine ⟨fun x y w' => ∃ (i j : Nat) (d' : Array Int), x = i ∧ y = j ∧ a + 1 ≤ i ∧ i ≤ b + 1 ∧ j < b ∧ d'.size = d.size ∧ Sr_I B p n c w' d' ∧ partLoop ltInt a i j d' = r ∧ Upd (Blk p) w w', fun x y _ => (b + 1 - x.toNat) + y.toNat, ⟨i0 + 1, j0 - 1, _, rfl, rfl, by omega, by omega, by omega, by rw [← hs1]; exact swp_size' d1 i0 j0, h57, hr.symm, hu57⟩, ?_⟩
  rintro x y w61 ⟨i, j, d2, rfl, rfl, hi, hib, hjb, hs2, h61, he, hu61⟩
  rw [partLoop_eq] at he
  have sU2 := scanUp_spec (fun x => ltInt x d2[a]!) d2 j _ i rfl
  obtain ⟨i2, hi2⟩ : ∃ i2, i2 = scanUp (fun x => ltInt x d2[a]!) d2 j i := ⟨_, rfl⟩
  rw [← hi2] at he sU2
  have sD2 := scanDown_spec (fun x => !ltInt x d2[a]!) d2 i2 j
  obtain ⟨j2, hj2⟩ : ∃ j2, j2 = scanDown (fun x => !ltInt x d2[a]!) d2 i2 j := ⟨_, rfl⟩
  rw [← hj2] at he sD2
  refine ⟨fun x w' => x = (i2 : Nat) ∧ Sr_I B p n c w' d2 ∧ Upd (Blk p) w w', ⟨fun x w' => ∃ k : Nat, x = k ∧ i ≤ k ∧ (k ≤ i ∨ k ≤ j + 1) ∧ scanUp (fun x => ltInt x d2[a]!) d2 j k = i2 ∧ Sr_I B p n c w' d2 ∧ Upd (Blk p) w w', fun x _ => j + 1 - x.toNat, ⟨i, rfl, Nat.le_refl _, .inl (Nat.le_refl _), hi2.symm, h61, hu61⟩, ?_⟩, ?_⟩
  · rintro x w65 ⟨k, rfl, hk, hkj, hek, h65, hu65⟩ w66 hg66
    have h66 := h65.grew hg66
    refine ⟨fun hle => ?_, fun hgt => ?_⟩
    · simp only [decide_eq_true_eq] at hle
      have e5 : IntKind.i64.wrap ((k : Int) + 1) = ((k + 1 : Nat) : Int) := by rw [IntKind.wrap_i64]; omega
      rw [e5]
      refine Ar.rd h66 (i := k) rfl (by omega) fun q1 => Ar.rd h66 (i := a) rfl (by omega) fun q2 => less_I_use ⟨_, rfl, sameB_refl _ _, fun hl => ?_, fun hl => ?_⟩
      · exact ⟨⟨k + 1, rfl, by omega, by omega, by rw [← hek, scanUp_go (p := fun x => ltInt x d2[a]!) (by omega) hl], h66, hu65.then_grew hg66⟩, by show j + 1 - (((k + 1 : Nat) : Int)).toNat < j + 1 - ((k : Int)).toNat; omega⟩
      · rw [scanUp_end (p := fun x => ltInt x d2[a]!) (fun _ => hl)] at hek
        exact ⟨by rw [hek], h66, hu65.then_grew hg66⟩
    · simp only [decide_eq_false_iff_not] at hgt
      rw [scanUp_end (fun hh => by omega)] at hek
      exact ⟨by rw [hek], h66, hu65.then_grew hg66⟩
  rintro x w76 ⟨rfl, h76, hu76⟩
  have hend : ∀ w', Sr_I B p n c w' d2 → Upd (Blk p) w w' → (((decide ((i2 : Int) > (j2 : Int))) = true → r = (j2, d2)) ∧ ((decide ((i2 : Int) > (j2 : Int))) = false → i2 ≤ j2 ∧ partLoop ltInt a (i2 + 1) (j2 - 1) (swp d2 i2 j2) = r)) := by
    intro w' _ _
    refine ⟨fun hh => ?_, fun hh => ?_⟩
    · simp only [decide_eq_true_eq] at hh
      rw [if_pos (by omega)] at he; exact he.symm
    · simp only [decide_eq_false_iff_not] at hh
      rw [if_neg (by omega)] at he; exact ⟨by omega, he⟩
  have hi2b : i ≤ i2 := sU2.1
  refine ⟨fun x w' => ∃ k : Nat, x = k ∧ k ≤ j ∧ scanDown (fun x => !ltInt x d2[a]!) d2 i2 k = j2 ∧ Sr_I B p n c w' d2 ∧ Upd (Blk p) w w', fun x _ => x.toNat, ⟨j, rfl, Nat.le_refl _, hj2.symm, h76, hu76⟩, ?_⟩
  rintro x w79 ⟨k, rfl, hkj, hek, h79, hu79⟩ w80 hg80
  have h80 := h79.grew hg80
  have hu80 := hu79.then_grew hg80
  refine ⟨fun hle => ?_, fun hgt => ?_⟩
  · simp only [decide_eq_true_eq] at hle
    have e5 : IntKind.i64.wrap ((k : Int) - 1) = ((k - 1 : Nat) : Int) := by rw [IntKind.wrap_i64]; omega
    rw [e5]
    refine Ar.rd h80 (i := k) rfl (by omega) fun q1 => Ar.rd h80 (i := a) rfl (by omega) fun q2 => less_I_use ⟨_, rfl, sameB_refl _ _, fun hl => ?_, fun hl => ?_⟩
    · exact ⟨⟨k - 1, rfl, by omega, by rw [← hek, scanDown_go (p := fun x => !ltInt x d2[a]!) (by omega) (by omega) hl], h80, hu80⟩, by show (((k - 1 : Nat) : Int)).toNat < ((k : Int)).toNat; omega⟩
    · rw [scanDown_end (p := fun x => !ltInt x d2[a]!) (fun _ => hl)] at hek
      subst hek
      refine ⟨fun hh => (by simp only [decide_eq_true_eq] at hh; omega), fun hh w98 hg98 => ?_⟩
      obtain ⟨hij, hpl⟩ := (hend w80 h80 hu80).2 hh
      have h98 := h80.grew hg98
      refine Ar.rd h98 (i := k) rfl (by omega) fun q3 => Ar.rd h98 (i := i2) rfl (by omega) fun q4 => Ar.st h98 (i := i2) rfl (by omega) fun q5 w104 h104 hu104 => Ar.st h104 (i := k) rfl (by simp; omega) fun q6 w106 h106 hu106 => ?_
      have e6 : IntKind.i64.wrap ((i2 : Int) + 1) = ((i2 + 1 : Nat) : Int) := by rw [IntKind.wrap_i64]; omega
      rw [e6]
      exact ⟨⟨i2 + 1, k - 1, _, rfl, rfl, by omega, by omega, by omega, by rw [← hs2]; exact swp_size' d2 i2 k, h106, hpl, ((hu80.then_grew hg98).trans hu104).trans hu106⟩, by show (b + 1 - (((i2 + 1 : Nat) : Int)).toNat) + (((k - 1 : Nat) : Int)).toNat < (b + 1 - ((i : Int)).toNat) + ((j : Int)).toNat; omega⟩
  · simp only [decide_eq_false_iff_not] at hgt
    rw [scanDown_end (fun hh => by omega)] at hek
    subst hek
    refine ⟨fun hh w107 hg107 => ?_, fun hh => (by simp only [decide_eq_false_iff_not] at hh; omega)⟩
    have hrr := (hend w80 h80 hu80).1 hh
    have h107 := h80.grew hg107
    refine Ar.rd h107 (i := a) rfl (by omega) fun q3 => Ar.rd h107 (i := k) rfl (by omega) fun q4 => Ar.st h107 (i := k) rfl (by omega) fun q5 w113 h113 hu113 => Ar.st h113 (i := a) rfl (by simp; omega) fun q6 w115 h115 hu115 => ?_
    rw [hrr]
    exact ⟨_, rfl, rfl, h115, ((hu80.then_grew hg107).trans hu113).trans hu115⟩

set_option maxHeartbeats 1000000 in
theorem parteq_I_ok {B : Nat} {p : Option Addr} {n c a b pv : Nat} {d : Array Int} {w : World} (h : Sr_I B p n c w d) (hap : a ≤ pv) (hpb : pv < b) (hb : b ≤ d.size) (hsz : d.size < 4611686018427387904) :
    CallsW Tryz.prog 162 [.slice p n c, .int .i64 a, .int .i64 b, .int .i64 pv] w (Rets (Srt_I B p n c w (.int .i64 (partitionEqual ltInt d a b pv).1) (partitionEqual ltInt d a b pv).2)) := by
  refine sx162.ok ?_
  unfold sx162
  intro w1 hg1
  have h1 := h.grew hg1
  refine Ar.rd h1 (i := pv) rfl (by omega) fun q3 => Ar.rd h1 (i := a) rfl (by omega) fun q4 => Ar.st h1 (i := a) rfl (by omega) fun q5 w7 h7 hu7 => Ar.st h7 (i := pv) rfl (by simp; omega) fun q6 w9 h9 hu9 => ?_
  obtain ⟨d1, hd1⟩ : ∃ d1, d1 = swp d a pv := ⟨_, rfl⟩
  have h9 : Sr_I B p n c w9 d1 := by rw [hd1]; exact h9
  have hu9 : Upd (Blk p) w w9 := ((hg1.upd (S := Blk p)).trans hu7).trans hu9
  have hs1 : d1.size = d.size := by rw [hd1]; exact swp_size' d a pv
  obtain ⟨r, hr⟩ : ∃ r, r = partEqLoop ltInt a (a + 1) (b - 1) d1 := ⟨_, rfl⟩
  have hpart : partitionEqual ltInt d a b pv = r := by rw [hr, hd1]; rfl
  rw [hpart]
  have e1 : IntKind.i64.wrap ((a : Int) + 1) = ((a + 1 : Nat) : Int) := by rw [IntKind.wrap_i64]; omega
  have e2 : IntKind.i64.wrap ((b : Int) - 1) = ((b - 1 : Nat) : Int) := by rw [IntKind.wrap_i64]; omega
  rw [e1, e2]
  refine ⟨fun x y w' => ∃ (i j : Nat) (d' : Array Int), x = i ∧ y = j ∧ a + 1 ≤ i ∧ i ≤ b + 1 ∧ j < b ∧ d'.size = d.size ∧ Sr_I B p n c w' d' ∧ partEqLoop ltInt a i j d' = r ∧ Upd (Blk p) w w', fun x y _ => (b + 1 - x.toNat) + y.toNat, ⟨a + 1, b - 1, _, rfl, rfl, by omega, by omega, by omega, hs1, h9, hr.symm, hu9⟩, ?_⟩
  rintro x y w61 ⟨i, j, d2, rfl, rfl, hi, hib, hjb, hs2, h61, he, hu61⟩
  rw [partEqLoop_eq] at he
  have sU2 := scanUp_spec (fun x => !ltInt d2[a]! x) d2 j _ i rfl
  obtain ⟨i2, hi2⟩ : ∃ i2, i2 = scanUp (fun x => !ltInt d2[a]! x) d2 j i := ⟨_, rfl⟩
  rw [← hi2] at he sU2
  have sD2 := scanDown_spec (fun x => ltInt d2[a]! x) d2 i2 j
  obtain ⟨j2, hj2⟩ : ∃ j2, j2 = scanDown (fun x => ltInt d2[a]! x) d2 i2 j := ⟨_, rfl⟩
  rw [← hj2] at he sD2
  refine ⟨fun x w' => x = (i2 : Nat) ∧ Sr_I B p n c w' d2 ∧ Upd (Blk p) w w', ⟨fun x w' => ∃ k : Nat, x = k ∧ i ≤ k ∧ (k ≤ i ∨ k ≤ j + 1) ∧ scanUp (fun x => !ltInt d2[a]! x) d2 j k = i2 ∧ Sr_I B p n c w' d2 ∧ Upd (Blk p) w w', fun x _ => j + 1 - x.toNat, ⟨i, rfl, Nat.le_refl _, .inl (Nat.le_refl _), hi2.symm, h61, hu61⟩, ?_⟩, ?_⟩
  · rintro x w65 ⟨k, rfl, hk, hkj, hek, h65, hu65⟩ w66 hg66
    have h66 := h65.grew hg66
    refine ⟨fun hle => ?_, fun hgt => ?_⟩
    · simp only [decide_eq_true_eq] at hle
      have e5 : IntKind.i64.wrap ((k : Int) + 1) = ((k + 1 : Nat) : Int) := by rw [IntKind.wrap_i64]; omega
      rw [e5]
      refine Ar.rd h66 (i := a) rfl (by omega) fun q1 => Ar.rd h66 (i := k) rfl (by omega) fun q2 => less_I_use ⟨_, rfl, sameB_refl _ _, fun hl => ?_, fun hl => ?_⟩
      · exact ⟨⟨k + 1, rfl, by omega, by omega, by rw [← hek, scanUp_go (p := fun x => !ltInt d2[a]! x) (by omega) hl], h66, hu65.then_grew hg66⟩, by show j + 1 - (((k + 1 : Nat) : Int)).toNat < j + 1 - ((k : Int)).toNat; omega⟩
      · rw [scanUp_end (p := fun x => !ltInt d2[a]! x) (fun _ => hl)] at hek
        exact ⟨by rw [hek], h66, hu65.then_grew hg66⟩
    · simp only [decide_eq_false_iff_not] at hgt
      rw [scanUp_end (fun hh => by omega)] at hek
      exact ⟨by rw [hek], h66, hu65.then_grew hg66⟩
  rintro x w76 ⟨rfl, h76, hu76⟩
  have hend : (((decide ((i2 : Int) > (j2 : Int))) = true → r = (i2, d2)) ∧ ((decide ((i2 : Int) > (j2 : Int))) = false → i2 ≤ j2 ∧ partEqLoop ltInt a (i2 + 1) (j2 - 1) (swp d2 i2 j2) = r)) := by
    refine ⟨fun hh => ?_, fun hh => ?_⟩
    · simp only [decide_eq_true_eq] at hh
      rw [if_pos (by omega)] at he; exact he.symm
    · simp only [decide_eq_false_iff_not] at hh
      rw [if_neg (by omega)] at he; exact ⟨by omega, he⟩
  have hi2b : i ≤ i2 := sU2.1
  refine ⟨fun x w' => ∃ k : Nat, x = k ∧ k ≤ j ∧ scanDown (fun x => ltInt d2[a]! x) d2 i2 k = j2 ∧ Sr_I B p n c w' d2 ∧ Upd (Blk p) w w', fun x _ => x.toNat, ⟨j, rfl, Nat.le_refl _, hj2.symm, h76, hu76⟩, ?_⟩
  rintro x w79 ⟨k, rfl, hkj, hek, h79, hu79⟩ w80 hg80
  have h80 := h79.grew hg80
  have hu80 := hu79.then_grew hg80
  refine ⟨fun hle => ?_, fun hgt => ?_⟩
  · simp only [decide_eq_true_eq] at hle
    have e5 : IntKind.i64.wrap ((k : Int) - 1) = ((k - 1 : Nat) : Int) := by rw [IntKind.wrap_i64]; omega
    rw [e5]
    refine Ar.rd h80 (i := a) rfl (by omega) fun q1 => Ar.rd h80 (i := k) rfl (by omega) fun q2 => less_I_use ⟨_, rfl, sameB_refl _ _, fun hl => ?_, fun hl => ?_⟩
    · exact ⟨⟨k - 1, rfl, by omega, by rw [← hek, scanDown_go (p := fun x => ltInt d2[a]! x) (by omega) (by omega) hl], h80, hu80⟩, by show (((k - 1 : Nat) : Int)).toNat < ((k : Int)).toNat; omega⟩
    · rw [scanDown_end (p := fun x => ltInt d2[a]! x) (fun _ => hl)] at hek
      subst hek
      refine ⟨fun hh => (by simp only [decide_eq_true_eq] at hh; omega), fun hh w98 hg98 => ?_⟩
      obtain ⟨hij, hpl⟩ := hend.2 hh
      have h98 := h80.grew hg98
      refine Ar.rd h98 (i := k) rfl (by omega) fun q3 => Ar.rd h98 (i := i2) rfl (by omega) fun q4 => Ar.st h98 (i := i2) rfl (by omega) fun q5 w104 h104 hu104 => Ar.st h104 (i := k) rfl (by simp; omega) fun q6 w106 h106 hu106 => ?_
      have e6 : IntKind.i64.wrap ((i2 : Int) + 1) = ((i2 + 1 : Nat) : Int) := by rw [IntKind.wrap_i64]; omega
      rw [e6]
      exact ⟨⟨i2 + 1, k - 1, _, rfl, rfl, by omega, by omega, by omega, by rw [← hs2]; exact swp_size' d2 i2 k, h106, hpl, ((hu80.then_grew hg98).trans hu104).trans hu106⟩, by show (b + 1 - (((i2 + 1 : Nat) : Int)).toNat) + (((k - 1 : Nat) : Int)).toNat < (b + 1 - ((i : Int)).toNat) + ((j : Int)).toNat; omega⟩
  · simp only [decide_eq_false_iff_not] at hgt
    rw [scanDown_end (fun hh => by omega)] at hek
    subst hek
    refine ⟨fun hh => ?_, fun hh => (by simp only [decide_eq_false_iff_not] at hh; omega)⟩
    have hrr := hend.1 hh
    rw [hrr]
    exact ⟨_, rfl, rfl, h80, hu80⟩
end Go.Proofs.YtcpkneemhfnanaaGreat
/- What the sort's parts hand back: the partial insertion, the pivot, the patterns. Conditions: none. -/
namespace Go.Proofs.YtcpkneemhfnanaaGreat
open Go.Sx
set_option maxRecDepth 100000
set_option linter.unusedVariables false
set_option linter.unusedSimpArgs false
/- slices.partialInsertionSortOrdered[int] -/
def sx160 (d : Option Addr) (d_n d_c : Nat) (i : Int) (p2 : Int) (R : Ending → World → Prop) (w : World) : Prop :=
  ∃ (I1 : Int → Int → World → Prop) (m1 : Int → Int → World → Nat), I1 (IntKind.i64.wrap (i + 1)) 0 w ∧ ∀ (n2 : Int) (n3 : Int) (w4 : World), I1 n2 n3 w4 → (((decide (n3 < 5)) = true → ∃ (J5 : Int → World → Prop), (∃ (I6 :
    Int → World → Prop) (m6 : Int → World → Nat), I6 n2 w4 ∧ ∀ (n7 : Int) (w8 : World), I6 n7 w8 → ∀ w9, Grew w8 w9 → (((decide (n7 < p2)) = true → withSome d (fun d10 => (0 ≤ n7 ∧ n7 < (d_n : Nat)) ∧ ∃ (n11 : Int),
    w9.cell? (Addr.add d10 (n7.toNat * 1)) = some (.int .i64 n11) ∧ withSome d (fun d12 => (0 ≤ (IntKind.i64.wrap (n7 - 1)) ∧ (IntKind.i64.wrap (n7 - 1)) < (d_n : Nat)) ∧ ∃ (n13 : Int), w9.cell? (Addr.add d12
    ((IntKind.i64.wrap (n7 - 1)).toNat * 1)) = some (.int .i64 n13) ∧ CallsW Tryz.prog 161 [.int .i64 n11, .int .i64 n13] w9 (RetR R fun u15 w14 => ∃ (b16 : Bool), u15 = .bool b16 ∧ SameB w9 w14 [(Addr.add d12
    ((IntKind.i64.wrap (n7 - 1)).toNat * 1)), (Addr.add d10 (n7.toNat * 1))] ∧ (((!b16) = true → (I6 (IntKind.i64.wrap (n7 + 1)) w14 ∧ m6 (IntKind.i64.wrap (n7 + 1)) w14 < m6 n7 w8)) ∧ ((!b16) = false → J5 n7 w14)))))) ∧
    ((decide (n7 < p2)) = false → J5 n7 w9))) ∧ ∀ (n18 : Int) (w19 : World), J5 n18 w19 → (((n18 == p2) = true → R (.returned (.bool true)) w19) ∧ ((n18 == p2) = false → (((decide ((IntKind.i64.wrap (p2 - i)) < 50)) =
    true → R (.returned (.bool false)) w19) ∧ ((decide ((IntKind.i64.wrap (p2 - i)) < 50)) = false → ∀ w20, Grew w19 w20 → withSome d (fun d21 => (0 ≤ (IntKind.i64.wrap (n18 - 1)) ∧ (IntKind.i64.wrap (n18 - 1)) < (d_n :
    Nat)) ∧ ∃ (n22 : Int), w20.cell? (Addr.add d21 ((IntKind.i64.wrap (n18 - 1)).toNat * 1)) = some (.int .i64 n22) ∧ withSome d (fun d23 => (0 ≤ n18 ∧ n18 < (d_n : Nat)) ∧ ∃ (n24 : Int), w20.cell? (Addr.add d23
    (n18.toNat * 1)) = some (.int .i64 n24) ∧ withSome d (fun d25 => (0 ≤ n18 ∧ n18 < (d_n : Nat)) ∧ RoomAt w20 (Addr.add d25 (n18.toNat * 1)) 0 [.int .i64 n22] ∧ ∀ w26, w26 = setCells w20 (Addr.add d25 (n18.toNat * 1)) 0
    [.int .i64 n22] → withSome d (fun d27 => (0 ≤ (IntKind.i64.wrap (n18 - 1)) ∧ (IntKind.i64.wrap (n18 - 1)) < (d_n : Nat)) ∧ RoomAt w26 (Addr.add d27 ((IntKind.i64.wrap (n18 - 1)).toNat * 1)) 0 [.int .i64 n24] ∧ ∀ w28,
    w28 = setCells w26 (Addr.add d27 ((IntKind.i64.wrap (n18 - 1)).toNat * 1)) 0 [.int .i64 n24] → ∃ (J29 : World → Prop), ((((decide ((IntKind.i64.wrap (n18 - i)) ≥ 2)) = true → ∃ (I30 : Int → World → Prop) (m30 : Int →
    World → Nat), I30 (IntKind.i64.wrap (n18 - 1)) w28 ∧ ∀ (n31 : Int) (w32 : World), I30 n31 w32 → (((decide (n31 ≥ 1)) = true → ∀ w33, Grew w32 w33 → withSome d (fun d34 => (0 ≤ n31 ∧ n31 < (d_n : Nat)) ∧ ∃ (n35 : Int),
    w33.cell? (Addr.add d34 (n31.toNat * 1)) = some (.int .i64 n35) ∧ withSome d (fun d36 => (0 ≤ (IntKind.i64.wrap (n31 - 1)) ∧ (IntKind.i64.wrap (n31 - 1)) < (d_n : Nat)) ∧ ∃ (n37 : Int), w33.cell? (Addr.add d36
    ((IntKind.i64.wrap (n31 - 1)).toNat * 1)) = some (.int .i64 n37) ∧ CallsW Tryz.prog 161 [.int .i64 n35, .int .i64 n37] w33 (RetR R fun u39 w38 => ∃ (b40 : Bool), u39 = .bool b40 ∧ (((!b40) = true → J29 w38) ∧ ((!b40) =
    false → ∀ w42, Grew w38 w42 → withSome d (fun d43 => (0 ≤ (IntKind.i64.wrap (n31 - 1)) ∧ (IntKind.i64.wrap (n31 - 1)) < (d_n : Nat)) ∧ ∃ (n44 : Int), w42.cell? (Addr.add d43 ((IntKind.i64.wrap (n31 - 1)).toNat * 1)) =
    some (.int .i64 n44) ∧ withSome d (fun d45 => (0 ≤ n31 ∧ n31 < (d_n : Nat)) ∧ ∃ (n46 : Int), w42.cell? (Addr.add d45 (n31.toNat * 1)) = some (.int .i64 n46) ∧ withSome d (fun d47 => (0 ≤ n31 ∧ n31 < (d_n : Nat)) ∧
    RoomAt w42 (Addr.add d47 (n31.toNat * 1)) 0 [.int .i64 n44] ∧ ∀ w48, w48 = setCells w42 (Addr.add d47 (n31.toNat * 1)) 0 [.int .i64 n44] → withSome d (fun d49 => (0 ≤ (IntKind.i64.wrap (n31 - 1)) ∧ (IntKind.i64.wrap
    (n31 - 1)) < (d_n : Nat)) ∧ RoomAt w48 (Addr.add d49 ((IntKind.i64.wrap (n31 - 1)).toNat * 1)) 0 [.int .i64 n46] ∧ ∀ w50, w50 = setCells w48 (Addr.add d49 ((IntKind.i64.wrap (n31 - 1)).toNat * 1)) 0 [.int .i64 n46] →
    (I30 (IntKind.i64.wrap (n31 - 1)) w50 ∧ m30 (IntKind.i64.wrap (n31 - 1)) w50 < m30 n31 w32))))))))))) ∧ ((decide (n31 ≥ 1)) = false → J29 w32))) ∧ ((decide ((IntKind.i64.wrap (n18 - i)) ≥ 2)) = false → J29 w28))) ∧ ∀ 
    (w51 : World), J29 w51 → ∀ n52 : Int, n52 = IntKind.i64.wrap (p2 - n18) → (((decide (n52 ≥ 2)) = true → ∃ (I53 : Int → World → Prop) (m53 : Int → World → Nat), I53 (IntKind.i64.wrap (n18 + 1)) w51 ∧ ∀ (n54 : Int) (w55
    : World), I53 n54 w55 → (((decide (n54 < p2)) = true → ∀ w56, Grew w55 w56 → withSome d (fun d57 => (0 ≤ n54 ∧ n54 < (d_n : Nat)) ∧ ∃ (n58 : Int), w56.cell? (Addr.add d57 (n54.toNat * 1)) = some (.int .i64 n58) ∧
    withSome d (fun d59 => (0 ≤ (IntKind.i64.wrap (n54 - 1)) ∧ (IntKind.i64.wrap (n54 - 1)) < (d_n : Nat)) ∧ ∃ (n60 : Int), w56.cell? (Addr.add d59 ((IntKind.i64.wrap (n54 - 1)).toNat * 1)) = some (.int .i64 n60) ∧ CallsW
    Tryz.prog 161 [.int .i64 n58, .int .i64 n60] w56 (RetR R fun u62 w61 => ∃ (b63 : Bool), u62 = .bool b63 ∧ (((!b63) = true → (I1 n18 (IntKind.i64.wrap (n3 + 1)) w61 ∧ m1 n18 (IntKind.i64.wrap (n3 + 1)) w61 < m1 n2 n3
    w4)) ∧ ((!b63) = false → ∀ w65, Grew w61 w65 → withSome d (fun d66 => (0 ≤ (IntKind.i64.wrap (n54 - 1)) ∧ (IntKind.i64.wrap (n54 - 1)) < (d_n : Nat)) ∧ ∃ (n67 : Int), w65.cell? (Addr.add d66 ((IntKind.i64.wrap (n54 -
    1)).toNat * 1)) = some (.int .i64 n67) ∧ withSome d (fun d68 => (0 ≤ n54 ∧ n54 < (d_n : Nat)) ∧ ∃ (n69 : Int), w65.cell? (Addr.add d68 (n54.toNat * 1)) = some (.int .i64 n69) ∧ withSome d (fun d70 => (0 ≤ n54 ∧ n54 <
    (d_n : Nat)) ∧ RoomAt w65 (Addr.add d70 (n54.toNat * 1)) 0 [.int .i64 n67] ∧ ∀ w71, w71 = setCells w65 (Addr.add d70 (n54.toNat * 1)) 0 [.int .i64 n67] → withSome d (fun d72 => (0 ≤ (IntKind.i64.wrap (n54 - 1)) ∧
    (IntKind.i64.wrap (n54 - 1)) < (d_n : Nat)) ∧ RoomAt w71 (Addr.add d72 ((IntKind.i64.wrap (n54 - 1)).toNat * 1)) 0 [.int .i64 n69] ∧ ∀ w73, w73 = setCells w71 (Addr.add d72 ((IntKind.i64.wrap (n54 - 1)).toNat * 1)) 0
    [.int .i64 n69] → (I53 (IntKind.i64.wrap (n54 + 1)) w73 ∧ m53 (IntKind.i64.wrap (n54 + 1)) w73 < m53 n54 w55))))))))))) ∧ ((decide (n54 < p2)) = false → (I1 n18 (IntKind.i64.wrap (n3 + 1)) w55 ∧ m1 n18
    (IntKind.i64.wrap (n3 + 1)) w55 < m1 n2 n3 w4)))) ∧ ((decide (n52 ≥ 2)) = false → (I1 n18 (IntKind.i64.wrap (n3 + 1)) w51 ∧ m1 n18 (IntKind.i64.wrap (n3 + 1)) w51 < m1 n2 n3 w4)))))))))))) ∧ ((decide (n3 < 5)) = false
    → R (.returned (.bool false)) w4))
theorem sx160.ok {d : Option Addr} {d_n d_c : Nat} {i : Int} {p2 : Int} {R : Ending → World → Prop} {w : World} (h : sx160 d d_n d_c i p2 R w) : CallsW Tryz.prog 160 [.slice d d_n d_c, .int .i64 i, .int .i64 p2] w R :=
  callsW_of mix Tryz.func160 (by kernel_rfl) (by kernel_rfl) (Eq.mpr (by kernel_rfl : denFn Tryz.prog { named := [97], draws := [(5, { order := (.cons 0 (.cons 1 (.cons 2 (.cons 3 (.cons 4 (.cons 5 (.cons 6 (.cons 7 (.cons 8 (.cons 9 (.cons 10 (.cons 11 (.cons 12 (.cons 13 (.cons 14 (.cons 15 .nil)))))))))))))))), bars := [] }), (11, { order := (.cons 0 (.cons 1 (.cons 2 (.cons 3 (.cons 4 (.cons 5 (.cons 6 (.cons 7 (.cons 8 (.cons 9 (.cons 10 (.cons 11 (.cons 12 (.cons 13 (.cons 14 (.cons 15 (.cons 16 (.cons 17 .nil)))))))))))))))))), bars := [15, 17] }), (16, { order := (.cons 0 (.cons 1 (.cons 2 (.cons 3 (.cons 4 (.cons 5 (.cons 6 (.cons 7 (.cons 8 (.cons 9 (.cons 10 .nil))))))))))), bars := [9] }), (17, { order := (.cons 0 (.cons 1 (.cons 2 (.cons 3 (.cons 4 (.cons 5 (.cons 6 (.cons 7 (.cons 8 (.cons 9 (.cons 10 (.cons 11 (.cons 12 (.cons 13 (.cons 14 (.cons 15 (.cons 16 (.cons 17 .nil)))))))))))))))))), bars := [15, 17] }), (22, { order := (.cons 0 (.cons 1 (.cons 2 (.cons 3 (.cons 4 (.cons 5 (.cons 6 (.cons 7 (.cons 8 (.cons 9 (.cons 10 .nil))))))))))), bars := [9] }), (23, { order := (.cons 0 (.cons 1 (.cons 2 (.cons 3 (.cons 4 (.cons 5 (.cons 6 (.cons 7 (.cons 8 (.cons 9 (.cons 10 (.cons 11 (.cons 12 (.cons 13 (.cons 14 (.cons 15 (.cons 16 (.cons 17 .nil)))))))))))))))))), bars := [15, 17] })], loops := [(5, { slots := [(7, .int .i64)], cells := [] }), (14, { slots := [(9, .int .i64)], cells := [] }), (20, { slots := [(10, .int .i64)], cells := [] }), (3003, { slots := [(7, .int .i64), (8, .int .i64)], cells := [] })], cuts := [(7, { slots := [(7, .int .i64)], cells := [] }), (18, { slots := [], cells := [] })] } Tryz.f160 [.slice d d_n d_c, .int .i64 i, .int .i64 p2] R w = sx160 d d_n d_c i p2 R w) h)

/- slices.order2Ordered[int] -/
def sx200 (data : Option Addr) (data_n data_c : Nat) (a : Int) (b : Int) (swaps : Nat) (R : Ending → World → Prop) (w : World) : Prop :=
  ∀ w1, Grew w w1 → withSome data (fun d2 => (0 ≤ b ∧ b < (data_n : Nat)) ∧ ∃ (n3 : Int), w1.cell? (Addr.add d2 (b.toNat * 1)) = some (.int .i64 n3) ∧ withSome data (fun d4 => (0 ≤ a ∧ a < (data_n : Nat)) ∧ ∃ (n5 : Int),
    w1.cell? (Addr.add d4 (a.toNat * 1)) = some (.int .i64 n5) ∧ CallsW Tryz.prog 161 [.int .i64 n3, .int .i64 n5] w1 (RetR R fun u7 w6 => ∃ (b8 : Bool), u7 = .bool b8 ∧ ((b8 = true → ∃ (n10 : Int), w6.cell? ⟨swaps, 0,
    none⟩ = some (.int .i64 n10) ∧ RoomAt w6 ⟨swaps, 0, none⟩ 0 [.int .i64 (IntKind.i64.wrap (n10 + 1))] ∧ ∀ w11, w11 = setCells w6 ⟨swaps, 0, none⟩ 0 [.int .i64 (IntKind.i64.wrap (n10 + 1))] → R (.returned (.tuple #[.int
    .i64 b, .int .i64 a])) w11) ∧ (b8 = false → R (.returned (.tuple #[.int .i64 a, .int .i64 b])) w6)))))
theorem sx200.ok {data : Option Addr} {data_n data_c : Nat} {a : Int} {b : Int} {swaps : Nat} {R : Ending → World → Prop} {w : World} (h : sx200 data data_n data_c a b swaps R w) : CallsW Tryz.prog 200 [.slice data data_n data_c, .int .i64 a, .int .i64 b, .pointer (some ⟨swaps, 0, none⟩)] w R :=
  callsW_of mix Tryz.func200 (by kernel_rfl) (by kernel_rfl) (Eq.mpr (by kernel_rfl : denFn Tryz.prog { draws := [(1, { order := (.cons 0 (.cons 1 (.cons 2 (.cons 3 (.cons 4 (.cons 5 (.cons 6 (.cons 7 (.cons 8 .nil))))))))), bars := [8] })] } Tryz.f200 [.slice data data_n data_c, .int .i64 a, .int .i64 b, .pointer (some ⟨swaps, 0, none⟩)] R w = sx200 data data_n data_c a b swaps R w) h)

/- slices.medianOrdered[int] -/
def sx181 (data : Option Addr) (data_n data_c : Nat) (a : Int) (b : Int) (c : Int) (swaps : Nat) (R : Ending → World → Prop) (w : World) : Prop :=
  CallsW Tryz.prog 200 [.slice data data_n data_c, .int .i64 a, .int .i64 b, .pointer (some ⟨swaps, 0, none⟩)] w (RetR R fun u2 w1 => ∃ (n3 : Int) (n4 : Int), u2 = .tuple #[.int .i64 n3, .int .i64 n4] ∧ CallsW Tryz.prog 200
    [.slice data data_n data_c, .int .i64 n4, .int .i64 c, .pointer (some ⟨swaps, 0, none⟩)] w1 (RetR R fun u7 w6 => ∃ (n8 : Int) (n9 : Int), u7 = .tuple #[.int .i64 n8, .int .i64 n9] ∧ CallsW Tryz.prog 200 [.slice data
    data_n data_c, .int .i64 n3, .int .i64 n8, .pointer (some ⟨swaps, 0, none⟩)] w6 (RetR R fun u12 w11 => ∃ (n13 : Int) (n14 : Int), u12 = .tuple #[.int .i64 n13, .int .i64 n14] ∧ R (.returned (.int .i64 n14)) w11)))
theorem sx181.ok {data : Option Addr} {data_n data_c : Nat} {a : Int} {b : Int} {c : Int} {swaps : Nat} {R : Ending → World → Prop} {w : World} (h : sx181 data data_n data_c a b c swaps R w) : CallsW Tryz.prog 181 [.slice data data_n data_c, .int .i64 a, .int .i64 b, .int .i64 c, .pointer (some ⟨swaps, 0, none⟩)] w R :=
  callsW_of mix Tryz.func181 (by kernel_rfl) (by kernel_rfl) (Eq.mpr (by kernel_rfl : denFn Tryz.prog {} Tryz.f181 [.slice data data_n data_c, .int .i64 a, .int .i64 b, .int .i64 c, .pointer (some ⟨swaps, 0, none⟩)] R w = sx181 data data_n data_c a b c swaps R w) h)

/- slices.medianAdjacentOrdered[int] -/
def sx180 (data : Option Addr) (data_n data_c : Nat) (a : Int) (swaps : Nat) (R : Ending → World → Prop) (w : World) : Prop :=
  CallsW Tryz.prog 181 [.slice data data_n data_c, .int .i64 (IntKind.i64.wrap (a - 1)), .int .i64 a, .int .i64 (IntKind.i64.wrap (a + 1)), .pointer (some ⟨swaps, 0, none⟩)] w (RetR R fun u2 w1 => ∃ (n3 : Int), u2 = .int
    .i64 n3 ∧ R (.returned (.int .i64 n3)) w1)
theorem sx180.ok {data : Option Addr} {data_n data_c : Nat} {a : Int} {swaps : Nat} {R : Ending → World → Prop} {w : World} (h : sx180 data data_n data_c a swaps R w) : CallsW Tryz.prog 180 [.slice data data_n data_c, .int .i64 a, .pointer (some ⟨swaps, 0, none⟩)] w R :=
  callsW_of mix Tryz.func180 (by kernel_rfl) (by kernel_rfl) (Eq.mpr (by kernel_rfl : denFn Tryz.prog {} Tryz.f180 [.slice data data_n data_c, .int .i64 a, .pointer (some ⟨swaps, 0, none⟩)] R w = sx180 data data_n data_c a swaps R w) h)

/- slices.choosePivotOrdered[int] -/
def sx158 (data : Option Addr) (data_n data_c : Nat) (a : Int) (b : Int) (R : Ending → World → Prop) (w : World) : Prop :=
  ∀ (b1 : Nat) (w2 : World), Alloc w w2 b1 (.cells [.int .i64 0].toArray 3) → (((4 : Int) = 0 → R (.panicked (divPanic Tryz.prog)) w2) ∧ ((4 : Int) ≠ 0 → ∀ n3 : Int, n3 = IntKind.i64.wrap (Int.tdiv (IntKind.i64.wrap (b - a))
    4) → ∀ n4 : Int, n4 = IntKind.i64.wrap (a + (IntKind.i64.wrap (n3 * 1))) → (((4 : Int) = 0 → R (.panicked (divPanic Tryz.prog)) w2) ∧ ((4 : Int) ≠ 0 → ∀ n5 : Int, n5 = IntKind.i64.wrap (Int.tdiv (IntKind.i64.wrap (b -
    a)) 4) → ∀ n6 : Int, n6 = IntKind.i64.wrap (a + (IntKind.i64.wrap (n5 * 2))) → (((4 : Int) = 0 → R (.panicked (divPanic Tryz.prog)) w2) ∧ ((4 : Int) ≠ 0 → ∀ n7 : Int, n7 = IntKind.i64.wrap (Int.tdiv (IntKind.i64.wrap
    (b - a)) 4) → ∀ n8 : Int, n8 = IntKind.i64.wrap (a + (IntKind.i64.wrap (n7 * 3))) → (((decide ((IntKind.i64.wrap (b - a)) ≥ 8)) = true → (((decide ((IntKind.i64.wrap (b - a)) ≥ 50)) = true → CallsW Tryz.prog 180
    [.slice data data_n data_c, .int .i64 n4, .pointer (some ⟨b1, 0, none⟩)] w2 (RetR R fun u10 w9 => ∃ (n11 : Int), u10 = .int .i64 n11 ∧ CallsW Tryz.prog 180 [.slice data data_n data_c, .int .i64 n6, .pointer (some ⟨b1,
    0, none⟩)] w9 (RetR R fun u14 w13 => ∃ (n15 : Int), u14 = .int .i64 n15 ∧ CallsW Tryz.prog 180 [.slice data data_n data_c, .int .i64 n8, .pointer (some ⟨b1, 0, none⟩)] w13 (RetR R fun u18 w17 => ∃ (n19 : Int), u18 =
    .int .i64 n19 ∧ CallsW Tryz.prog 181 [.slice data data_n data_c, .int .i64 n11, .int .i64 n15, .int .i64 n19, .pointer (some ⟨b1, 0, none⟩)] w17 (RetR R fun u22 w21 => ∃ (n23 : Int), u22 = .int .i64 n23 ∧ ∃ (n25 :
    Int), w21.cell? ⟨b1, 0, none⟩ = some (.int .i64 n25) ∧ (((n25 == 0) = true → R (.returned (.tuple #[.int .i64 n23, .int .i64 1])) w21) ∧ ((n25 == 0) = false → (((n25 == 12) = true → R (.returned (.tuple #[.int .i64
    n23, .int .i64 2])) w21) ∧ ((n25 == 12) = false → R (.returned (.tuple #[.int .i64 n23, .int .i64 0])) w21))))))))) ∧ ((decide ((IntKind.i64.wrap (b - a)) ≥ 50)) = false → CallsW Tryz.prog 181 [.slice data data_n
    data_c, .int .i64 n4, .int .i64 n6, .int .i64 n8, .pointer (some ⟨b1, 0, none⟩)] w2 (RetR R fun u27 w26 => ∃ (n28 : Int), u27 = .int .i64 n28 ∧ ∃ (n30 : Int), w26.cell? ⟨b1, 0, none⟩ = some (.int .i64 n30) ∧ (((n30 ==
    0) = true → R (.returned (.tuple #[.int .i64 n28, .int .i64 1])) w26) ∧ ((n30 == 0) = false → (((n30 == 12) = true → R (.returned (.tuple #[.int .i64 n28, .int .i64 2])) w26) ∧ ((n30 == 12) = false → R (.returned
    (.tuple #[.int .i64 n28, .int .i64 0])) w26)))))))) ∧ ((decide ((IntKind.i64.wrap (b - a)) ≥ 8)) = false → ∃ (n31 : Int), w2.cell? ⟨b1, 0, none⟩ = some (.int .i64 n31) ∧ (((n31 == 0) = true → R (.returned (.tuple
    #[.int .i64 n6, .int .i64 1])) w2) ∧ ((n31 == 0) = false → (((n31 == 12) = true → R (.returned (.tuple #[.int .i64 n6, .int .i64 2])) w2) ∧ ((n31 == 12) = false → R (.returned (.tuple #[.int .i64 n6, .int .i64 0]))
    w2))))))))))))
theorem sx158.ok {data : Option Addr} {data_n data_c : Nat} {a : Int} {b : Int} {R : Ending → World → Prop} {w : World} (h : sx158 data data_n data_c a b R w) : CallsW Tryz.prog 158 [.slice data data_n data_c, .int .i64 a, .int .i64 b] w R :=
  callsW_of mix Tryz.func158 (by kernel_rfl) (by kernel_rfl) (Eq.mpr (by kernel_rfl : denFn Tryz.prog { named := [18, 20, 23, 25, 28, 30] } Tryz.f158 [.slice data data_n data_c, .int .i64 a, .int .i64 b] R w = sx158 data data_n data_c a b R w) h)

open Go.Sort

theorem scanSorted_go_I {d : Array Int} {b i : Nat} (h : i < b) (hl : ltInt d[i]! d[i - 1]! = false) : scanSorted ltInt d b i = scanSorted ltInt d b (i + 1) := by
  rw [scanSorted, if_pos (by simp [h, hl])]
theorem scanSorted_end_I {d : Array Int} {b i : Nat} (h : i < b → ltInt d[i]! d[i - 1]! = true) : scanSorted ltInt d b i = i := by
  rw [scanSorted, if_neg]
  intro h'
  simp only [Bool.and_eq_true, decide_eq_true_eq, Bool.not_eq_true'] at h'
  rw [h h'.1] at h'; exact absurd h'.2 (by simp)
theorem scanSorted_range_I (d : Array Int) (b : Nat) : ∀ (n i : Nat), b - i ≤ n → i ≤ b → i ≤ scanSorted ltInt d b i ∧ scanSorted ltInt d b i ≤ b
  | n, i, hn, hi => by
    by_cases h : i < b ∧ ltInt d[i]! d[i - 1]! = false
    · rw [scanSorted_go_I h.1 h.2]
      cases n with
      | zero => omega
      | succ n => have := scanSorted_range_I d b n (i + 1) (by omega) (by omega); omega
    · rw [scanSorted_end_I fun hh => by cases hc : ltInt d[i]! d[i - 1]! with | true => rfl | false => exact absurd ⟨hh, hc⟩ h]; omega
theorem shiftDown_size_I : ∀ (j : Nat) (d : Array Int), (shiftDown ltInt j d).size = d.size
  | 0, d => rfl
  | j + 1, d => by
    rw [shiftDown]; split
    · rfl
    · rw [shiftDown_size_I j, swp_size']
def fDown_I (a i : Nat) (d : Array Int) : Array Int := if i - a ≥ 2 then shiftDown ltInt (i - 1) d else d
def fUp_I (b i : Nat) (d : Array Int) : Array Int := if b - i ≥ 2 then shiftUp ltInt b (i + 1) d else d
theorem partialIns_eq_I (a b s i : Nat) (d : Array Int) : partialIns ltInt a b (s + 1) i d =
    if scanSorted ltInt d b i = b then (d, true) else if b - a < 50 then (d, false) else
      partialIns ltInt a b s (scanSorted ltInt d b i) (fUp_I b (scanSorted ltInt d b i) (fDown_I a (scanSorted ltInt d b i) (swp d (scanSorted ltInt d b i) (scanSorted ltInt d b i - 1)))) := rfl

set_option maxHeartbeats 1000000 in
theorem par_I_ok {B : Nat} {p : Option Addr} {n c a b : Nat} {d : Array Int} {w : World} (h : Sr_I B p n c w d) (hab : a < b) (hb : b ≤ d.size) (hsz : d.size < 4611686018427387904) :
    CallsW Tryz.prog 160 [.slice p n c, .int .i64 a, .int .i64 b] w (Rets (Srt_I B p n c w (.bool (partialInsertionSort ltInt d a b).2) (partialInsertionSort ltInt d a b).1)) := by
  refine sx160.ok ?_
  unfold sx160
  have e1 : IntKind.i64.wrap ((a : Int) + 1) = ((a + 1 : Nat) : Int) := by rw [IntKind.wrap_i64]; omega
  have e2 : IntKind.i64.wrap ((b : Int) - (a : Int)) = ((b - a : Nat) : Int) := by rw [IntKind.wrap_i64]; omega
  rw [e1, e2]
  obtain ⟨r, hr⟩ : ∃ r, r = partialInsertionSort ltInt d a b := ⟨_, rfl⟩
  rw [← hr]
  refine ⟨fun x y w' => ∃ (i s : Nat) (d' : Array Int), x = i ∧ y = s ∧ a + 1 ≤ i ∧ i ≤ b ∧ s ≤ 5 ∧ d'.size = d.size ∧ Sr_I B p n c w' d' ∧ partialIns ltInt a b (5 - s) i d' = r ∧ Upd (Blk p) w w', fun x y _ => 5 - y.toNat, ⟨a + 1, 0, d, rfl, rfl, by omega, by omega, by omega, rfl, h, hr.symm, Upd.refl _ _⟩, ?_⟩
  rintro x y w4 ⟨i, s, d1, rfl, rfl, hi, hib, hs5, hs1, h4, he, hu4⟩
  refine ⟨fun hlt => ?_, fun hge => ?_⟩
  · simp only [decide_eq_true_eq] at hlt
    obtain ⟨m, hm⟩ : ∃ m, 5 - s = m + 1 := ⟨5 - s - 1, by omega⟩
    rw [hm, partialIns_eq_I] at he
    have hrange := scanSorted_range_I d1 b (b - i) i (Nat.le_refl _) hib
    obtain ⟨i2, hi2⟩ : ∃ i2, i2 = scanSorted ltInt d1 b i := ⟨_, rfl⟩
    rw [← hi2] at he hrange
    refine ⟨fun x w' => x = (i2 : Nat) ∧ Sr_I B p n c w' d1 ∧ Upd (Blk p) w w', ⟨fun x w' => ∃ k : Nat, x = k ∧ a + 1 ≤ k ∧ k ≤ b ∧ scanSorted ltInt d1 b k = i2 ∧ Sr_I B p n c w' d1 ∧ Upd (Blk p) w w', fun x _ => b - x.toNat, ⟨i, rfl, hi, hib, hi2.symm, h4, hu4⟩, ?_⟩, ?_⟩
    · rintro x w8 ⟨k, rfl, hk, hkb, hek, h8, hu8⟩ w9 hg9
      have h9 := h8.grew hg9
      refine ⟨fun hle => ?_, fun hgt => ?_⟩
      · simp only [decide_eq_true_eq] at hle
        have e3 : IntKind.i64.wrap ((k : Int) + 1) = ((k + 1 : Nat) : Int) := by rw [IntKind.wrap_i64]; omega
        have e4 : IntKind.i64.wrap ((k : Int) - 1) = ((k - 1 : Nat) : Int) := by rw [IntKind.wrap_i64]; omega
        rw [e3, e4]
        refine Ar.rd h9 (i := k) rfl (by omega) fun q1 => Ar.rd h9 (i := k - 1) rfl (by omega) fun q2 => less_I_use ⟨_, rfl, sameB_refl _ _, fun hl => ?_, fun hl => ?_⟩
        · exact ⟨⟨k + 1, rfl, by omega, by omega, (scanSorted_go_I (i := k) (by omega) (by simpa using hl)).symm.trans hek, h9, hu8.then_grew hg9⟩, by show b - (((k + 1 : Nat) : Int)).toNat < b - ((k : Int)).toNat; omega⟩
        · rw [scanSorted_end_I (fun _ => by simpa using hl)] at hek
          exact ⟨by rw [hek], h9, hu8.then_grew hg9⟩
      · simp only [decide_eq_false_iff_not] at hgt
        rw [scanSorted_end_I (fun hh => by omega)] at hek
        exact ⟨by rw [hek], h9, hu8.then_grew hg9⟩
    rintro x w19 ⟨rfl, h19, hu19⟩
    refine ⟨fun heq => ?_, fun hne => ⟨fun h50 => ?_, fun h50 w20 hg20 => ?_⟩⟩
    · have : i2 = b := by simp only [beq_iff_eq] at heq; omega
      rw [if_pos this] at he
      subst he
      exact ⟨_, rfl, rfl, h19, hu19⟩
    · have h1 : i2 ≠ b := by simp only [beq_eq_false_iff_ne, ne_eq] at hne; omega
      simp only [decide_eq_true_eq] at h50
      rw [if_neg h1, if_pos (by omega)] at he
      subst he
      exact ⟨_, rfl, rfl, h19, hu19⟩
    have h1 : i2 ≠ b := by simp only [beq_eq_false_iff_ne, ne_eq] at hne; omega
    simp only [decide_eq_false_iff_not] at h50
    rw [if_neg h1, if_neg (by omega)] at he
    have e4 : IntKind.i64.wrap ((i2 : Int) - 1) = ((i2 - 1 : Nat) : Int) := by rw [IntKind.wrap_i64]; omega
    have e5 : IntKind.i64.wrap ((i2 : Int) + 1) = ((i2 + 1 : Nat) : Int) := by rw [IntKind.wrap_i64]; omega
    have e6 : IntKind.i64.wrap ((i2 : Int) - (a : Int)) = ((i2 - a : Nat) : Int) := by rw [IntKind.wrap_i64]; omega
    have e7 : IntKind.i64.wrap ((b : Int) - (i2 : Int)) = ((b - i2 : Nat) : Int) := by rw [IntKind.wrap_i64]; omega
    have e8 : IntKind.i64.wrap ((s : Int) + 1) = ((s + 1 : Nat) : Int) := by rw [IntKind.wrap_i64]; omega
    rw [e4, e5, e6, e8]
    have h20 := h19.grew hg20
    refine Ar.rd h20 (i := i2 - 1) rfl (by omega) fun q3 => Ar.rd h20 (i := i2) rfl (by omega) fun q4 => Ar.st h20 (i := i2) rfl (by omega) fun q5 w26 h26 hu26 => Ar.st h26 (i := i2 - 1) rfl (by simp; omega) fun q6 w28 h28 hu28 => ?_
    have hu28 := ((hu19.then_grew hg20).trans hu26).trans hu28
    obtain ⟨d2, hd2⟩ : ∃ d2, d2 = swp d1 i2 (i2 - 1) := ⟨_, rfl⟩
    have h28 : Sr_I B p n c w28 d2 := by rw [hd2]; exact h28
    have hs2 : d2.size = d.size := by rw [hd2, swp_size']; exact hs1
    rw [← hd2] at he
    refine ⟨fun w' => Sr_I B p n c w' (fDown_I a i2 d2) ∧ Upd (Blk p) w w', ⟨fun hge => ?_, fun hlt => ⟨?_, hu28⟩⟩, ?_⟩
    · simp only [decide_eq_true_eq, ge_iff_le] at hge
      have hfd : fDown_I a i2 d2 = shiftDown ltInt (i2 - 1) d2 := by rw [fDown_I, if_pos (by omega)]
      refine ⟨fun x w' => ∃ (j : Nat) (d3 : Array Int), x = j ∧ j ≤ i2 - 1 ∧ d3.size = d.size ∧ Sr_I B p n c w' d3 ∧ shiftDown ltInt j d3 = fDown_I a i2 d2 ∧ Upd (Blk p) w w', fun x _ => x.toNat, ⟨i2 - 1, d2, rfl, Nat.le_refl _, hs2, h28, hfd.symm, hu28⟩, ?_⟩
      rintro x w32 ⟨j, d3, rfl, hj, hs3, h32, he3, hu32⟩
      refine ⟨fun hge1 w33 hg33 => ?_, fun hlt1 => ?_⟩
      · simp only [decide_eq_true_eq, ge_iff_le] at hge1
        obtain ⟨j, rfl⟩ : ∃ j', j = j' + 1 := ⟨j - 1, by omega⟩
        have e9 : IntKind.i64.wrap (((j + 1 : Nat) : Int) - 1) = (j : Int) := by rw [IntKind.wrap_i64]; omega
        rw [e9]
        have h33 := h32.grew hg33
        rw [shiftDown] at he3
        refine Ar.rd h33 (i := j + 1) rfl (by omega) fun q1 => Ar.rd h33 (i := j) rfl (by omega) fun q2 => less_I_use ⟨_, rfl, fun hl => ?_, fun hl w42 hg42 => ?_⟩
        · rw [if_pos hl] at he3
          subst he3
          exact ⟨h33, hu32.then_grew hg33⟩
        · rw [if_neg (by rw [hl]; simp)] at he3
          have h42 := h33.grew hg42
          refine Ar.rd h42 (i := j) rfl (by omega) fun q3 => Ar.rd h42 (i := j + 1) rfl (by omega) fun q4 => Ar.st h42 (i := j + 1) rfl (by omega) fun q5 w48 h48 hu48 => Ar.st h48 (i := j) rfl (by simp; omega) fun q6 w50 h50 hu50 => ?_
          exact ⟨⟨j, _, rfl, by omega, by rw [← hs3]; exact swp_size' d3 (j + 1) j, h50, he3, (((hu32.then_grew hg33).then_grew hg42).trans hu48).trans hu50⟩, by show ((j : Int)).toNat < (((j + 1 : Nat) : Int)).toNat; omega⟩
      · simp only [decide_eq_false_iff_not, ge_iff_le] at hlt1
        have : j = 0 := by omega
        subst this
        rw [shiftDown] at he3
        subst he3
        exact ⟨h32, hu32⟩
    · simp only [decide_eq_false_iff_not, ge_iff_le] at hlt
      have hfd : fDown_I a i2 d2 = d2 := by rw [fDown_I, if_neg (by omega)]
      rw [hfd]; exact h28
    rintro w51 ⟨h51, hu51⟩ n52 rfl
    rw [e7]
    obtain ⟨d4, hd4⟩ : ∃ d4, d4 = fDown_I a i2 d2 := ⟨_, rfl⟩
    rw [← hd4] at h51 he
    have hs4 : d4.size = d.size := by
      rw [hd4, fDown_I]; split
      · rw [shiftDown_size_I, hs2]
      · exact hs2
    have hm5 : m = 5 - (s + 1) := by omega
    have hnext : ∀ (d5 : Array Int) (w' : World), d5.size = d.size → Sr_I B p n c w' d5 → fUp_I b i2 d4 = d5 → Upd (Blk p) w w' → (∃ (i s' : Nat) (d' : Array Int), (i2 : Int) = i ∧ ((s + 1 : Nat) : Int) = s' ∧ a + 1 ≤ i ∧ i ≤ b ∧ s' ≤ 5 ∧ d'.size = d.size ∧ Sr_I B p n c w' d' ∧ partialIns ltInt a b (5 - s') i d' = r ∧ Upd (Blk p) w w') ∧ 5 - (((s + 1 : Nat) : Int)).toNat < 5 - ((s : Int)).toNat := by
      intro d5 w' hs5' h5 hf hu5
      rw [hf, hm5] at he
      exact ⟨⟨i2, s + 1, d5, rfl, rfl, by omega, by omega, by omega, hs5', h5, he, hu5⟩, by omega⟩
    refine ⟨fun hge => ?_, fun hlt => ?_⟩
    · simp only [decide_eq_true_eq, ge_iff_le] at hge
      have hfu : fUp_I b i2 d4 = shiftUp ltInt b (i2 + 1) d4 := by rw [fUp_I, if_pos (by omega)]
      refine ⟨fun x w' => ∃ (j : Nat) (d3 : Array Int), x = j ∧ i2 + 1 ≤ j ∧ j ≤ b ∧ d3.size = d.size ∧ Sr_I B p n c w' d3 ∧ shiftUp ltInt b j d3 = fUp_I b i2 d4 ∧ Upd (Blk p) w w', fun x _ => b - x.toNat, ⟨i2 + 1, d4, rfl, Nat.le_refl _, by omega, hs4, h51, hfu.symm, hu51⟩, ?_⟩
      rintro x w55 ⟨j, d3, rfl, hj, hjb, hs3, h55, he3, hu55⟩
      refine ⟨fun hlt1 w56 hg56 => ?_, fun hge1 => ?_⟩
      · simp only [decide_eq_true_eq] at hlt1
        have e9 : IntKind.i64.wrap ((j : Int) - 1) = ((j - 1 : Nat) : Int) := by rw [IntKind.wrap_i64]; omega
        have e10 : IntKind.i64.wrap ((j : Int) + 1) = ((j + 1 : Nat) : Int) := by rw [IntKind.wrap_i64]; omega
        rw [e9, e10]
        have h56 := h55.grew hg56
        rw [shiftUp, if_pos (by omega)] at he3
        refine Ar.rd h56 (i := j) rfl (by omega) fun q1 => Ar.rd h56 (i := j - 1) rfl (by omega) fun q2 => less_I_use ⟨_, rfl, fun hl => ?_, fun hl w65 hg65 => ?_⟩
        · rw [if_pos hl] at he3
          exact hnext d3 w56 hs3 h56 he3.symm (hu55.then_grew hg56)
        · rw [if_neg (by rw [hl]; simp)] at he3
          have h65 := h56.grew hg65
          refine Ar.rd h65 (i := j - 1) rfl (by omega) fun q3 => Ar.rd h65 (i := j) rfl (by omega) fun q4 => Ar.st h65 (i := j) rfl (by omega) fun q5 w71 h71 hu71 => Ar.st h71 (i := j - 1) rfl (by simp; omega) fun q6 w73 h73 hu73 => ?_
          exact ⟨⟨j + 1, _, rfl, by omega, by omega, by rw [← hs3]; exact swp_size' d3 j (j - 1), h73, he3, (((hu55.then_grew hg56).then_grew hg65).trans hu71).trans hu73⟩, by show b - (((j + 1 : Nat) : Int)).toNat < b - ((j : Int)).toNat; omega⟩
      · simp only [decide_eq_false_iff_not] at hge1
        rw [shiftUp, if_neg (by omega)] at he3
        exact hnext d3 w55 hs3 h55 he3.symm hu55
    · simp only [decide_eq_false_iff_not, ge_iff_le] at hlt
      exact hnext d4 w51 hs4 h51 (by rw [fUp_I, if_neg (by omega)]) hu51
  · simp only [decide_eq_false_iff_not] at hge
    have : s = 5 := by omega
    subst this
    rw [Nat.sub_self, partialIns] at he
    subst he
    exact ⟨_, rfl, rfl, h4, hu4⟩
end Go.Proofs.YtcpkneemhfnanaaGreat
/- What the sort's parts hand back: the pivot, the patterns. Conditions: none. -/
namespace Go.Proofs.YtcpkneemhfnanaaGreat
open Go.Sx
set_option maxRecDepth 100000
set_option linter.unusedVariables false
set_option linter.unusedSimpArgs false
open Go.Sort

/-- the counter of exchanges -/
abbrev Cnt_I (w : World) (sw : Nat) : Prop := ∃ x : Int, Row w sw 3 [.int .i64 x]
def Med_I (B : Nat) (p : Option Addr) (n c : Nat) (d : Array Int) (sw : Nat) (w : World) (S : Nat → Prop) (v : Value) (w' : World) : Prop := ∃ m : Nat, v = .int .i64 m ∧ S m ∧ Sr_I B p n c w' d ∧ Cnt_I w' sw ∧ Upd (fun b => b = sw) w w'

theorem ord2_I_ok {B : Nat} {p : Option Addr} {n c a b sw : Nat} {d : Array Int} {w : World} (h : Sr_I B p n c w d) (hc : Cnt_I w sw) (hsw : ¬ Blk p sw) (ha : a < d.size) (hb : b < d.size) :
    CallsW Tryz.prog 200 [.slice p n c, .int .i64 a, .int .i64 b, .pointer (some ⟨sw, 0, none⟩)] w (Rets fun v w' => ∃ x y : Nat, v = .tuple #[.int .i64 x, .int .i64 y] ∧ (x = a ∧ y = b ∨ x = b ∧ y = a) ∧ Sr_I B p n c w' d ∧ Cnt_I w' sw ∧ Upd (fun b => b = sw) w w') := by
  refine sx200.ok ?_
  unfold sx200
  intro w1 hg1
  have h1 := h.grew hg1
  obtain ⟨x, hx⟩ := hc
  have hx1 := hx.grew hg1
  refine Ar.rd h1 (i := b) rfl hb fun q1 => Ar.rd h1 (i := a) rfl ha fun q2 => less_I_use ⟨_, rfl, fun hl => ?_, fun hl => ?_⟩
  · obtain ⟨hr, hrow, hu⟩ := hx1.set1 (o := 0) (by simp) (.int .i64 (IntKind.i64.wrap (x + 1)))
    refine ⟨x, by rw [hx1.cell]; rfl, hr, ?_⟩
    rintro w11 rfl
    exact ⟨_, rfl, b, a, rfl, .inr ⟨rfl, rfl⟩, h1.upd hu (fun b hb e => hsw (e ▸ hb)), ⟨_, hrow⟩, hg1.upd.trans hu⟩
  · exact ⟨_, rfl, a, b, rfl, .inl ⟨rfl, rfl⟩, h1, ⟨x, hx1⟩, hg1.upd⟩

theorem med_I_ok {B : Nat} {p : Option Addr} {n c a b m sw : Nat} {d : Array Int} {w : World} (h : Sr_I B p n c w d) (hc : Cnt_I w sw) (hsw : ¬ Blk p sw) (ha : a < d.size) (hb : b < d.size) (hm : m < d.size) :
    CallsW Tryz.prog 181 [.slice p n c, .int .i64 a, .int .i64 b, .int .i64 m, .pointer (some ⟨sw, 0, none⟩)] w (Rets (Med_I B p n c d sw w fun r => r = a ∨ r = b ∨ r = m)) := by
  refine sx181.ok ?_
  unfold sx181
  refine (ord2_I_ok h hc hsw ha hb).use fun v w1 ⟨x1, y1, hv, h1, hs1, hc1, hu1⟩ => ?_
  subst hv
  refine ⟨_, _, rfl, (ord2_I_ok hs1 hc1 hsw (by omega) hm).use fun v w6 ⟨x2, y2, hv, h2, hs2, hc2, hu2⟩ => ?_⟩
  subst hv
  refine ⟨_, _, rfl, (ord2_I_ok hs2 hc2 hsw (by omega) (by omega)).use fun v w11 ⟨x3, y3, hv, h3, hs3, hc3, hu3⟩ => ?_⟩
  subst hv
  exact ⟨_, _, rfl, _, rfl, y3, rfl, by omega, hs3, hc3, (hu1.trans hu2).trans hu3⟩

theorem madj_I_ok {B : Nat} {p : Option Addr} {n c a sw : Nat} {d : Array Int} {w : World} (h : Sr_I B p n c w d) (hc : Cnt_I w sw) (hsw : ¬ Blk p sw) (ha : 0 < a) (hb : a + 1 < d.size) (hsz : d.size < 4611686018427387904) :
    CallsW Tryz.prog 180 [.slice p n c, .int .i64 a, .pointer (some ⟨sw, 0, none⟩)] w (Rets (Med_I B p n c d sw w fun r => a - 1 ≤ r ∧ r ≤ a + 1)) := by
  refine sx180.ok ?_
  unfold sx180
  have e1 : IntKind.i64.wrap ((a : Int) - 1) = ((a - 1 : Nat) : Int) := by rw [IntKind.wrap_i64]; omega
  have e2 : IntKind.i64.wrap ((a : Int) + 1) = ((a + 1 : Nat) : Int) := by rw [IntKind.wrap_i64]; omega
  rw [e1, e2]
  refine (med_I_ok h hc hsw (by omega) (by omega) (by omega)).use fun v w1 ⟨m, hv, hm, hs1, hc1, hu1⟩ => ?_
  subst hv
  exact ⟨_, rfl, _, rfl, m, rfl, by omega, hs1, hc1, hu1⟩

def Piv_I (B : Nat) (p : Option Addr) (n c : Nat) (d : Array Int) (a b : Nat) (w : World) (v : Value) (w' : World) : Prop := ∃ (m : Nat) (x : Int), v = .tuple #[.int .i64 m, .int .i64 x] ∧ a ≤ m ∧ m < b ∧ Sr_I B p n c w' d ∧ Grew w w'

theorem piv_I_ok {B : Nat} {p : Option Addr} {n c a b : Nat} {d : Array Int} {w : World} (h : Sr_I B p n c w d) (hab : a < b) (hb : b ≤ d.size) (hsz : d.size < 2305843009213693952) :
    CallsW Tryz.prog 158 [.slice p n c, .int .i64 a, .int .i64 b] w (Rets (Piv_I B p n c d a b w)) := by
  refine sx158.ok ?_
  unfold sx158
  intro sw w2 hal
  have h2 := h.grew hal.grew
  have hcnt : Cnt_I w2 sw := ⟨0, hal.at_⟩
  have hsw : ¬ Blk p sw := fun hb => by have := (h.blk hb).2; have := hal.new; omega
  have hgr : ∀ {w'}, Upd (fun b => b = sw) w2 w' → Grew w w' := fun hu => hal.grew.then_own hu fun b hb => by rw [hb]; exact hal.new
  have e0 : IntKind.i64.wrap ((b : Int) - (a : Int)) = ((b - a : Nat) : Int) := by rw [IntKind.wrap_i64]; omega
  have e1 : IntKind.i64.wrap (Int.tdiv ((b - a : Nat) : Int) 4) = (((b - a) / 4 : Nat) : Int) := by
    rw [Int.tdiv_eq_ediv_of_nonneg (by omega), IntKind.wrap_i64]; omega
  have e2 : ∀ k : Nat, k ≤ 3 → IntKind.i64.wrap ((a : Int) + IntKind.i64.wrap ((((b - a) / 4 : Nat) : Int) * k)) = ((a + (b - a) / 4 * k : Nat) : Int) := by
    intro k hk
    rcases (by omega : k = 0 ∨ k = 1 ∨ k = 2 ∨ k = 3) with rfl | rfl | rfl | rfl <;> (rw [IntKind.wrap_i64, IntKind.wrap_i64]; omega)
  rw [e0]
  refine ⟨fun h => (by cases h), fun _ => ?_⟩
  rintro n3 rfl n4 rfl
  rw [e1]
  refine ⟨fun h => (by cases h), fun _ => ?_⟩
  rintro n5 rfl n6 rfl
  refine ⟨fun h => (by cases h), fun _ => ?_⟩
  rintro n7 rfl n8 rfl
  have f1 := e2 1 (by decide); have f2 := e2 2 (by decide); have f3 := e2 3 (by decide)
  have g1 : IntKind.i64.wrap ((a : Int) + IntKind.i64.wrap ((((b - a) / 4 : Nat) : Int) * 1)) = ((a + (b - a) / 4 * 1 : Nat) : Int) := f1
  have g2 : IntKind.i64.wrap ((a : Int) + IntKind.i64.wrap ((((b - a) / 4 : Nat) : Int) * 2)) = ((a + (b - a) / 4 * 2 : Nat) : Int) := f2
  have g3 : IntKind.i64.wrap ((a : Int) + IntKind.i64.wrap ((((b - a) / 4 : Nat) : Int) * 3)) = ((a + (b - a) / 4 * 3 : Nat) : Int) := f3
  rw [g1, g2, g3]
  have fin : ∀ (m : Nat) (w' : World), a ≤ m → m < b → Sr_I B p n c w' d → Cnt_I w' sw → Upd (fun b => b = sw) w2 w' → ∃ x : Int, w'.cell? ⟨sw, 0, none⟩ = some (.int .i64 x) ∧
      (((x == 0) = true → Rets (Piv_I B p n c d a b w) (.returned (.tuple #[.int .i64 m, .int .i64 1])) w') ∧ ((x == 0) = false → (((x == 12) = true → Rets (Piv_I B p n c d a b w) (.returned (.tuple #[.int .i64 m, .int .i64 2])) w') ∧ ((x == 12) = false → Rets (Piv_I B p n c d a b w) (.returned (.tuple #[.int .i64 m, .int .i64 0])) w')))) := by
    intro m w' hm1 hm2 hs ⟨x, hx⟩ hu
    exact ⟨x, by rw [hx.cell]; rfl, fun _ => ⟨_, rfl, m, 1, rfl, hm1, hm2, hs, hgr hu⟩, fun _ => ⟨fun _ => ⟨_, rfl, m, 2, rfl, hm1, hm2, hs, hgr hu⟩, fun _ => ⟨_, rfl, m, 0, rfl, hm1, hm2, hs, hgr hu⟩⟩⟩
  refine ⟨fun h8 => ⟨fun h50 => ?_, fun h50 => ?_⟩, fun h8 => ?_⟩
  · simp only [decide_eq_true_eq, ge_iff_le] at h50 h8
    refine (madj_I_ok h2 hcnt hsw (by omega) (by omega) (by omega)).use fun v w9 ⟨m1, hv, hm1, hs9, hc9, hu9⟩ => ?_
    subst hv
    refine ⟨_, rfl, (madj_I_ok hs9 hc9 hsw (by omega) (by omega) (by omega)).use fun v w13 ⟨m2, hv, hm2, hs13, hc13, hu13⟩ => ?_⟩
    subst hv
    refine ⟨_, rfl, (madj_I_ok hs13 hc13 hsw (by omega) (by omega) (by omega)).use fun v w17 ⟨m3, hv, hm3, hs17, hc17, hu17⟩ => ?_⟩
    subst hv
    refine ⟨_, rfl, (med_I_ok hs17 hc17 hsw (by omega) (by omega) (by omega)).use fun v w21 ⟨m4, hv, hm4, hs21, hc21, hu21⟩ => ?_⟩
    subst hv
    exact ⟨_, rfl, fin m4 w21 (by omega) (by omega) hs21 hc21 (((hu9.trans hu13).trans hu17).trans hu21)⟩
  · simp only [decide_eq_true_eq, decide_eq_false_iff_not, ge_iff_le] at h50 h8
    refine (med_I_ok h2 hcnt hsw (by omega) (by omega) (by omega)).use fun v w21 ⟨m4, hv, hm4, hs21, hc21, hu21⟩ => ?_
    subst hv
    exact ⟨_, rfl, fin m4 w21 (by omega) (by omega) hs21 hc21 hu21⟩
  · simp only [decide_eq_false_iff_not, ge_iff_le] at h8
    exact fin _ w2 (by omega) (by omega) h2 hcnt (Upd.refl _ _)
end Go.Proofs.YtcpkneemhfnanaaGreat
