/- What the sort's parts hand back: the partial insertion, the pivot, the patterns. Conditions: none. -/
import Derived.Test.YtoljpkdokpinhaaProg
import Derived.Test.YtoljpkdokpinhaaSortB_U
namespace Go.Proofs.Ytoljpkdokpinhaa
open Go.Sx
set_option maxRecDepth 100000
set_option linter.unusedVariables false
set_option linter.unusedSimpArgs false
/- slices.partialInsertionSortOrdered[uint64] -/
def sx86 (d : Option Addr) (d_n d_c : Nat) (i : Int) (p2 : Int) (R : Ending → World → Prop) (w : World) : Prop :=
  ∃ (I1 : Int → Int → World → Prop) (m1 : Int → Int → World → Nat), I1 (IntKind.i64.wrap (i + 1)) 0 w ∧ ∀ (n2 : Int) (n3 : Int) (w4 : World), I1 n2 n3 w4 → (((decide (n3 < 5)) = true → ∃ (J5 : Int → World → Prop), (∃ (I6 :
    Int → World → Prop) (m6 : Int → World → Nat), I6 n2 w4 ∧ ∀ (n7 : Int) (w8 : World), I6 n7 w8 → ∀ w9, Grew w8 w9 → (((decide (n7 < p2)) = true → withSome d (fun d10 => (0 ≤ n7 ∧ n7 < (d_n : Nat)) ∧ ∃ (n11 : Int),
    w9.cell? (Addr.add d10 (n7.toNat * 1)) = some (.int .u64 n11) ∧ withSome d (fun d12 => (0 ≤ (IntKind.i64.wrap (n7 - 1)) ∧ (IntKind.i64.wrap (n7 - 1)) < (d_n : Nat)) ∧ ∃ (n13 : Int), w9.cell? (Addr.add d12
    ((IntKind.i64.wrap (n7 - 1)).toNat * 1)) = some (.int .u64 n13) ∧ CallsW Try.prog 87 [.int .u64 n11, .int .u64 n13] w9 (RetR R fun u15 w14 => ∃ (b16 : Bool), u15 = .bool b16 ∧ SameB w9 w14 [(Addr.add d12
    ((IntKind.i64.wrap (n7 - 1)).toNat * 1)), (Addr.add d10 (n7.toNat * 1))] ∧ (((!b16) = true → (I6 (IntKind.i64.wrap (n7 + 1)) w14 ∧ m6 (IntKind.i64.wrap (n7 + 1)) w14 < m6 n7 w8)) ∧ ((!b16) = false → J5 n7 w14)))))) ∧
    ((decide (n7 < p2)) = false → J5 n7 w9))) ∧ ∀ (n18 : Int) (w19 : World), J5 n18 w19 → (((n18 == p2) = true → R (.returned (.bool true)) w19) ∧ ((n18 == p2) = false → (((decide ((IntKind.i64.wrap (p2 - i)) < 50)) =
    true → R (.returned (.bool false)) w19) ∧ ((decide ((IntKind.i64.wrap (p2 - i)) < 50)) = false → ∀ w20, Grew w19 w20 → withSome d (fun d21 => (0 ≤ (IntKind.i64.wrap (n18 - 1)) ∧ (IntKind.i64.wrap (n18 - 1)) < (d_n :
    Nat)) ∧ ∃ (n22 : Int), w20.cell? (Addr.add d21 ((IntKind.i64.wrap (n18 - 1)).toNat * 1)) = some (.int .u64 n22) ∧ withSome d (fun d23 => (0 ≤ n18 ∧ n18 < (d_n : Nat)) ∧ ∃ (n24 : Int), w20.cell? (Addr.add d23
    (n18.toNat * 1)) = some (.int .u64 n24) ∧ withSome d (fun d25 => (0 ≤ n18 ∧ n18 < (d_n : Nat)) ∧ RoomAt w20 (Addr.add d25 (n18.toNat * 1)) 0 [.int .u64 n22] ∧ ∀ w26, w26 = setCells w20 (Addr.add d25 (n18.toNat * 1)) 0
    [.int .u64 n22] → withSome d (fun d27 => (0 ≤ (IntKind.i64.wrap (n18 - 1)) ∧ (IntKind.i64.wrap (n18 - 1)) < (d_n : Nat)) ∧ RoomAt w26 (Addr.add d27 ((IntKind.i64.wrap (n18 - 1)).toNat * 1)) 0 [.int .u64 n24] ∧ ∀ w28,
    w28 = setCells w26 (Addr.add d27 ((IntKind.i64.wrap (n18 - 1)).toNat * 1)) 0 [.int .u64 n24] → ∃ (J29 : World → Prop), ((((decide ((IntKind.i64.wrap (n18 - i)) ≥ 2)) = true → ∃ (I30 : Int → World → Prop) (m30 : Int →
    World → Nat), I30 (IntKind.i64.wrap (n18 - 1)) w28 ∧ ∀ (n31 : Int) (w32 : World), I30 n31 w32 → (((decide (n31 ≥ 1)) = true → ∀ w33, Grew w32 w33 → withSome d (fun d34 => (0 ≤ n31 ∧ n31 < (d_n : Nat)) ∧ ∃ (n35 : Int),
    w33.cell? (Addr.add d34 (n31.toNat * 1)) = some (.int .u64 n35) ∧ withSome d (fun d36 => (0 ≤ (IntKind.i64.wrap (n31 - 1)) ∧ (IntKind.i64.wrap (n31 - 1)) < (d_n : Nat)) ∧ ∃ (n37 : Int), w33.cell? (Addr.add d36
    ((IntKind.i64.wrap (n31 - 1)).toNat * 1)) = some (.int .u64 n37) ∧ CallsW Try.prog 87 [.int .u64 n35, .int .u64 n37] w33 (RetR R fun u39 w38 => ∃ (b40 : Bool), u39 = .bool b40 ∧ (((!b40) = true → J29 w38) ∧ ((!b40) =
    false → ∀ w42, Grew w38 w42 → withSome d (fun d43 => (0 ≤ (IntKind.i64.wrap (n31 - 1)) ∧ (IntKind.i64.wrap (n31 - 1)) < (d_n : Nat)) ∧ ∃ (n44 : Int), w42.cell? (Addr.add d43 ((IntKind.i64.wrap (n31 - 1)).toNat * 1)) =
    some (.int .u64 n44) ∧ withSome d (fun d45 => (0 ≤ n31 ∧ n31 < (d_n : Nat)) ∧ ∃ (n46 : Int), w42.cell? (Addr.add d45 (n31.toNat * 1)) = some (.int .u64 n46) ∧ withSome d (fun d47 => (0 ≤ n31 ∧ n31 < (d_n : Nat)) ∧
    RoomAt w42 (Addr.add d47 (n31.toNat * 1)) 0 [.int .u64 n44] ∧ ∀ w48, w48 = setCells w42 (Addr.add d47 (n31.toNat * 1)) 0 [.int .u64 n44] → withSome d (fun d49 => (0 ≤ (IntKind.i64.wrap (n31 - 1)) ∧ (IntKind.i64.wrap
    (n31 - 1)) < (d_n : Nat)) ∧ RoomAt w48 (Addr.add d49 ((IntKind.i64.wrap (n31 - 1)).toNat * 1)) 0 [.int .u64 n46] ∧ ∀ w50, w50 = setCells w48 (Addr.add d49 ((IntKind.i64.wrap (n31 - 1)).toNat * 1)) 0 [.int .u64 n46] →
    (I30 (IntKind.i64.wrap (n31 - 1)) w50 ∧ m30 (IntKind.i64.wrap (n31 - 1)) w50 < m30 n31 w32))))))))))) ∧ ((decide (n31 ≥ 1)) = false → J29 w32))) ∧ ((decide ((IntKind.i64.wrap (n18 - i)) ≥ 2)) = false → J29 w28))) ∧ ∀ 
    (w51 : World), J29 w51 → ∀ n52 : Int, n52 = IntKind.i64.wrap (p2 - n18) → (((decide (n52 ≥ 2)) = true → ∃ (I53 : Int → World → Prop) (m53 : Int → World → Nat), I53 (IntKind.i64.wrap (n18 + 1)) w51 ∧ ∀ (n54 : Int) (w55
    : World), I53 n54 w55 → (((decide (n54 < p2)) = true → ∀ w56, Grew w55 w56 → withSome d (fun d57 => (0 ≤ n54 ∧ n54 < (d_n : Nat)) ∧ ∃ (n58 : Int), w56.cell? (Addr.add d57 (n54.toNat * 1)) = some (.int .u64 n58) ∧
    withSome d (fun d59 => (0 ≤ (IntKind.i64.wrap (n54 - 1)) ∧ (IntKind.i64.wrap (n54 - 1)) < (d_n : Nat)) ∧ ∃ (n60 : Int), w56.cell? (Addr.add d59 ((IntKind.i64.wrap (n54 - 1)).toNat * 1)) = some (.int .u64 n60) ∧ CallsW
    Try.prog 87 [.int .u64 n58, .int .u64 n60] w56 (RetR R fun u62 w61 => ∃ (b63 : Bool), u62 = .bool b63 ∧ (((!b63) = true → (I1 n18 (IntKind.i64.wrap (n3 + 1)) w61 ∧ m1 n18 (IntKind.i64.wrap (n3 + 1)) w61 < m1 n2 n3
    w4)) ∧ ((!b63) = false → ∀ w65, Grew w61 w65 → withSome d (fun d66 => (0 ≤ (IntKind.i64.wrap (n54 - 1)) ∧ (IntKind.i64.wrap (n54 - 1)) < (d_n : Nat)) ∧ ∃ (n67 : Int), w65.cell? (Addr.add d66 ((IntKind.i64.wrap (n54 -
    1)).toNat * 1)) = some (.int .u64 n67) ∧ withSome d (fun d68 => (0 ≤ n54 ∧ n54 < (d_n : Nat)) ∧ ∃ (n69 : Int), w65.cell? (Addr.add d68 (n54.toNat * 1)) = some (.int .u64 n69) ∧ withSome d (fun d70 => (0 ≤ n54 ∧ n54 <
    (d_n : Nat)) ∧ RoomAt w65 (Addr.add d70 (n54.toNat * 1)) 0 [.int .u64 n67] ∧ ∀ w71, w71 = setCells w65 (Addr.add d70 (n54.toNat * 1)) 0 [.int .u64 n67] → withSome d (fun d72 => (0 ≤ (IntKind.i64.wrap (n54 - 1)) ∧
    (IntKind.i64.wrap (n54 - 1)) < (d_n : Nat)) ∧ RoomAt w71 (Addr.add d72 ((IntKind.i64.wrap (n54 - 1)).toNat * 1)) 0 [.int .u64 n69] ∧ ∀ w73, w73 = setCells w71 (Addr.add d72 ((IntKind.i64.wrap (n54 - 1)).toNat * 1)) 0
    [.int .u64 n69] → (I53 (IntKind.i64.wrap (n54 + 1)) w73 ∧ m53 (IntKind.i64.wrap (n54 + 1)) w73 < m53 n54 w55))))))))))) ∧ ((decide (n54 < p2)) = false → (I1 n18 (IntKind.i64.wrap (n3 + 1)) w55 ∧ m1 n18
    (IntKind.i64.wrap (n3 + 1)) w55 < m1 n2 n3 w4)))) ∧ ((decide (n52 ≥ 2)) = false → (I1 n18 (IntKind.i64.wrap (n3 + 1)) w51 ∧ m1 n18 (IntKind.i64.wrap (n3 + 1)) w51 < m1 n2 n3 w4)))))))))))) ∧ ((decide (n3 < 5)) = false
    → R (.returned (.bool false)) w4))
theorem sx86.ok {d : Option Addr} {d_n d_c : Nat} {i : Int} {p2 : Int} {R : Ending → World → Prop} {w : World} (h : sx86 d d_n d_c i p2 R w) : CallsW Try.prog 86 [.slice d d_n d_c, .int .i64 i, .int .i64 p2] w R :=
  callsW_of mix Try.func86 (by kernel_rfl) (by kernel_rfl) (Eq.mpr (by kernel_rfl : denFn Try.prog { named := [97], draws := [(5, { order := (.cons 0 (.cons 1 (.cons 2 (.cons 3 (.cons 4 (.cons 5 (.cons 6 (.cons 7 (.cons 8 (.cons 9 (.cons 10 (.cons 11 (.cons 12 (.cons 13 (.cons 14 (.cons 15 .nil)))))))))))))))), bars := [] }), (11, { order := (.cons 0 (.cons 1 (.cons 2 (.cons 3 (.cons 4 (.cons 5 (.cons 6 (.cons 7 (.cons 8 (.cons 9 (.cons 10 (.cons 11 (.cons 12 (.cons 13 (.cons 14 (.cons 15 (.cons 16 (.cons 17 .nil)))))))))))))))))), bars := [15, 17] }), (16, { order := (.cons 0 (.cons 1 (.cons 2 (.cons 3 (.cons 4 (.cons 5 (.cons 6 (.cons 7 (.cons 8 (.cons 9 (.cons 10 .nil))))))))))), bars := [9] }), (17, { order := (.cons 0 (.cons 1 (.cons 2 (.cons 3 (.cons 4 (.cons 5 (.cons 6 (.cons 7 (.cons 8 (.cons 9 (.cons 10 (.cons 11 (.cons 12 (.cons 13 (.cons 14 (.cons 15 (.cons 16 (.cons 17 .nil)))))))))))))))))), bars := [15, 17] }), (22, { order := (.cons 0 (.cons 1 (.cons 2 (.cons 3 (.cons 4 (.cons 5 (.cons 6 (.cons 7 (.cons 8 (.cons 9 (.cons 10 .nil))))))))))), bars := [9] }), (23, { order := (.cons 0 (.cons 1 (.cons 2 (.cons 3 (.cons 4 (.cons 5 (.cons 6 (.cons 7 (.cons 8 (.cons 9 (.cons 10 (.cons 11 (.cons 12 (.cons 13 (.cons 14 (.cons 15 (.cons 16 (.cons 17 .nil)))))))))))))))))), bars := [15, 17] })], loops := [(5, { slots := [(7, .int .i64)], cells := [] }), (14, { slots := [(9, .int .i64)], cells := [] }), (20, { slots := [(10, .int .i64)], cells := [] }), (3003, { slots := [(7, .int .i64), (8, .int .i64)], cells := [] })], cuts := [(7, { slots := [(7, .int .i64)], cells := [] }), (18, { slots := [], cells := [] })] } Try.f86 [.slice d d_n d_c, .int .i64 i, .int .i64 p2] R w = sx86 d d_n d_c i p2 R w) h)

/- slices.order2Ordered[uint64] -/
def sx104 (data : Option Addr) (data_n data_c : Nat) (a : Int) (b : Int) (swaps : Nat) (R : Ending → World → Prop) (w : World) : Prop :=
  ∀ w1, Grew w w1 → withSome data (fun d2 => (0 ≤ b ∧ b < (data_n : Nat)) ∧ ∃ (n3 : Int), w1.cell? (Addr.add d2 (b.toNat * 1)) = some (.int .u64 n3) ∧ withSome data (fun d4 => (0 ≤ a ∧ a < (data_n : Nat)) ∧ ∃ (n5 : Int),
    w1.cell? (Addr.add d4 (a.toNat * 1)) = some (.int .u64 n5) ∧ CallsW Try.prog 87 [.int .u64 n3, .int .u64 n5] w1 (RetR R fun u7 w6 => ∃ (b8 : Bool), u7 = .bool b8 ∧ ((b8 = true → ∃ (n10 : Int), w6.cell? ⟨swaps, 0,
    none⟩ = some (.int .i64 n10) ∧ RoomAt w6 ⟨swaps, 0, none⟩ 0 [.int .i64 (IntKind.i64.wrap (n10 + 1))] ∧ ∀ w11, w11 = setCells w6 ⟨swaps, 0, none⟩ 0 [.int .i64 (IntKind.i64.wrap (n10 + 1))] → R (.returned (.tuple #[.int
    .i64 b, .int .i64 a])) w11) ∧ (b8 = false → R (.returned (.tuple #[.int .i64 a, .int .i64 b])) w6)))))
theorem sx104.ok {data : Option Addr} {data_n data_c : Nat} {a : Int} {b : Int} {swaps : Nat} {R : Ending → World → Prop} {w : World} (h : sx104 data data_n data_c a b swaps R w) : CallsW Try.prog 104 [.slice data data_n data_c, .int .i64 a, .int .i64 b, .pointer (some ⟨swaps, 0, none⟩)] w R :=
  callsW_of mix Try.func104 (by kernel_rfl) (by kernel_rfl) (Eq.mpr (by kernel_rfl : denFn Try.prog { draws := [(1, { order := (.cons 0 (.cons 1 (.cons 2 (.cons 3 (.cons 4 (.cons 5 (.cons 6 (.cons 7 (.cons 8 .nil))))))))), bars := [8] })] } Try.f104 [.slice data data_n data_c, .int .i64 a, .int .i64 b, .pointer (some ⟨swaps, 0, none⟩)] R w = sx104 data data_n data_c a b swaps R w) h)

/- slices.medianOrdered[uint64] -/
def sx98 (data : Option Addr) (data_n data_c : Nat) (a : Int) (b : Int) (c : Int) (swaps : Nat) (R : Ending → World → Prop) (w : World) : Prop :=
  CallsW Try.prog 104 [.slice data data_n data_c, .int .i64 a, .int .i64 b, .pointer (some ⟨swaps, 0, none⟩)] w (RetR R fun u2 w1 => ∃ (n3 : Int) (n4 : Int), u2 = .tuple #[.int .i64 n3, .int .i64 n4] ∧ CallsW Try.prog 104
    [.slice data data_n data_c, .int .i64 n4, .int .i64 c, .pointer (some ⟨swaps, 0, none⟩)] w1 (RetR R fun u7 w6 => ∃ (n8 : Int) (n9 : Int), u7 = .tuple #[.int .i64 n8, .int .i64 n9] ∧ CallsW Try.prog 104 [.slice data
    data_n data_c, .int .i64 n3, .int .i64 n8, .pointer (some ⟨swaps, 0, none⟩)] w6 (RetR R fun u12 w11 => ∃ (n13 : Int) (n14 : Int), u12 = .tuple #[.int .i64 n13, .int .i64 n14] ∧ R (.returned (.int .i64 n14)) w11)))
theorem sx98.ok {data : Option Addr} {data_n data_c : Nat} {a : Int} {b : Int} {c : Int} {swaps : Nat} {R : Ending → World → Prop} {w : World} (h : sx98 data data_n data_c a b c swaps R w) : CallsW Try.prog 98 [.slice data data_n data_c, .int .i64 a, .int .i64 b, .int .i64 c, .pointer (some ⟨swaps, 0, none⟩)] w R :=
  callsW_of mix Try.func98 (by kernel_rfl) (by kernel_rfl) (Eq.mpr (by kernel_rfl : denFn Try.prog {} Try.f98 [.slice data data_n data_c, .int .i64 a, .int .i64 b, .int .i64 c, .pointer (some ⟨swaps, 0, none⟩)] R w = sx98 data data_n data_c a b c swaps R w) h)

/- slices.medianAdjacentOrdered[uint64] -/
def sx97 (data : Option Addr) (data_n data_c : Nat) (a : Int) (swaps : Nat) (R : Ending → World → Prop) (w : World) : Prop :=
  CallsW Try.prog 98 [.slice data data_n data_c, .int .i64 (IntKind.i64.wrap (a - 1)), .int .i64 a, .int .i64 (IntKind.i64.wrap (a + 1)), .pointer (some ⟨swaps, 0, none⟩)] w (RetR R fun u2 w1 => ∃ (n3 : Int), u2 = .int .i64
    n3 ∧ R (.returned (.int .i64 n3)) w1)
theorem sx97.ok {data : Option Addr} {data_n data_c : Nat} {a : Int} {swaps : Nat} {R : Ending → World → Prop} {w : World} (h : sx97 data data_n data_c a swaps R w) : CallsW Try.prog 97 [.slice data data_n data_c, .int .i64 a, .pointer (some ⟨swaps, 0, none⟩)] w R :=
  callsW_of mix Try.func97 (by kernel_rfl) (by kernel_rfl) (Eq.mpr (by kernel_rfl : denFn Try.prog {} Try.f97 [.slice data data_n data_c, .int .i64 a, .pointer (some ⟨swaps, 0, none⟩)] R w = sx97 data data_n data_c a swaps R w) h)

/- slices.choosePivotOrdered[uint64] -/
def sx84 (data : Option Addr) (data_n data_c : Nat) (a : Int) (b : Int) (R : Ending → World → Prop) (w : World) : Prop :=
  ∀ (b1 : Nat) (w2 : World), Alloc w w2 b1 (.cells [.int .i64 0].toArray 3) → (((4 : Int) = 0 → R (.panicked (divPanic Try.prog)) w2) ∧ ((4 : Int) ≠ 0 → ∀ n3 : Int, n3 = IntKind.i64.wrap (Int.tdiv (IntKind.i64.wrap (b - a))
    4) → ∀ n4 : Int, n4 = IntKind.i64.wrap (a + (IntKind.i64.wrap (n3 * 1))) → (((4 : Int) = 0 → R (.panicked (divPanic Try.prog)) w2) ∧ ((4 : Int) ≠ 0 → ∀ n5 : Int, n5 = IntKind.i64.wrap (Int.tdiv (IntKind.i64.wrap (b -
    a)) 4) → ∀ n6 : Int, n6 = IntKind.i64.wrap (a + (IntKind.i64.wrap (n5 * 2))) → (((4 : Int) = 0 → R (.panicked (divPanic Try.prog)) w2) ∧ ((4 : Int) ≠ 0 → ∀ n7 : Int, n7 = IntKind.i64.wrap (Int.tdiv (IntKind.i64.wrap
    (b - a)) 4) → ∀ n8 : Int, n8 = IntKind.i64.wrap (a + (IntKind.i64.wrap (n7 * 3))) → (((decide ((IntKind.i64.wrap (b - a)) ≥ 8)) = true → (((decide ((IntKind.i64.wrap (b - a)) ≥ 50)) = true → CallsW Try.prog 97 [.slice
    data data_n data_c, .int .i64 n4, .pointer (some ⟨b1, 0, none⟩)] w2 (RetR R fun u10 w9 => ∃ (n11 : Int), u10 = .int .i64 n11 ∧ CallsW Try.prog 97 [.slice data data_n data_c, .int .i64 n6, .pointer (some ⟨b1, 0,
    none⟩)] w9 (RetR R fun u14 w13 => ∃ (n15 : Int), u14 = .int .i64 n15 ∧ CallsW Try.prog 97 [.slice data data_n data_c, .int .i64 n8, .pointer (some ⟨b1, 0, none⟩)] w13 (RetR R fun u18 w17 => ∃ (n19 : Int), u18 = .int
    .i64 n19 ∧ CallsW Try.prog 98 [.slice data data_n data_c, .int .i64 n11, .int .i64 n15, .int .i64 n19, .pointer (some ⟨b1, 0, none⟩)] w17 (RetR R fun u22 w21 => ∃ (n23 : Int), u22 = .int .i64 n23 ∧ ∃ (n25 : Int),
    w21.cell? ⟨b1, 0, none⟩ = some (.int .i64 n25) ∧ (((n25 == 0) = true → R (.returned (.tuple #[.int .i64 n23, .int .i64 1])) w21) ∧ ((n25 == 0) = false → (((n25 == 12) = true → R (.returned (.tuple #[.int .i64 n23,
    .int .i64 2])) w21) ∧ ((n25 == 12) = false → R (.returned (.tuple #[.int .i64 n23, .int .i64 0])) w21))))))))) ∧ ((decide ((IntKind.i64.wrap (b - a)) ≥ 50)) = false → CallsW Try.prog 98 [.slice data data_n data_c,
    .int .i64 n4, .int .i64 n6, .int .i64 n8, .pointer (some ⟨b1, 0, none⟩)] w2 (RetR R fun u27 w26 => ∃ (n28 : Int), u27 = .int .i64 n28 ∧ ∃ (n30 : Int), w26.cell? ⟨b1, 0, none⟩ = some (.int .i64 n30) ∧ (((n30 == 0) =
    true → R (.returned (.tuple #[.int .i64 n28, .int .i64 1])) w26) ∧ ((n30 == 0) = false → (((n30 == 12) = true → R (.returned (.tuple #[.int .i64 n28, .int .i64 2])) w26) ∧ ((n30 == 12) = false → R (.returned (.tuple
    #[.int .i64 n28, .int .i64 0])) w26)))))))) ∧ ((decide ((IntKind.i64.wrap (b - a)) ≥ 8)) = false → ∃ (n31 : Int), w2.cell? ⟨b1, 0, none⟩ = some (.int .i64 n31) ∧ (((n31 == 0) = true → R (.returned (.tuple #[.int .i64
    n6, .int .i64 1])) w2) ∧ ((n31 == 0) = false → (((n31 == 12) = true → R (.returned (.tuple #[.int .i64 n6, .int .i64 2])) w2) ∧ ((n31 == 12) = false → R (.returned (.tuple #[.int .i64 n6, .int .i64 0])) w2))))))))))))
theorem sx84.ok {data : Option Addr} {data_n data_c : Nat} {a : Int} {b : Int} {R : Ending → World → Prop} {w : World} (h : sx84 data data_n data_c a b R w) : CallsW Try.prog 84 [.slice data data_n data_c, .int .i64 a, .int .i64 b] w R :=
  callsW_of mix Try.func84 (by kernel_rfl) (by kernel_rfl) (Eq.mpr (by kernel_rfl : denFn Try.prog { named := [18, 20, 23, 25, 28, 30] } Try.f84 [.slice data data_n data_c, .int .i64 a, .int .i64 b] R w = sx84 data data_n data_c a b R w) h)

open Go.Sort

theorem scanSorted_go_U {d : Array Int} {b i : Nat} (h : i < b) (hl : ltInt d[i]! d[i - 1]! = false) : scanSorted ltInt d b i = scanSorted ltInt d b (i + 1) := by
  rw [scanSorted, if_pos (by simp [h, hl])]
theorem scanSorted_end_U {d : Array Int} {b i : Nat} (h : i < b → ltInt d[i]! d[i - 1]! = true) : scanSorted ltInt d b i = i := by
  rw [scanSorted, if_neg]
  intro h'
  simp only [Bool.and_eq_true, decide_eq_true_eq, Bool.not_eq_true'] at h'
  rw [h h'.1] at h'; exact absurd h'.2 (by simp)
theorem scanSorted_range_U (d : Array Int) (b : Nat) : ∀ (n i : Nat), b - i ≤ n → i ≤ b → i ≤ scanSorted ltInt d b i ∧ scanSorted ltInt d b i ≤ b
  | n, i, hn, hi => by
    by_cases h : i < b ∧ ltInt d[i]! d[i - 1]! = false
    · rw [scanSorted_go_U h.1 h.2]
      cases n with
      | zero => omega
      | succ n => have := scanSorted_range_U d b n (i + 1) (by omega) (by omega); omega
    · rw [scanSorted_end_U fun hh => by cases hc : ltInt d[i]! d[i - 1]! with | true => rfl | false => exact absurd ⟨hh, hc⟩ h]; omega
theorem shiftDown_size_U : ∀ (j : Nat) (d : Array Int), (shiftDown ltInt j d).size = d.size
  | 0, d => rfl
  | j + 1, d => by
    rw [shiftDown]; split
    · rfl
    · rw [shiftDown_size_U j, swp_size']
theorem shiftUp_size_U (b : Nat) : ∀ (n j : Nat) (d : Array Int), b - j ≤ n → (shiftUp ltInt b j d).size = d.size
  | n, j, d, hn => by
    rw [shiftUp]; split
    · split
      · rfl
      · cases n with
        | zero => omega
        | succ n => rw [shiftUp_size_U b n (j + 1) _ (by omega), swp_size']
    · rfl
def fDown_U (a i : Nat) (d : Array Int) : Array Int := if i - a ≥ 2 then shiftDown ltInt (i - 1) d else d
def fUp_U (b i : Nat) (d : Array Int) : Array Int := if b - i ≥ 2 then shiftUp ltInt b (i + 1) d else d
theorem partialIns_eq_U (a b s i : Nat) (d : Array Int) : partialIns ltInt a b (s + 1) i d =
    if scanSorted ltInt d b i = b then (d, true) else if b - a < 50 then (d, false) else
      partialIns ltInt a b s (scanSorted ltInt d b i) (fUp_U b (scanSorted ltInt d b i) (fDown_U a (scanSorted ltInt d b i) (swp d (scanSorted ltInt d b i) (scanSorted ltInt d b i - 1)))) := rfl

set_option maxHeartbeats 1000000 in
theorem par_U_ok {B : Nat} {p : Option Addr} {n c a b : Nat} {d : Array Int} {w : World} (h : Sr_U B p n c w d) (hab : a < b) (hb : b ≤ d.size) (hsz : d.size < 4611686018427387904) :
    CallsW Try.prog 86 [.slice p n c, .int .i64 a, .int .i64 b] w (Rets (Srt_U B p n c w (.bool (partialInsertionSort ltInt d a b).2) (partialInsertionSort ltInt d a b).1)) := by
  refine sx86.ok ?_
  unfold sx86
  have e1 : IntKind.i64.wrap ((a : Int) + 1) = ((a + 1 : Nat) : Int) := by rw [IntKind.wrap_i64]; omega
  have e2 : IntKind.i64.wrap ((b : Int) - (a : Int)) = ((b - a : Nat) : Int) := by rw [IntKind.wrap_i64]; omega
  rw [e1, e2]
  obtain ⟨r, hr⟩ : ∃ r, r = partialInsertionSort ltInt d a b := ⟨_, rfl⟩
  rw [← hr]
  refine ⟨fun x y w' => ∃ (i s : Nat) (d' : Array Int), x = i ∧ y = s ∧ a + 1 ≤ i ∧ i ≤ b ∧ s ≤ 5 ∧ d'.size = d.size ∧ Sr_U B p n c w' d' ∧ partialIns ltInt a b (5 - s) i d' = r ∧ Upd (Blk p) w w', fun x y _ => 5 - y.toNat, ⟨a + 1, 0, d, rfl, rfl, by omega, by omega, by omega, rfl, h, hr.symm, Upd.refl _ _⟩, ?_⟩
  rintro x y w4 ⟨i, s, d1, rfl, rfl, hi, hib, hs5, hs1, h4, he, hu4⟩
  refine ⟨fun hlt => ?_, fun hge => ?_⟩
  · simp only [decide_eq_true_eq] at hlt
    obtain ⟨m, hm⟩ : ∃ m, 5 - s = m + 1 := ⟨5 - s - 1, by omega⟩
    rw [hm, partialIns_eq_U] at he
    have hrange := scanSorted_range_U d1 b (b - i) i (Nat.le_refl _) hib
    obtain ⟨i2, hi2⟩ : ∃ i2, i2 = scanSorted ltInt d1 b i := ⟨_, rfl⟩
    rw [← hi2] at he hrange
    refine ⟨fun x w' => x = (i2 : Nat) ∧ Sr_U B p n c w' d1 ∧ Upd (Blk p) w w', ⟨fun x w' => ∃ k : Nat, x = k ∧ a + 1 ≤ k ∧ k ≤ b ∧ scanSorted ltInt d1 b k = i2 ∧ Sr_U B p n c w' d1 ∧ Upd (Blk p) w w', fun x _ => b - x.toNat, ⟨i, rfl, hi, hib, hi2.symm, h4, hu4⟩, ?_⟩, ?_⟩
    · rintro x w8 ⟨k, rfl, hk, hkb, hek, h8, hu8⟩ w9 hg9
      have h9 := h8.grew hg9
      refine ⟨fun hle => ?_, fun hgt => ?_⟩
      · simp only [decide_eq_true_eq] at hle
        have e3 : IntKind.i64.wrap ((k : Int) + 1) = ((k + 1 : Nat) : Int) := by rw [IntKind.wrap_i64]; omega
        have e4 : IntKind.i64.wrap ((k : Int) - 1) = ((k - 1 : Nat) : Int) := by rw [IntKind.wrap_i64]; omega
        rw [e3, e4]
        refine Ar.rd h9 (i := k) rfl (by omega) fun q1 => Ar.rd h9 (i := k - 1) rfl (by omega) fun q2 => less_U_use ⟨_, rfl, sameB_refl _ _, fun hl => ?_, fun hl => ?_⟩
        · exact ⟨⟨k + 1, rfl, by omega, by omega, (scanSorted_go_U (i := k) (by omega) (by simpa using hl)).symm.trans hek, h9, hu8.then_grew hg9⟩, by show b - (((k + 1 : Nat) : Int)).toNat < b - ((k : Int)).toNat; omega⟩
        · rw [scanSorted_end_U (fun _ => by simpa using hl)] at hek
          exact ⟨by rw [hek], h9, hu8.then_grew hg9⟩
      · simp only [decide_eq_false_iff_not] at hgt
        rw [scanSorted_end_U (fun hh => by omega)] at hek
        exact ⟨by rw [hek], h9, hu8.then_grew hg9⟩
    rintro x w19 ⟨rfl, h19, hu19⟩
    refine ⟨fun heq => ?_, fun hne => ⟨fun h50 => ?_, fun h50 w20 hg20 => ?_⟩⟩
    · have : i2 = b := by simp only [beq_iff_eq] at heq; omega
      rw [if_pos this] at he
      subst he
      exact ⟨_, rfl, rfl, h19, hu19⟩
    · have h1 : i2 ≠ b := by simp only [beq_eq_false_iff_ne, ne_eq] at hne; omega
      simp only [decide_eq_true_eq] at h50
      rw [if_neg h1, if_pos (by omega)] at he
      subst he
      exact ⟨_, rfl, rfl, h19, hu19⟩
    have h1 : i2 ≠ b := by simp only [beq_eq_false_iff_ne, ne_eq] at hne; omega
    simp only [decide_eq_false_iff_not] at h50
    rw [if_neg h1, if_neg (by omega)] at he
    have e4 : IntKind.i64.wrap ((i2 : Int) - 1) = ((i2 - 1 : Nat) : Int) := by rw [IntKind.wrap_i64]; omega
    have e5 : IntKind.i64.wrap ((i2 : Int) + 1) = ((i2 + 1 : Nat) : Int) := by rw [IntKind.wrap_i64]; omega
    have e6 : IntKind.i64.wrap ((i2 : Int) - (a : Int)) = ((i2 - a : Nat) : Int) := by rw [IntKind.wrap_i64]; omega
    have e7 : IntKind.i64.wrap ((b : Int) - (i2 : Int)) = ((b - i2 : Nat) : Int) := by rw [IntKind.wrap_i64]; omega
    have e8 : IntKind.i64.wrap ((s : Int) + 1) = ((s + 1 : Nat) : Int) := by rw [IntKind.wrap_i64]; omega
    rw [e4, e5, e6, e8]
    have h20 := h19.grew hg20
    refine Ar.rd h20 (i := i2 - 1) rfl (by omega) fun q3 => Ar.rd h20 (i := i2) rfl (by omega) fun q4 => Ar.st h20 (i := i2) rfl (by omega) fun q5 w26 h26 hu26 => Ar.st h26 (i := i2 - 1) rfl (by simp; omega) fun q6 w28 h28 hu28 => ?_
    have hu28 := ((hu19.then_grew hg20).trans hu26).trans hu28
    obtain ⟨d2, hd2⟩ : ∃ d2, d2 = swp d1 i2 (i2 - 1) := ⟨_, rfl⟩
    have h28 : Sr_U B p n c w28 d2 := by rw [hd2]; exact h28
    have hs2 : d2.size = d.size := by rw [hd2, swp_size']; exact hs1
    rw [← hd2] at he
    refine ⟨fun w' => Sr_U B p n c w' (fDown_U a i2 d2) ∧ Upd (Blk p) w w', ⟨fun hge => ?_, fun hlt => ⟨?_, hu28⟩⟩, ?_⟩
    · simp only [decide_eq_true_eq, ge_iff_le] at hge
      have hfd : fDown_U a i2 d2 = shiftDown ltInt (i2 - 1) d2 := by rw [fDown_U, if_pos (by omega)]
      refine ⟨fun x w' => ∃ (j : Nat) (d3 : Array Int), x = j ∧ j ≤ i2 - 1 ∧ d3.size = d.size ∧ Sr_U B p n c w' d3 ∧ shiftDown ltInt j d3 = fDown_U a i2 d2 ∧ Upd (Blk p) w w', fun x _ => x.toNat, ⟨i2 - 1, d2, rfl, Nat.le_refl _, hs2, h28, hfd.symm, hu28⟩, ?_⟩
      rintro x w32 ⟨j, d3, rfl, hj, hs3, h32, he3, hu32⟩
      refine ⟨fun hge1 w33 hg33 => ?_, fun hlt1 => ?_⟩
      · simp only [decide_eq_true_eq, ge_iff_le] at hge1
        obtain ⟨j, rfl⟩ : ∃ j', j = j' + 1 := ⟨j - 1, by omega⟩
        have e9 : IntKind.i64.wrap (((j + 1 : Nat) : Int) - 1) = (j : Int) := by rw [IntKind.wrap_i64]; omega
        rw [e9]
        have h33 := h32.grew hg33
        rw [shiftDown] at he3
        refine Ar.rd h33 (i := j + 1) rfl (by omega) fun q1 => Ar.rd h33 (i := j) rfl (by omega) fun q2 => less_U_use ⟨_, rfl, fun hl => ?_, fun hl w42 hg42 => ?_⟩
        · rw [if_pos hl] at he3
          subst he3
          exact ⟨h33, hu32.then_grew hg33⟩
        · rw [if_neg (by rw [hl]; simp)] at he3
          have h42 := h33.grew hg42
          refine Ar.rd h42 (i := j) rfl (by omega) fun q3 => Ar.rd h42 (i := j + 1) rfl (by omega) fun q4 => Ar.st h42 (i := j + 1) rfl (by omega) fun q5 w48 h48 hu48 => Ar.st h48 (i := j) rfl (by simp; omega) fun q6 w50 h50 hu50 => ?_
          exact ⟨⟨j, _, rfl, by omega, by rw [← hs3]; exact swp_size' d3 (j + 1) j, h50, he3, (((hu32.then_grew hg33).then_grew hg42).trans hu48).trans hu50⟩, by show ((j : Int)).toNat < (((j + 1 : Nat) : Int)).toNat; omega⟩
      · simp only [decide_eq_false_iff_not, ge_iff_le] at hlt1
        have : j = 0 := by omega
        subst this
        rw [shiftDown] at he3
        subst he3
        exact ⟨h32, hu32⟩
    · simp only [decide_eq_false_iff_not, ge_iff_le] at hlt
      have hfd : fDown_U a i2 d2 = d2 := by rw [fDown_U, if_neg (by omega)]
      rw [hfd]; exact h28
    rintro w51 ⟨h51, hu51⟩ n52 rfl
    rw [e7]
    obtain ⟨d4, hd4⟩ : ∃ d4, d4 = fDown_U a i2 d2 := ⟨_, rfl⟩
    rw [← hd4] at h51 he
    have hs4 : d4.size = d.size := by
      rw [hd4, fDown_U]; split
      · rw [shiftDown_size_U, hs2]
      · exact hs2
    have hm5 : m = 5 - (s + 1) := by omega
    have hnext : ∀ (d5 : Array Int) (w' : World), d5.size = d.size → Sr_U B p n c w' d5 → fUp_U b i2 d4 = d5 → Upd (Blk p) w w' → (∃ (i s' : Nat) (d' : Array Int), (i2 : Int) = i ∧ ((s + 1 : Nat) : Int) = s' ∧ a + 1 ≤ i ∧ i ≤ b ∧ s' ≤ 5 ∧ d'.size = d.size ∧ Sr_U B p n c w' d' ∧ partialIns ltInt a b (5 - s') i d' = r ∧ Upd (Blk p) w w') ∧ 5 - (((s + 1 : Nat) : Int)).toNat < 5 - ((s : Int)).toNat := by
      intro d5 w' hs5' h5 hf hu5
      rw [hf, hm5] at he
      exact ⟨⟨i2, s + 1, d5, rfl, rfl, by omega, by omega, by omega, hs5', h5, he, hu5⟩, by omega⟩
    refine ⟨fun hge => ?_, fun hlt => ?_⟩
    · simp only [decide_eq_true_eq, ge_iff_le] at hge
      have hfu : fUp_U b i2 d4 = shiftUp ltInt b (i2 + 1) d4 := by rw [fUp_U, if_pos (by omega)]
      refine ⟨fun x w' => ∃ (j : Nat) (d3 : Array Int), x = j ∧ i2 + 1 ≤ j ∧ j ≤ b ∧ d3.size = d.size ∧ Sr_U B p n c w' d3 ∧ shiftUp ltInt b j d3 = fUp_U b i2 d4 ∧ Upd (Blk p) w w', fun x _ => b - x.toNat, ⟨i2 + 1, d4, rfl, Nat.le_refl _, by omega, hs4, h51, hfu.symm, hu51⟩, ?_⟩
      rintro x w55 ⟨j, d3, rfl, hj, hjb, hs3, h55, he3, hu55⟩
      refine ⟨fun hlt1 w56 hg56 => ?_, fun hge1 => ?_⟩
      · simp only [decide_eq_true_eq] at hlt1
        have e9 : IntKind.i64.wrap ((j : Int) - 1) = ((j - 1 : Nat) : Int) := by rw [IntKind.wrap_i64]; omega
        have e10 : IntKind.i64.wrap ((j : Int) + 1) = ((j + 1 : Nat) : Int) := by rw [IntKind.wrap_i64]; omega
        rw [e9, e10]
        have h56 := h55.grew hg56
        rw [shiftUp, if_pos (by omega)] at he3
        refine Ar.rd h56 (i := j) rfl (by omega) fun q1 => Ar.rd h56 (i := j - 1) rfl (by omega) fun q2 => less_U_use ⟨_, rfl, fun hl => ?_, fun hl w65 hg65 => ?_⟩
        · rw [if_pos hl] at he3
          exact hnext d3 w56 hs3 h56 he3.symm (hu55.then_grew hg56)
        · rw [if_neg (by rw [hl]; simp)] at he3
          have h65 := h56.grew hg65
          refine Ar.rd h65 (i := j - 1) rfl (by omega) fun q3 => Ar.rd h65 (i := j) rfl (by omega) fun q4 => Ar.st h65 (i := j) rfl (by omega) fun q5 w71 h71 hu71 => Ar.st h71 (i := j - 1) rfl (by simp; omega) fun q6 w73 h73 hu73 => ?_
          exact ⟨⟨j + 1, _, rfl, by omega, by omega, by rw [← hs3]; exact swp_size' d3 j (j - 1), h73, he3, (((hu55.then_grew hg56).then_grew hg65).trans hu71).trans hu73⟩, by show b - (((j + 1 : Nat) : Int)).toNat < b - ((j : Int)).toNat; omega⟩
      · simp only [decide_eq_false_iff_not] at hge1
        rw [shiftUp, if_neg (by omega)] at he3
        exact hnext d3 w55 hs3 h55 he3.symm hu55
    · simp only [decide_eq_false_iff_not, ge_iff_le] at hlt
      exact hnext d4 w51 hs4 h51 (by rw [fUp_U, if_neg (by omega)]) hu51
  · simp only [decide_eq_false_iff_not] at hge
    have : s = 5 := by omega
    subst this
    rw [Nat.sub_self, partialIns] at he
    subst he
    exact ⟨_, rfl, rfl, h4, hu4⟩
end Go.Proofs.Ytoljpkdokpinhaa
