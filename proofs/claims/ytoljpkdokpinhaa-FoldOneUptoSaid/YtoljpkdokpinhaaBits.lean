/- What math/bits.Len hands back. Conditions: none. -/
import Derived.Test.YtoljpkdokpinhaaProg
import Derived.Test.YtoljpkdokpinhaaBase
import Derived.Test.YtoljpkdokpinhaaSxN
import Derived.Test.YtoljpkdokpinhaaSxV
namespace Go.Proofs.Ytoljpkdokpinhaa
open Go.Sx
set_option maxRecDepth 100000
set_option linter.unusedVariables false
set_option linter.unusedSimpArgs false
/- math/bits.Len64 -/
def sx91 (x : Int) (R : Ending → World → Prop) (w : World) : Prop :=
  (((decide (x ≥ 4294967296)) = true → 0 ≤ (32 : Int) ∧ ∀ n1 : Int, n1 = Int.fdiv x (2 ^ (min (32 : Int).toNat (IntKind.bits .u64))) → (((decide (n1 ≥ 65536)) = true → 0 ≤ (16 : Int) ∧ ∀ n2 : Int, n2 = Int.fdiv n1 (2 ^ (min
    (16 : Int).toNat (IntKind.bits .u64))) → ∀ n3 : Int, n3 = IntKind.i64.wrap ((32 : Int) + 16) → (((decide (n2 ≥ 256)) = true → 0 ≤ (8 : Int) ∧ ∀ n4 : Int, n4 = Int.fdiv n2 (2 ^ (min (8 : Int).toNat (IntKind.bits
    .u64))) → ∀ n5 : Int, n5 = IntKind.i64.wrap (n3 + 8) → ∃ (b6 : UInt8), (0 ≤ (IntKind.u8.wrap n4) ∧ ((ByteArray.mk (#[0, 1, 2, 2, 3, 3, 3, 3, 4, 4, 4, 4, 4, 4, 4, 4, 5, 5, 5, 5, 5, 5, 5, 5, 5, 5, 5, 5, 5, 5, 5, 5, 6,
    6, 6, 6, 6, 6, 6, 6, 6, 6, 6, 6, 6, 6, 6, 6, 6, 6, 6, 6, 6, 6, 6, 6, 6, 6, 6, 6, 6, 6, 6, 6, 7, 7, 7, 7, 7, 7, 7, 7, 7, 7, 7, 7, 7, 7, 7, 7, 7, 7, 7, 7, 7, 7, 7, 7, 7, 7, 7, 7, 7, 7, 7, 7, 7, 7, 7, 7, 7, 7, 7, 7, 7,
    7, 7, 7, 7, 7, 7, 7, 7, 7, 7, 7, 7, 7, 7, 7, 7, 7, 7, 7, 7, 7, 7, 7, 8, 8, 8, 8, 8, 8, 8, 8, 8, 8, 8, 8, 8, 8, 8, 8, 8, 8, 8, 8, 8, 8, 8, 8, 8, 8, 8, 8, 8, 8, 8, 8, 8, 8, 8, 8, 8, 8, 8, 8, 8, 8, 8, 8, 8, 8, 8, 8, 8,
    8, 8, 8, 8, 8, 8, 8, 8, 8, 8, 8, 8, 8, 8, 8, 8, 8, 8, 8, 8, 8, 8, 8, 8, 8, 8, 8, 8, 8, 8, 8, 8, 8, 8, 8, 8, 8, 8, 8, 8, 8, 8, 8, 8, 8, 8, 8, 8, 8, 8, 8, 8, 8, 8, 8, 8, 8, 8, 8, 8, 8, 8, 8, 8, 8, 8, 8, 8, 8, 8, 8, 8,
    8, 8, 8, 8, 8, 8, 8]) : ByteArray)).data[(IntKind.u8.wrap n4).toNat]? = some b6) ∧ ∀ n7 : Int, n7 = IntKind.i64.wrap (b6.toNat : Int) → ∀ n8 : Int, n8 = IntKind.i64.wrap (n5 + n7) → R (.returned (.int .i64 n8)) w) ∧
    ((decide (n2 ≥ 256)) = false → ∃ (b9 : UInt8), (0 ≤ (IntKind.u8.wrap n2) ∧ ((ByteArray.mk (#[0, 1, 2, 2, 3, 3, 3, 3, 4, 4, 4, 4, 4, 4, 4, 4, 5, 5, 5, 5, 5, 5, 5, 5, 5, 5, 5, 5, 5, 5, 5, 5, 6, 6, 6, 6, 6, 6, 6, 6, 6,
    6, 6, 6, 6, 6, 6, 6, 6, 6, 6, 6, 6, 6, 6, 6, 6, 6, 6, 6, 6, 6, 6, 6, 7, 7, 7, 7, 7, 7, 7, 7, 7, 7, 7, 7, 7, 7, 7, 7, 7, 7, 7, 7, 7, 7, 7, 7, 7, 7, 7, 7, 7, 7, 7, 7, 7, 7, 7, 7, 7, 7, 7, 7, 7, 7, 7, 7, 7, 7, 7, 7, 7,
    7, 7, 7, 7, 7, 7, 7, 7, 7, 7, 7, 7, 7, 7, 7, 8, 8, 8, 8, 8, 8, 8, 8, 8, 8, 8, 8, 8, 8, 8, 8, 8, 8, 8, 8, 8, 8, 8, 8, 8, 8, 8, 8, 8, 8, 8, 8, 8, 8, 8, 8, 8, 8, 8, 8, 8, 8, 8, 8, 8, 8, 8, 8, 8, 8, 8, 8, 8, 8, 8, 8, 8,
    8, 8, 8, 8, 8, 8, 8, 8, 8, 8, 8, 8, 8, 8, 8, 8, 8, 8, 8, 8, 8, 8, 8, 8, 8, 8, 8, 8, 8, 8, 8, 8, 8, 8, 8, 8, 8, 8, 8, 8, 8, 8, 8, 8, 8, 8, 8, 8, 8, 8, 8, 8, 8, 8, 8, 8, 8, 8, 8, 8, 8, 8, 8, 8, 8, 8, 8, 8, 8, 8, 8]) :
    ByteArray)).data[(IntKind.u8.wrap n2).toNat]? = some b9) ∧ ∀ n10 : Int, n10 = IntKind.i64.wrap (b9.toNat : Int) → ∀ n11 : Int, n11 = IntKind.i64.wrap (n3 + n10) → R (.returned (.int .i64 n11)) w))) ∧ ((decide (n1 ≥
    65536)) = false → (((decide (n1 ≥ 256)) = true → 0 ≤ (8 : Int) ∧ ∀ n12 : Int, n12 = Int.fdiv n1 (2 ^ (min (8 : Int).toNat (IntKind.bits .u64))) → ∀ n13 : Int, n13 = IntKind.i64.wrap ((32 : Int) + 8) → ∃ (b14 : UInt8),
    (0 ≤ (IntKind.u8.wrap n12) ∧ ((ByteArray.mk (#[0, 1, 2, 2, 3, 3, 3, 3, 4, 4, 4, 4, 4, 4, 4, 4, 5, 5, 5, 5, 5, 5, 5, 5, 5, 5, 5, 5, 5, 5, 5, 5, 6, 6, 6, 6, 6, 6, 6, 6, 6, 6, 6, 6, 6, 6, 6, 6, 6, 6, 6, 6, 6, 6, 6, 6, 6,
    6, 6, 6, 6, 6, 6, 6, 7, 7, 7, 7, 7, 7, 7, 7, 7, 7, 7, 7, 7, 7, 7, 7, 7, 7, 7, 7, 7, 7, 7, 7, 7, 7, 7, 7, 7, 7, 7, 7, 7, 7, 7, 7, 7, 7, 7, 7, 7, 7, 7, 7, 7, 7, 7, 7, 7, 7, 7, 7, 7, 7, 7, 7, 7, 7, 7, 7, 7, 7, 7, 7, 8,
    8, 8, 8, 8, 8, 8, 8, 8, 8, 8, 8, 8, 8, 8, 8, 8, 8, 8, 8, 8, 8, 8, 8, 8, 8, 8, 8, 8, 8, 8, 8, 8, 8, 8, 8, 8, 8, 8, 8, 8, 8, 8, 8, 8, 8, 8, 8, 8, 8, 8, 8, 8, 8, 8, 8, 8, 8, 8, 8, 8, 8, 8, 8, 8, 8, 8, 8, 8, 8, 8, 8, 8,
    8, 8, 8, 8, 8, 8, 8, 8, 8, 8, 8, 8, 8, 8, 8, 8, 8, 8, 8, 8, 8, 8, 8, 8, 8, 8, 8, 8, 8, 8, 8, 8, 8, 8, 8, 8, 8, 8, 8, 8, 8, 8, 8, 8, 8, 8, 8, 8, 8, 8, 8, 8, 8, 8, 8]) : ByteArray)).data[(IntKind.u8.wrap n12).toNat]? =
    some b14) ∧ ∀ n15 : Int, n15 = IntKind.i64.wrap (b14.toNat : Int) → ∀ n16 : Int, n16 = IntKind.i64.wrap (n13 + n15) → R (.returned (.int .i64 n16)) w) ∧ ((decide (n1 ≥ 256)) = false → ∃ (b17 : UInt8), (0 ≤
    (IntKind.u8.wrap n1) ∧ ((ByteArray.mk (#[0, 1, 2, 2, 3, 3, 3, 3, 4, 4, 4, 4, 4, 4, 4, 4, 5, 5, 5, 5, 5, 5, 5, 5, 5, 5, 5, 5, 5, 5, 5, 5, 6, 6, 6, 6, 6, 6, 6, 6, 6, 6, 6, 6, 6, 6, 6, 6, 6, 6, 6, 6, 6, 6, 6, 6, 6, 6, 6,
    6, 6, 6, 6, 6, 7, 7, 7, 7, 7, 7, 7, 7, 7, 7, 7, 7, 7, 7, 7, 7, 7, 7, 7, 7, 7, 7, 7, 7, 7, 7, 7, 7, 7, 7, 7, 7, 7, 7, 7, 7, 7, 7, 7, 7, 7, 7, 7, 7, 7, 7, 7, 7, 7, 7, 7, 7, 7, 7, 7, 7, 7, 7, 7, 7, 7, 7, 7, 7, 8, 8, 8,
    8, 8, 8, 8, 8, 8, 8, 8, 8, 8, 8, 8, 8, 8, 8, 8, 8, 8, 8, 8, 8, 8, 8, 8, 8, 8, 8, 8, 8, 8, 8, 8, 8, 8, 8, 8, 8, 8, 8, 8, 8, 8, 8, 8, 8, 8, 8, 8, 8, 8, 8, 8, 8, 8, 8, 8, 8, 8, 8, 8, 8, 8, 8, 8, 8, 8, 8, 8, 8, 8, 8, 8,
    8, 8, 8, 8, 8, 8, 8, 8, 8, 8, 8, 8, 8, 8, 8, 8, 8, 8, 8, 8, 8, 8, 8, 8, 8, 8, 8, 8, 8, 8, 8, 8, 8, 8, 8, 8, 8, 8, 8, 8, 8, 8, 8, 8, 8, 8, 8, 8, 8, 8, 8, 8, 8]) : ByteArray)).data[(IntKind.u8.wrap n1).toNat]? = some
    b17) ∧ ∀ n18 : Int, n18 = IntKind.i64.wrap (b17.toNat : Int) → ∀ n19 : Int, n19 = IntKind.i64.wrap ((32 : Int) + n18) → R (.returned (.int .i64 n19)) w))))) ∧ ((decide (x ≥ 4294967296)) = false → (((decide (x ≥
    65536)) = true → 0 ≤ (16 : Int) ∧ ∀ n20 : Int, n20 = Int.fdiv x (2 ^ (min (16 : Int).toNat (IntKind.bits .u64))) → ∀ n21 : Int, n21 = IntKind.i64.wrap ((0 : Int) + 16) → (((decide (n20 ≥ 256)) = true → 0 ≤ (8 : Int) ∧
    ∀ n22 : Int, n22 = Int.fdiv n20 (2 ^ (min (8 : Int).toNat (IntKind.bits .u64))) → ∀ n23 : Int, n23 = IntKind.i64.wrap (n21 + 8) → ∃ (b24 : UInt8), (0 ≤ (IntKind.u8.wrap n22) ∧ ((ByteArray.mk (#[0, 1, 2, 2, 3, 3, 3, 3,
    4, 4, 4, 4, 4, 4, 4, 4, 5, 5, 5, 5, 5, 5, 5, 5, 5, 5, 5, 5, 5, 5, 5, 5, 6, 6, 6, 6, 6, 6, 6, 6, 6, 6, 6, 6, 6, 6, 6, 6, 6, 6, 6, 6, 6, 6, 6, 6, 6, 6, 6, 6, 6, 6, 6, 6, 7, 7, 7, 7, 7, 7, 7, 7, 7, 7, 7, 7, 7, 7, 7, 7,
    7, 7, 7, 7, 7, 7, 7, 7, 7, 7, 7, 7, 7, 7, 7, 7, 7, 7, 7, 7, 7, 7, 7, 7, 7, 7, 7, 7, 7, 7, 7, 7, 7, 7, 7, 7, 7, 7, 7, 7, 7, 7, 7, 7, 7, 7, 7, 7, 8, 8, 8, 8, 8, 8, 8, 8, 8, 8, 8, 8, 8, 8, 8, 8, 8, 8, 8, 8, 8, 8, 8, 8,
    8, 8, 8, 8, 8, 8, 8, 8, 8, 8, 8, 8, 8, 8, 8, 8, 8, 8, 8, 8, 8, 8, 8, 8, 8, 8, 8, 8, 8, 8, 8, 8, 8, 8, 8, 8, 8, 8, 8, 8, 8, 8, 8, 8, 8, 8, 8, 8, 8, 8, 8, 8, 8, 8, 8, 8, 8, 8, 8, 8, 8, 8, 8, 8, 8, 8, 8, 8, 8, 8, 8, 8,
    8, 8, 8, 8, 8, 8, 8, 8, 8, 8, 8, 8, 8, 8, 8, 8, 8, 8, 8, 8, 8, 8, 8, 8, 8, 8, 8, 8, 8, 8, 8, 8]) : ByteArray)).data[(IntKind.u8.wrap n22).toNat]? = some b24) ∧ ∀ n25 : Int, n25 = IntKind.i64.wrap (b24.toNat : Int) → ∀
    n26 : Int, n26 = IntKind.i64.wrap (n23 + n25) → R (.returned (.int .i64 n26)) w) ∧ ((decide (n20 ≥ 256)) = false → ∃ (b27 : UInt8), (0 ≤ (IntKind.u8.wrap n20) ∧ ((ByteArray.mk (#[0, 1, 2, 2, 3, 3, 3, 3, 4, 4, 4, 4, 4,
    4, 4, 4, 5, 5, 5, 5, 5, 5, 5, 5, 5, 5, 5, 5, 5, 5, 5, 5, 6, 6, 6, 6, 6, 6, 6, 6, 6, 6, 6, 6, 6, 6, 6, 6, 6, 6, 6, 6, 6, 6, 6, 6, 6, 6, 6, 6, 6, 6, 6, 6, 7, 7, 7, 7, 7, 7, 7, 7, 7, 7, 7, 7, 7, 7, 7, 7, 7, 7, 7, 7, 7,
    7, 7, 7, 7, 7, 7, 7, 7, 7, 7, 7, 7, 7, 7, 7, 7, 7, 7, 7, 7, 7, 7, 7, 7, 7, 7, 7, 7, 7, 7, 7, 7, 7, 7, 7, 7, 7, 7, 7, 7, 7, 7, 7, 8, 8, 8, 8, 8, 8, 8, 8, 8, 8, 8, 8, 8, 8, 8, 8, 8, 8, 8, 8, 8, 8, 8, 8, 8, 8, 8, 8, 8,
    8, 8, 8, 8, 8, 8, 8, 8, 8, 8, 8, 8, 8, 8, 8, 8, 8, 8, 8, 8, 8, 8, 8, 8, 8, 8, 8, 8, 8, 8, 8, 8, 8, 8, 8, 8, 8, 8, 8, 8, 8, 8, 8, 8, 8, 8, 8, 8, 8, 8, 8, 8, 8, 8, 8, 8, 8, 8, 8, 8, 8, 8, 8, 8, 8, 8, 8, 8, 8, 8, 8, 8,
    8, 8, 8, 8, 8, 8, 8, 8, 8, 8, 8, 8, 8, 8, 8, 8, 8, 8, 8, 8, 8, 8, 8, 8, 8, 8, 8]) : ByteArray)).data[(IntKind.u8.wrap n20).toNat]? = some b27) ∧ ∀ n28 : Int, n28 = IntKind.i64.wrap (b27.toNat : Int) → ∀ n29 : Int, n29
    = IntKind.i64.wrap (n21 + n28) → R (.returned (.int .i64 n29)) w))) ∧ ((decide (x ≥ 65536)) = false → (((decide (x ≥ 256)) = true → 0 ≤ (8 : Int) ∧ ∀ n30 : Int, n30 = Int.fdiv x (2 ^ (min (8 : Int).toNat (IntKind.bits
    .u64))) → ∀ n31 : Int, n31 = IntKind.i64.wrap ((0 : Int) + 8) → ∃ (b32 : UInt8), (0 ≤ (IntKind.u8.wrap n30) ∧ ((ByteArray.mk (#[0, 1, 2, 2, 3, 3, 3, 3, 4, 4, 4, 4, 4, 4, 4, 4, 5, 5, 5, 5, 5, 5, 5, 5, 5, 5, 5, 5, 5, 5,
    5, 5, 6, 6, 6, 6, 6, 6, 6, 6, 6, 6, 6, 6, 6, 6, 6, 6, 6, 6, 6, 6, 6, 6, 6, 6, 6, 6, 6, 6, 6, 6, 6, 6, 7, 7, 7, 7, 7, 7, 7, 7, 7, 7, 7, 7, 7, 7, 7, 7, 7, 7, 7, 7, 7, 7, 7, 7, 7, 7, 7, 7, 7, 7, 7, 7, 7, 7, 7, 7, 7, 7,
    7, 7, 7, 7, 7, 7, 7, 7, 7, 7, 7, 7, 7, 7, 7, 7, 7, 7, 7, 7, 7, 7, 7, 7, 7, 7, 8, 8, 8, 8, 8, 8, 8, 8, 8, 8, 8, 8, 8, 8, 8, 8, 8, 8, 8, 8, 8, 8, 8, 8, 8, 8, 8, 8, 8, 8, 8, 8, 8, 8, 8, 8, 8, 8, 8, 8, 8, 8, 8, 8, 8, 8,
    8, 8, 8, 8, 8, 8, 8, 8, 8, 8, 8, 8, 8, 8, 8, 8, 8, 8, 8, 8, 8, 8, 8, 8, 8, 8, 8, 8, 8, 8, 8, 8, 8, 8, 8, 8, 8, 8, 8, 8, 8, 8, 8, 8, 8, 8, 8, 8, 8, 8, 8, 8, 8, 8, 8, 8, 8, 8, 8, 8, 8, 8, 8, 8, 8, 8, 8, 8, 8, 8, 8, 8,
    8, 8, 8, 8, 8, 8, 8, 8, 8, 8]) : ByteArray)).data[(IntKind.u8.wrap n30).toNat]? = some b32) ∧ ∀ n33 : Int, n33 = IntKind.i64.wrap (b32.toNat : Int) → ∀ n34 : Int, n34 = IntKind.i64.wrap (n31 + n33) → R (.returned
    (.int .i64 n34)) w) ∧ ((decide (x ≥ 256)) = false → ∃ (b35 : UInt8), (0 ≤ (IntKind.u8.wrap x) ∧ ((ByteArray.mk (#[0, 1, 2, 2, 3, 3, 3, 3, 4, 4, 4, 4, 4, 4, 4, 4, 5, 5, 5, 5, 5, 5, 5, 5, 5, 5, 5, 5, 5, 5, 5, 5, 6, 6,
    6, 6, 6, 6, 6, 6, 6, 6, 6, 6, 6, 6, 6, 6, 6, 6, 6, 6, 6, 6, 6, 6, 6, 6, 6, 6, 6, 6, 6, 6, 7, 7, 7, 7, 7, 7, 7, 7, 7, 7, 7, 7, 7, 7, 7, 7, 7, 7, 7, 7, 7, 7, 7, 7, 7, 7, 7, 7, 7, 7, 7, 7, 7, 7, 7, 7, 7, 7, 7, 7, 7, 7,
    7, 7, 7, 7, 7, 7, 7, 7, 7, 7, 7, 7, 7, 7, 7, 7, 7, 7, 7, 7, 7, 7, 8, 8, 8, 8, 8, 8, 8, 8, 8, 8, 8, 8, 8, 8, 8, 8, 8, 8, 8, 8, 8, 8, 8, 8, 8, 8, 8, 8, 8, 8, 8, 8, 8, 8, 8, 8, 8, 8, 8, 8, 8, 8, 8, 8, 8, 8, 8, 8, 8, 8,
    8, 8, 8, 8, 8, 8, 8, 8, 8, 8, 8, 8, 8, 8, 8, 8, 8, 8, 8, 8, 8, 8, 8, 8, 8, 8, 8, 8, 8, 8, 8, 8, 8, 8, 8, 8, 8, 8, 8, 8, 8, 8, 8, 8, 8, 8, 8, 8, 8, 8, 8, 8, 8, 8, 8, 8, 8, 8, 8, 8, 8, 8, 8, 8, 8, 8, 8, 8, 8, 8, 8, 8,
    8, 8, 8, 8, 8, 8]) : ByteArray)).data[(IntKind.u8.wrap x).toNat]? = some b35) ∧ ∀ n36 : Int, n36 = IntKind.i64.wrap (b35.toNat : Int) → ∀ n37 : Int, n37 = IntKind.i64.wrap ((0 : Int) + n36) → R (.returned (.int .i64
    n37)) w))))))
theorem sx91.ok {x : Int} {R : Ending → World → Prop} {w : World} (h : sx91 x R w) : CallsW Try.prog 91 [.int .u64 x] w R :=
  callsW_of mix Try.func91 (by kernel_rfl) (by kernel_rfl) (Eq.mpr (by kernel_rfl : denFn Try.prog { named := [6, 10, 12, 16, 18, 23, 24] } Try.f91 [.int .u64 x] R w = sx91 x R w) h)

/- math/bits.Len -/
def sx69 (x : Int) (R : Ending → World → Prop) (w : World) : Prop :=
  CallsW Try.prog 91 [.int .u64 x] w (RetR R fun u2 w1 => ∃ (n3 : Int), u2 = .int .i64 n3 ∧ R (.returned (.int .i64 n3)) w1)
theorem sx69.ok {x : Int} {R : Ending → World → Prop} {w : World} (h : sx69 x R w) : CallsW Try.prog 69 [.int .u64 x] w R :=
  callsW_of mix Try.func69 (by kernel_rfl) (by kernel_rfl) (Eq.mpr (by kernel_rfl : denFn Try.prog {} Try.f69 [.int .u64 x] R w = sx69 x R w) h)


set_option maxHeartbeats 1000000 in
theorem Len64_ok {x : Int} {w : World} (h0 : 0 ≤ x) (h1 : x < 18446744073709551616) : CallsW Try.prog 91 [.int .u64 x] w (Rets (LenP x w)) := by
  refine sx91.ok ?_
  unfold sx91
  have s32 : ∀ y : Int, 0 ≤ y → Int.fdiv y (2 ^ (min (32 : Int).toNat (IntKind.bits .u64))) = y / 4294967296 := fun y hy => fdiv_pow hy 32 32 rfl (by decide)
  have s16 : ∀ y : Int, 0 ≤ y → Int.fdiv y (2 ^ (min (16 : Int).toNat (IntKind.bits .u64))) = y / 65536 := fun y hy => fdiv_pow hy 16 16 rfl (by decide)
  have s8 : ∀ y : Int, 0 ≤ y → Int.fdiv y (2 ^ (min (8 : Int).toNat (IntKind.bits .u64))) = y / 256 := fun y hy => fdiv_pow hy 8 8 rfl (by decide)
  refine ⟨fun ha => ⟨by decide, ?_⟩, fun ha => ?_⟩
  · simp only [decide_eq_true_eq, ge_iff_le] at ha
    rintro n1 rfl
    rw [s32 x h0]
    refine ⟨fun hb => ⟨by decide, ?_⟩, fun hb => ?_⟩
    · simp only [decide_eq_true_eq, ge_iff_le] at hb
      rintro n2 rfl n3 rfl
      rw [s16 _ (by omega)]
      refine ⟨fun hc => ⟨by decide, ?_⟩, fun hc => ?_⟩
      · simp only [decide_eq_true_eq, ge_iff_le] at hc
        rintro n4 rfl n5 rfl
        rw [s8 _ (by omega)]
        exact len_tab (k := 56) (by kernel_rfl) (by omega) (by omega) (by decide) (by decide) (fun _ => ⟨by omega, by omega⟩)
      · simp only [decide_eq_false_iff_not, ge_iff_le] at hc
        exact len_tab (k := 48) (by kernel_rfl) (by omega) (by omega) (by decide) (by decide) (fun _ => ⟨by omega, by omega⟩)
    · simp only [decide_eq_false_iff_not, ge_iff_le] at hb
      refine ⟨fun hc => ⟨by decide, ?_⟩, fun hc => ?_⟩
      · simp only [decide_eq_true_eq, ge_iff_le] at hc
        rintro n4 rfl n5 rfl
        rw [s8 _ (by omega)]
        exact len_tab (k := 40) (by kernel_rfl) (by omega) (by omega) (by decide) (by decide) (fun _ => ⟨by omega, by omega⟩)
      · simp only [decide_eq_false_iff_not, ge_iff_le] at hc
        exact len_tab (k := 32) (by kernel_rfl) (by omega) (by omega) (by decide) (by decide) (fun _ => ⟨by omega, by omega⟩)
  · simp only [decide_eq_false_iff_not, ge_iff_le] at ha
    refine ⟨fun hb => ⟨by decide, ?_⟩, fun hb => ?_⟩
    · simp only [decide_eq_true_eq, ge_iff_le] at hb
      rintro n2 rfl n3 rfl
      rw [s16 _ (by omega)]
      refine ⟨fun hc => ⟨by decide, ?_⟩, fun hc => ?_⟩
      · simp only [decide_eq_true_eq, ge_iff_le] at hc
        rintro n4 rfl n5 rfl
        rw [s8 _ (by omega)]
        exact len_tab (k := 24) (by kernel_rfl) (by omega) (by omega) (by decide) (by decide) (fun _ => ⟨by omega, by omega⟩)
      · simp only [decide_eq_false_iff_not, ge_iff_le] at hc
        exact len_tab (k := 16) (by kernel_rfl) (by omega) (by omega) (by decide) (by decide) (fun _ => ⟨by omega, by omega⟩)
    · simp only [decide_eq_false_iff_not, ge_iff_le] at hb
      refine ⟨fun hc => ⟨by decide, ?_⟩, fun hc => ?_⟩
      · simp only [decide_eq_true_eq, ge_iff_le] at hc
        rintro n4 rfl n5 rfl
        rw [s8 _ (by omega)]
        exact len_tab (k := 8) (by kernel_rfl) (by omega) (by omega) (by decide) (by decide) (fun _ => ⟨by omega, by omega⟩)
      · simp only [decide_eq_false_iff_not, ge_iff_le] at hc
        exact len_tab (k := 0) (by kernel_rfl) (by omega) (by omega) (by decide) (by decide) (fun _ => ⟨by omega, by omega⟩)
theorem Len_ok {x : Int} {w : World} (h0 : 0 ≤ x) (h1 : x < 18446744073709551616) : CallsW Try.prog 69 [.int .u64 x] w (Rets (LenP x w)) := by
  refine sx69.ok ?_
  unfold sx69
  refine (Len64_ok h0 h1).use fun v w1 ⟨m, hv, hm, hp, hw⟩ => ?_
  subst hv
  exact ⟨_, rfl, _, rfl, m, rfl, hm, hp, hw⟩
end Go.Proofs.Ytoljpkdokpinhaa
