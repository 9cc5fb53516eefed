import Derived.Test.YtcpkneemhfnanaaGreatProg
import Derived.Test.YtcpkneemhfnanaaGreatBase
import Derived.Test.YtcpkneemhfnanaaGreatSxO
import Derived.Test.YtcpkneemhfnanaaGreatSxV
/- What math/bits.Len hands back. Conditions: none. -/
namespace Go.Proofs.YtcpkneemhfnanaaGreat
open Go.Sx
set_option maxRecDepth 100000
set_option linter.unusedVariables false
set_option linter.unusedSimpArgs false
/- math/bits.Len64 -/
def sx165 (x : Int) (R : Ending → World → Prop) (w : World) : Prop :=
  (((decide (x ≥ 4294967296)) = true → 0 ≤ (32 : Int) ∧ ∀ n1 : Int, n1 = Int.fdiv x (2 ^ (min (32 : Int).toNat (IntKind.bits .u64))) → (((decide (n1 ≥ 65536)) = true → 0 ≤ (16 : Int) ∧ ∀ n2 : Int, n2 = Int.fdiv n1 (2 ^ (min
    (16 : Int).toNat (IntKind.bits .u64))) → ∀ n3 : Int, n3 = IntKind.i64.wrap ((32 : Int) + 16) → (((decide (n2 ≥ 256)) = true → 0 ≤ (8 : Int) ∧ ∀ n4 : Int, n4 = Int.fdiv n2 (2 ^ (min (8 : Int).toNat (IntKind.bits
    .u64))) → ∀ n5 : Int, n5 = IntKind.i64.wrap (n3 + 8) → ∃ (b6 : UInt8), (0 ≤ (IntKind.u8.wrap n4) ∧ ((ByteArray.mk (#[0, 1, 2, 2, 3, 3, 3, 3, 4, 4, 4, 4, 4, 4, 4, 4, 5, 5, 5, 5, 5, 5, 5, 5, 5, 5, 5, 5, 5, 5, 5, 5, 6,
    6, 6, 6, 6, 6, 6, 6, 6, 6, 6, 6, 6, 6, 6, 6, 6, 6, 6, 6, 6, 6, 6, 6, 6, 6, 6, 6, 6, 6, 6, 6, 7, 7, 7, 7, 7, 7, 7, 7, 7, 7, 7, 7, 7, 7, 7, 7, 7, 7, 7, 7, 7, 7, 7, 7, 7, 7, 7, 7, 7, 7, 7, 7, 7, 7, 7, 7, 7, 7, 7, 7, 7,
    7, 7, 7, 7, 7, 7, 7, 7, 7, 7, 7, 7, 7, 7, 7, 7, 7, 7, 7, 7, 7, 7, 7, 8, 8, 8, 8, 8, 8, 8, 8, 8, 8, 8, 8, 8, 8, 8, 8, 8, 8, 8, 8, 8, 8, 8, 8, 8, 8, 8, 8, 8, 8, 8, 8, 8, 8, 8, 8, 8, 8, 8, 8, 8, 8, 8, 8, 8, 8, 8, 8, 8,
    8, 8, 8, 8, 8, 8, 8, 8, 8, 8, 8, 8, 8, 8, 8, 8, 8, 8, 8, 8, 8, 8, 8, 8, 8, 8, 8, 8, 8, 8, 8, 8, 8, 8, 8, 8, 8, 8, 8, 8, 8, 8, 8, 8, 8, 8, 8, 8, 8, 8, 8, 8, 8, 8, 8, 8, 8, 8, 8, 8, 8, 8, 8, 8, 8, 8, 8, 8, 8, 8, 8, 8,
    8, 8, 8, 8, 8, 8, 8]) : ByteArray)).data[(IntKind.u8.wrap n4).toNat]? = some b6) ∧ ∀ n7 : Int, n7 = IntKind.i64.wrap (b6.toNat : Int) → ∀ n8 : Int, n8 = IntKind.i64.wrap (n5 + n7) → R (.returned (.int .i64 n8)) w) ∧
    ((decide (n2 ≥ 256)) = false → ∃ (b9 : UInt8), (0 ≤ (IntKind.u8.wrap n2) ∧ ((ByteArray.mk (#[0, 1, 2, 2, 3, 3, 3, 3, 4, 4, 4, 4, 4, 4, 4, 4, 5, 5, 5, 5, 5, 5, 5, 5, 5, 5, 5, 5, 5, 5, 5, 5, 6, 6, 6, 6, 6, 6, 6, 6, 6,
    6, 6, 6, 6, 6, 6, 6, 6, 6, 6, 6, 6, 6, 6, 6, 6, 6, 6, 6, 6, 6, 6, 6, 7, 7, 7, 7, 7, 7, 7, 7, 7, 7, 7, 7, 7, 7, 7, 7, 7, 7, 7, 7, 7, 7, 7, 7, 7, 7, 7, 7, 7, 7, 7, 7, 7, 7, 7, 7, 7, 7, 7, 7, 7, 7, 7, 7, 7, 7, 7, 7, 7,
    7, 7, 7, 7, 7, 7, 7, 7, 7, 7, 7, 7, 7, 7, 7, 8, 8, 8, 8, 8, 8, 8, 8, 8, 8, 8, 8, 8, 8, 8, 8, 8, 8, 8, 8, 8, 8, 8, 8, 8, 8, 8, 8, 8, 8, 8, 8, 8, 8, 8, 8, 8, 8, 8, 8, 8, 8, 8, 8, 8, 8, 8, 8, 8, 8, 8, 8, 8, 8, 8, 8, 8,
    8, 8, 8, 8, 8, 8, 8, 8, 8, 8, 8, 8, 8, 8, 8, 8, 8, 8, 8, 8, 8, 8, 8, 8, 8, 8, 8, 8, 8, 8, 8, 8, 8, 8, 8, 8, 8, 8, 8, 8, 8, 8, 8, 8, 8, 8, 8, 8, 8, 8, 8, 8, 8, 8, 8, 8, 8, 8, 8, 8, 8, 8, 8, 8, 8, 8, 8, 8, 8, 8, 8]) :
    ByteArray)).data[(IntKind.u8.wrap n2).toNat]? = some b9) ∧ ∀ n10 : Int, n10 = IntKind.i64.wrap (b9.toNat : Int) → ∀ n11 : Int, n11 = IntKind.i64.wrap (n3 + n10) → R (.returned (.int .i64 n11)) w))) ∧ ((decide (n1 ≥
    65536)) = false → (((decide (n1 ≥ 256)) = true → 0 ≤ (8 : Int) ∧ ∀ n12 : Int, n12 = Int.fdiv n1 (2 ^ (min (8 : Int).toNat (IntKind.bits .u64))) → ∀ n13 : Int, n13 = IntKind.i64.wrap ((32 : Int) + 8) → ∃ (b14 : UInt8),
    (0 ≤ (IntKind.u8.wrap n12) ∧ ((ByteArray.mk (#[0, 1, 2, 2, 3, 3, 3, 3, 4, 4, 4, 4, 4, 4, 4, 4, 5, 5, 5, 5, 5, 5, 5, 5, 5, 5, 5, 5, 5, 5, 5, 5, 6, 6, 6, 6, 6, 6, 6, 6, 6, 6, 6, 6, 6, 6, 6, 6, 6, 6, 6, 6, 6, 6, 6, 6, 6,
    6, 6, 6, 6, 6, 6, 6, 7, 7, 7, 7, 7, 7, 7, 7, 7, 7, 7, 7, 7, 7, 7, 7, 7, 7, 7, 7, 7, 7, 7, 7, 7, 7, 7, 7, 7, 7, 7, 7, 7, 7, 7, 7, 7, 7, 7, 7, 7, 7, 7, 7, 7, 7, 7, 7, 7, 7, 7, 7, 7, 7, 7, 7, 7, 7, 7, 7, 7, 7, 7, 7, 8,
    8, 8, 8, 8, 8, 8, 8, 8, 8, 8, 8, 8, 8, 8, 8, 8, 8, 8, 8, 8, 8, 8, 8, 8, 8, 8, 8, 8, 8, 8, 8, 8, 8, 8, 8, 8, 8, 8, 8, 8, 8, 8, 8, 8, 8, 8, 8, 8, 8, 8, 8, 8, 8, 8, 8, 8, 8, 8, 8, 8, 8, 8, 8, 8, 8, 8, 8, 8, 8, 8, 8, 8,
    8, 8, 8, 8, 8, 8, 8, 8, 8, 8, 8, 8, 8, 8, 8, 8, 8, 8, 8, 8, 8, 8, 8, 8, 8, 8, 8, 8, 8, 8, 8, 8, 8, 8, 8, 8, 8, 8, 8, 8, 8, 8, 8, 8, 8, 8, 8, 8, 8, 8, 8, 8, 8, 8, 8]) : ByteArray)).data[(IntKind.u8.wrap n12).toNat]? =
    some b14) ∧ ∀ n15 : Int, n15 = IntKind.i64.wrap (b14.toNat : Int) → ∀ n16 : Int, n16 = IntKind.i64.wrap (n13 + n15) → R (.returned (.int .i64 n16)) w) ∧ ((decide (n1 ≥ 256)) = false → ∃ (b17 : UInt8), (0 ≤
    (IntKind.u8.wrap n1) ∧ ((ByteArray.mk (#[0, 1, 2, 2, 3, 3, 3, 3, 4, 4, 4, 4, 4, 4, 4, 4, 5, 5, 5, 5, 5, 5, 5, 5, 5, 5, 5, 5, 5, 5, 5, 5, 6, 6, 6, 6, 6, 6, 6, 6, 6, 6, 6, 6, 6, 6, 6, 6, 6, 6, 6, 6, 6, 6, 6, 6, 6, 6, 6,
    6, 6, 6, 6, 6, 7, 7, 7, 7, 7, 7, 7, 7, 7, 7, 7, 7, 7, 7, 7, 7, 7, 7, 7, 7, 7, 7, 7, 7, 7, 7, 7, 7, 7, 7, 7, 7, 7, 7, 7, 7, 7, 7, 7, 7, 7, 7, 7, 7, 7, 7, 7, 7, 7, 7, 7, 7, 7, 7, 7, 7, 7, 7, 7, 7, 7, 7, 7, 7, 8, 8, 8,
    8, 8, 8, 8, 8, 8, 8, 8, 8, 8, 8, 8, 8, 8, 8, 8, 8, 8, 8, 8, 8, 8, 8, 8, 8, 8, 8, 8, 8, 8, 8, 8, 8, 8, 8, 8, 8, 8, 8, 8, 8, 8, 8, 8, 8, 8, 8, 8, 8, 8, 8, 8, 8, 8, 8, 8, 8, 8, 8, 8, 8, 8, 8, 8, 8, 8, 8, 8, 8, 8, 8, 8,
    8, 8, 8, 8, 8, 8, 8, 8, 8, 8, 8, 8, 8, 8, 8, 8, 8, 8, 8, 8, 8, 8, 8, 8, 8, 8, 8, 8, 8, 8, 8, 8, 8, 8, 8, 8, 8, 8, 8, 8, 8, 8, 8, 8, 8, 8, 8, 8, 8, 8, 8, 8, 8]) : ByteArray)).data[(IntKind.u8.wrap n1).toNat]? = some
    b17) ∧ ∀ n18 : Int, n18 = IntKind.i64.wrap (b17.toNat : Int) → ∀ n19 : Int, n19 = IntKind.i64.wrap ((32 : Int) + n18) → R (.returned (.int .i64 n19)) w))))) ∧ ((decide (x ≥ 4294967296)) = false → (((decide (x ≥
    65536)) = true → 0 ≤ (16 : Int) ∧ ∀ n20 : Int, n20 = Int.fdiv x (2 ^ (min (16 : Int).toNat (IntKind.bits .u64))) → ∀ n21 : Int, n21 = IntKind.i64.wrap ((0 : Int) + 16) → (((decide (n20 ≥ 256)) = true → 0 ≤ (8 : Int) ∧
    ∀ n22 : Int, n22 = Int.fdiv n20 (2 ^ (min (8 : Int).toNat (IntKind.bits .u64))) → ∀ n23 : Int, n23 = IntKind.i64.wrap (n21 + 8) → ∃ (b24 : UInt8), (0 ≤ (IntKind.u8.wrap n22) ∧ ((ByteArray.mk (#[0, 1, 2, 2, 3, 3, 3, 3,
    4, 4, 4, 4, 4, 4, 4, 4, 5, 5, 5, 5, 5, 5, 5, 5, 5, 5, 5, 5, 5, 5, 5, 5, 6, 6, 6, 6, 6, 6, 6, 6, 6, 6, 6, 6, 6, 6, 6, 6, 6, 6, 6, 6, 6, 6, 6, 6, 6, 6, 6, 6, 6, 6, 6, 6, 7, 7, 7, 7, 7, 7, 7, 7, 7, 7, 7, 7, 7, 7, 7, 7,
    7, 7, 7, 7, 7, 7, 7, 7, 7, 7, 7, 7, 7, 7, 7, 7, 7, 7, 7, 7, 7, 7, 7, 7, 7, 7, 7, 7, 7, 7, 7, 7, 7, 7, 7, 7, 7, 7, 7, 7, 7, 7, 7, 7, 7, 7, 7, 7, 8, 8, 8, 8, 8, 8, 8, 8, 8, 8, 8, 8, 8, 8, 8, 8, 8, 8, 8, 8, 8, 8, 8, 8,
    8, 8, 8, 8, 8, 8, 8, 8, 8, 8, 8, 8, 8, 8, 8, 8, 8, 8, 8, 8, 8, 8, 8, 8, 8, 8, 8, 8, 8, 8, 8, 8, 8, 8, 8, 8, 8, 8, 8, 8, 8, 8, 8, 8, 8, 8, 8, 8, 8, 8, 8, 8, 8, 8, 8, 8, 8, 8, 8, 8, 8, 8, 8, 8, 8, 8, 8, 8, 8, 8, 8, 8,
    8, 8, 8, 8, 8, 8, 8, 8, 8, 8, 8, 8, 8, 8, 8, 8, 8, 8, 8, 8, 8, 8, 8, 8, 8, 8, 8, 8, 8, 8, 8, 8]) : ByteArray)).data[(IntKind.u8.wrap n22).toNat]? = some b24) ∧ ∀ n25 : Int, n25 = IntKind.i64.wrap (b24.toNat : Int) → ∀
    n26 : Int, n26 = IntKind.i64.wrap (n23 + n25) → R (.returned (.int .i64 n26)) w) ∧ ((decide (n20 ≥ 256)) = false → ∃ (b27 : UInt8), (0 ≤ (IntKind.u8.wrap n20) ∧ ((ByteArray.mk (#[0, 1, 2, 2, 3, 3, 3, 3, 4, 4, 4, 4, 4,
    4, 4, 4, 5, 5, 5, 5, 5, 5, 5, 5, 5, 5, 5, 5, 5, 5, 5, 5, 6, 6, 6, 6, 6, 6, 6, 6, 6, 6, 6, 6, 6, 6, 6, 6, 6, 6, 6, 6, 6, 6, 6, 6, 6, 6, 6, 6, 6, 6, 6, 6, 7, 7, 7, 7, 7, 7, 7, 7, 7, 7, 7, 7, 7, 7, 7, 7, 7, 7, 7, 7, 7,
    7, 7, 7, 7, 7, 7, 7, 7, 7, 7, 7, 7, 7, 7, 7, 7, 7, 7, 7, 7, 7, 7, 7, 7, 7, 7, 7, 7, 7, 7, 7, 7, 7, 7, 7, 7, 7, 7, 7, 7, 7, 7, 7, 8, 8, 8, 8, 8, 8, 8, 8, 8, 8, 8, 8, 8, 8, 8, 8, 8, 8, 8, 8, 8, 8, 8, 8, 8, 8, 8, 8, 8,
    8, 8, 8, 8, 8, 8, 8, 8, 8, 8, 8, 8, 8, 8, 8, 8, 8, 8, 8, 8, 8, 8, 8, 8, 8, 8, 8, 8, 8, 8, 8, 8, 8, 8, 8, 8, 8, 8, 8, 8, 8, 8, 8, 8, 8, 8, 8, 8, 8, 8, 8, 8, 8, 8, 8, 8, 8, 8, 8, 8, 8, 8, 8, 8, 8, 8, 8, 8, 8, 8, 8, 8,
    8, 8, 8, 8, 8, 8, 8, 8, 8, 8, 8, 8, 8, 8, 8, 8, 8, 8, 8, 8, 8, 8, 8, 8, 8, 8, 8]) : ByteArray)).data[(IntKind.u8.wrap n20).toNat]? = some b27) ∧ ∀ n28 : Int, n28 = IntKind.i64.wrap (b27.toNat : Int) → ∀ n29 : Int, n29
    = IntKind.i64.wrap (n21 + n28) → R (.returned (.int .i64 n29)) w))) ∧ ((decide (x ≥ 65536)) = false → (((decide (x ≥ 256)) = true → 0 ≤ (8 : Int) ∧ ∀ n30 : Int, n30 = Int.fdiv x (2 ^ (min (8 : Int).toNat (IntKind.bits
    .u64))) → ∀ n31 : Int, n31 = IntKind.i64.wrap ((0 : Int) + 8) → ∃ (b32 : UInt8), (0 ≤ (IntKind.u8.wrap n30) ∧ ((ByteArray.mk (#[0, 1, 2, 2, 3, 3, 3, 3, 4, 4, 4, 4, 4, 4, 4, 4, 5, 5, 5, 5, 5, 5, 5, 5, 5, 5, 5, 5, 5, 5,
    5, 5, 6, 6, 6, 6, 6, 6, 6, 6, 6, 6, 6, 6, 6, 6, 6, 6, 6, 6, 6, 6, 6, 6, 6, 6, 6, 6, 6, 6, 6, 6, 6, 6, 7, 7, 7, 7, 7, 7, 7, 7, 7, 7, 7, 7, 7, 7, 7, 7, 7, 7, 7, 7, 7, 7, 7, 7, 7, 7, 7, 7, 7, 7, 7, 7, 7, 7, 7, 7, 7, 7,
    7, 7, 7, 7, 7, 7, 7, 7, 7, 7, 7, 7, 7, 7, 7, 7, 7, 7, 7, 7, 7, 7, 7, 7, 7, 7, 8, 8, 8, 8, 8, 8, 8, 8, 8, 8, 8, 8, 8, 8, 8, 8, 8, 8, 8, 8, 8, 8, 8, 8, 8, 8, 8, 8, 8, 8, 8, 8, 8, 8, 8, 8, 8, 8, 8, 8, 8, 8, 8, 8, 8, 8,
    8, 8, 8, 8, 8, 8, 8, 8, 8, 8, 8, 8, 8, 8, 8, 8, 8, 8, 8, 8, 8, 8, 8, 8, 8, 8, 8, 8, 8, 8, 8, 8, 8, 8, 8, 8, 8, 8, 8, 8, 8, 8, 8, 8, 8, 8, 8, 8, 8, 8, 8, 8, 8, 8, 8, 8, 8, 8, 8, 8, 8, 8, 8, 8, 8, 8, 8, 8, 8, 8, 8, 8,
    8, 8, 8, 8, 8, 8, 8, 8, 8, 8]) : ByteArray)).data[(IntKind.u8.wrap n30).toNat]? = some b32) ∧ ∀ n33 : Int, n33 = IntKind.i64.wrap (b32.toNat : Int) → ∀ n34 : Int, n34 = IntKind.i64.wrap (n31 + n33) → R (.returned
    (.int .i64 n34)) w) ∧ ((decide (x ≥ 256)) = false → ∃ (b35 : UInt8), (0 ≤ (IntKind.u8.wrap x) ∧ ((ByteArray.mk (#[0, 1, 2, 2, 3, 3, 3, 3, 4, 4, 4, 4, 4, 4, 4, 4, 5, 5, 5, 5, 5, 5, 5, 5, 5, 5, 5, 5, 5, 5, 5, 5, 6, 6,
    6, 6, 6, 6, 6, 6, 6, 6, 6, 6, 6, 6, 6, 6, 6, 6, 6, 6, 6, 6, 6, 6, 6, 6, 6, 6, 6, 6, 6, 6, 7, 7, 7, 7, 7, 7, 7, 7, 7, 7, 7, 7, 7, 7, 7, 7, 7, 7, 7, 7, 7, 7, 7, 7, 7, 7, 7, 7, 7, 7, 7, 7, 7, 7, 7, 7, 7, 7, 7, 7, 7, 7,
    7, 7, 7, 7, 7, 7, 7, 7, 7, 7, 7, 7, 7, 7, 7, 7, 7, 7, 7, 7, 7, 7, 8, 8, 8, 8, 8, 8, 8, 8, 8, 8, 8, 8, 8, 8, 8, 8, 8, 8, 8, 8, 8, 8, 8, 8, 8, 8, 8, 8, 8, 8, 8, 8, 8, 8, 8, 8, 8, 8, 8, 8, 8, 8, 8, 8, 8, 8, 8, 8, 8, 8,
    8, 8, 8, 8, 8, 8, 8, 8, 8, 8, 8, 8, 8, 8, 8, 8, 8, 8, 8, 8, 8, 8, 8, 8, 8, 8, 8, 8, 8, 8, 8, 8, 8, 8, 8, 8, 8, 8, 8, 8, 8, 8, 8, 8, 8, 8, 8, 8, 8, 8, 8, 8, 8, 8, 8, 8, 8, 8, 8, 8, 8, 8, 8, 8, 8, 8, 8, 8, 8, 8, 8, 8,
    8, 8, 8, 8, 8, 8]) : ByteArray)).data[(IntKind.u8.wrap x).toNat]? = some b35) ∧ ∀ n36 : Int, n36 = IntKind.i64.wrap (b35.toNat : Int) → ∀ n37 : Int, n37 = IntKind.i64.wrap ((0 : Int) + n36) → R (.returned (.int .i64
    n37)) w))))))
theorem sx165.ok {x : Int} {R : Ending → World → Prop} {w : World} (h : sx165 x R w) : CallsW Tryz.prog 165 [.int .u64 x] w R :=
  callsW_of mix Tryz.func165 (by kernel_rfl) (by kernel_rfl) (Eq.mpr (by kernel_rfl : denFn Tryz.prog { named := [6, 10, 12, 16, 18, 23, 24] } Tryz.f165 [.int .u64 x] R w = sx165 x R w) h)

/- math/bits.Len -/
def sx132 (x : Int) (R : Ending → World → Prop) (w : World) : Prop :=
  CallsW Tryz.prog 165 [.int .u64 x] w (RetR R fun u2 w1 => ∃ (n3 : Int), u2 = .int .i64 n3 ∧ R (.returned (.int .i64 n3)) w1)
theorem sx132.ok {x : Int} {R : Ending → World → Prop} {w : World} (h : sx132 x R w) : CallsW Tryz.prog 132 [.int .u64 x] w R :=
  callsW_of mix Tryz.func132 (by kernel_rfl) (by kernel_rfl) (Eq.mpr (by kernel_rfl : denFn Tryz.prog {} Tryz.f132 [.int .u64 x] R w = sx132 x R w) h)


set_option maxHeartbeats 1000000 in
theorem Len64_ok {x : Int} {w : World} (h0 : 0 ≤ x) (h1 : x < 18446744073709551616) : CallsW Tryz.prog 165 [.int .u64 x] w (Rets (LenP x w)) := by
  refine sx165.ok ?_
  unfold sx165
  have s32 : ∀ y : Int, 0 ≤ y → Int.fdiv y (2 ^ (min (32 : Int).toNat (IntKind.bits .u64))) = y / 4294967296 := fun y hy => fdiv_pow hy 32 32 rfl (by decide)
  have s16 : ∀ y : Int, 0 ≤ y → Int.fdiv y (2 ^ (min (16 : Int).toNat (IntKind.bits .u64))) = y / 65536 := fun y hy => fdiv_pow hy 16 16 rfl (by decide)
  have s8 : ∀ y : Int, 0 ≤ y → Int.fdiv y (2 ^ (min (8 : Int).toNat (IntKind.bits .u64))) = y / 256 := fun y hy => fdiv_pow hy 8 8 rfl (by decide)
  refine ⟨fun ha => ⟨by decide, ?_⟩, fun ha => ?_⟩
  · simp only [decide_eq_true_eq, ge_iff_le] at ha
    rintro n1 rfl
    rw [s32 x h0]
    refine ⟨fun hb => ⟨by decide, ?_⟩, fun hb => ?_⟩
    · simp only [decide_eq_true_eq, ge_iff_le] at hb
      rintro n2 rfl n3 rfl
      rw [s16 _ (by omega)]
      refine ⟨fun hc => ⟨by decide, ?_⟩, fun hc => ?_⟩
      · simp only [decide_eq_true_eq, ge_iff_le] at hc
        rintro n4 rfl n5 rfl
        rw [s8 _ (by omega)]
        exact len_tab (k := 56) (by kernel_rfl) (by omega) (by omega) (by decide) (by decide) (fun _ => ⟨by omega, by omega⟩)
      · simp only [decide_eq_false_iff_not, ge_iff_le] at hc
        exact len_tab (k := 48) (by kernel_rfl) (by omega) (by omega) (by decide) (by decide) (fun _ => ⟨by omega, by omega⟩)
    · simp only [decide_eq_false_iff_not, ge_iff_le] at hb
      refine ⟨fun hc => ⟨by decide, ?_⟩, fun hc => ?_⟩
      · simp only [decide_eq_true_eq, ge_iff_le] at hc
        rintro n4 rfl n5 rfl
        rw [s8 _ (by omega)]
        exact len_tab (k := 40) (by kernel_rfl) (by omega) (by omega) (by decide) (by decide) (fun _ => ⟨by omega, by omega⟩)
      · simp only [decide_eq_false_iff_not, ge_iff_le] at hc
        exact len_tab (k := 32) (by kernel_rfl) (by omega) (by omega) (by decide) (by decide) (fun _ => ⟨by omega, by omega⟩)
  · simp only [decide_eq_false_iff_not, ge_iff_le] at ha
    refine ⟨fun hb => ⟨by decide, ?_⟩, fun hb => ?_⟩
    · simp only [decide_eq_true_eq, ge_iff_le] at hb
      rintro n2 rfl n3 rfl
      rw [s16 _ (by omega)]
      refine ⟨fun hc => ⟨by decide, ?_⟩, fun hc => ?_⟩
      · simp only [decide_eq_true_eq, ge_iff_le] at hc
        rintro n4 rfl n5 rfl
        rw [s8 _ (by omega)]
        exact len_tab (k := 24) (by kernel_rfl) (by omega) (by omega) (by decide) (by decide) (fun _ => ⟨by omega, by omega⟩)
      · simp only [decide_eq_false_iff_not, ge_iff_le] at hc
        exact len_tab (k := 16) (by kernel_rfl) (by omega) (by omega) (by decide) (by decide) (fun _ => ⟨by omega, by omega⟩)
    · simp only [decide_eq_false_iff_not, ge_iff_le] at hb
      refine ⟨fun hc => ⟨by decide, ?_⟩, fun hc => ?_⟩
      · simp only [decide_eq_true_eq, ge_iff_le] at hc
        rintro n4 rfl n5 rfl
        rw [s8 _ (by omega)]
        exact len_tab (k := 8) (by kernel_rfl) (by omega) (by omega) (by decide) (by decide) (fun _ => ⟨by omega, by omega⟩)
      · simp only [decide_eq_false_iff_not, ge_iff_le] at hc
        exact len_tab (k := 0) (by kernel_rfl) (by omega) (by omega) (by decide) (by decide) (fun _ => ⟨by omega, by omega⟩)
theorem Len_ok {x : Int} {w : World} (h0 : 0 ≤ x) (h1 : x < 18446744073709551616) : CallsW Tryz.prog 132 [.int .u64 x] w (Rets (LenP x w)) := by
  refine sx132.ok ?_
  unfold sx132
  refine (Len64_ok h0 h1).use fun v w1 ⟨m, hv, hm, hp, hw⟩ => ?_
  subst hv
  exact ⟨_, rfl, _, rfl, m, rfl, hm, hp, hw⟩
end Go.Proofs.YtcpkneemhfnanaaGreat
/- What the sort's small helpers hand back: the next power of two, the next random number. Conditions: none. -/
namespace Go.Proofs.YtcpkneemhfnanaaGreat
open Go.Sx
set_option maxRecDepth 100000
set_option linter.unusedVariables false
set_option linter.unusedSimpArgs false
/- slices.nextPowerOfTwo -/
def sx178 (length : Int) (R : Ending → World → Prop) (w : World) : Prop :=
  CallsW Tryz.prog 132 [.int .u64 (IntKind.u64.wrap length)] w (RetR R fun u2 w1 => ∃ (n3 : Int), u2 = .int .i64 n3 ∧ 0 ≤ n3 ∧ ∀ n5 : Int, n5 = IntKind.u64.wrap ((1 : Int) * 2 ^ (min n3.toNat (IntKind.bits .u64))) → R
    (.returned (.int .u64 n5)) w1)
theorem sx178.ok {length : Int} {R : Ending → World → Prop} {w : World} (h : sx178 length R w) : CallsW Tryz.prog 178 [.int .i64 length] w R :=
  callsW_of mix Tryz.func178 (by kernel_rfl) (by kernel_rfl) (Eq.mpr (by kernel_rfl : denFn Tryz.prog { named := [6] } Tryz.f178 [.int .i64 length] R w = sx178 length R w) h)

/- (*slices.xorshift).Next -/
def sx179 (r : Nat) (R : Ending → World → Prop) (w : World) : Prop :=
  ∀ w1, Grew w w1 → ∃ (n2 : Int), w1.cell? ⟨r, 0, none⟩ = some (.int .u64 n2) ∧ ∃ (n3 : Int), w1.cell? ⟨r, 0, none⟩ = some (.int .u64 n3) ∧ 0 ≤ (13 : Int) ∧ ∀ n4 : Int, n4 = IntKind.u64.wrap (n3 * 2 ^ (min (13 : Int).toNat
    (IntKind.bits .u64))) → RoomAt w1 ⟨r, 0, none⟩ 0 [.int .u64 (Go.bits .xor .u64 n2 n4)] ∧ ∀ w5, w5 = setCells w1 ⟨r, 0, none⟩ 0 [.int .u64 (Go.bits .xor .u64 n2 n4)] → ∀ w6, Grew w5 w6 → ∃ (n7 : Int), w6.cell? ⟨r, 0,
    none⟩ = some (.int .u64 n7) ∧ ∃ (n8 : Int), w6.cell? ⟨r, 0, none⟩ = some (.int .u64 n8) ∧ 0 ≤ (7 : Int) ∧ ∀ n9 : Int, n9 = Int.fdiv n8 (2 ^ (min (7 : Int).toNat (IntKind.bits .u64))) → RoomAt w6 ⟨r, 0, none⟩ 0 [.int
    .u64 (Go.bits .xor .u64 n7 n9)] ∧ ∀ w10, w10 = setCells w6 ⟨r, 0, none⟩ 0 [.int .u64 (Go.bits .xor .u64 n7 n9)] → ∀ w11, Grew w10 w11 → ∃ (n12 : Int), w11.cell? ⟨r, 0, none⟩ = some (.int .u64 n12) ∧ ∃ (n13 : Int),
    w11.cell? ⟨r, 0, none⟩ = some (.int .u64 n13) ∧ 0 ≤ (17 : Int) ∧ ∀ n14 : Int, n14 = IntKind.u64.wrap (n13 * 2 ^ (min (17 : Int).toNat (IntKind.bits .u64))) → RoomAt w11 ⟨r, 0, none⟩ 0 [.int .u64 (Go.bits .xor .u64 n12
    n14)] ∧ ∀ w15, w15 = setCells w11 ⟨r, 0, none⟩ 0 [.int .u64 (Go.bits .xor .u64 n12 n14)] → ∃ (n16 : Int), w15.cell? ⟨r, 0, none⟩ = some (.int .u64 n16) ∧ R (.returned (.int .u64 n16)) w15
theorem sx179.ok {r : Nat} {R : Ending → World → Prop} {w : World} (h : sx179 r R w) : CallsW Tryz.prog 179 [.pointer (some ⟨r, 0, none⟩)] w R :=
  callsW_of mix Tryz.func179 (by kernel_rfl) (by kernel_rfl) (Eq.mpr (by kernel_rfl : denFn Tryz.prog { named := [9, 18, 27], draws := [(1, { order := (.cons 0 (.cons 1 (.cons 2 (.cons 3 (.cons 4 (.cons 5 (.cons 6 (.cons 7 (.cons 8 (.cons 9 .nil)))))))))), bars := [9] }), (2, { order := (.cons 0 (.cons 1 (.cons 2 (.cons 3 (.cons 4 (.cons 5 (.cons 6 (.cons 7 (.cons 8 (.cons 9 .nil)))))))))), bars := [9] }), (3, { order := (.cons 0 (.cons 1 (.cons 2 (.cons 3 (.cons 4 (.cons 5 (.cons 6 (.cons 7 (.cons 8 (.cons 9 .nil)))))))))), bars := [9] })] } Tryz.f179 [.pointer (some ⟨r, 0, none⟩)] R w = sx179 r R w) h)


theorem nextPow_ok {l : Nat} {w : World} (h0 : 0 < l) (h1 : l < 2305843009213693952) : CallsW Tryz.prog 178 [.int .i64 l] w (Rets fun v w' => ∃ q : Int, v = .int .u64 q ∧ 1 ≤ q ∧ q ≤ 2 * l ∧ w' = w) := by
  refine sx178.ok ?_
  unfold sx178
  have e1 : IntKind.u64.wrap (l : Int) = l := by rw [IntKind.wrap_u64]; omega
  rw [e1]
  refine (Len_ok (by omega) (by omega)).use fun v w1 ⟨m, hv, hm, hp, hw⟩ => ?_
  subst hv; subst hw
  refine ⟨_, rfl, by omega, ?_⟩
  rintro n5 rfl
  have hp' := hp (by omega)
  have h2 : (0 : Int) < 2 ^ m := Int.pow_pos (by decide)
  have e2 : min ((m : Int)).toNat (IntKind.bits .u64) = m := by simp [IntKind.bits]; omega
  rw [e2, Int.one_mul]
  have e3 : IntKind.u64.wrap ((2 : Int) ^ m) = 2 ^ m := by rw [IntKind.wrap_u64]; omega
  rw [e3]
  exact ⟨_, rfl, _, rfl, by omega, hp', rfl⟩

theorem xnext_ok {r : Nat} {e : TypeId} {x : Int} {w : World} (h : Row w r e [.int .u64 x]) : CallsW Tryz.prog 179 [.pointer (some ⟨r, 0, none⟩)] w (Rets fun v w' => ∃ y : Int, v = .int .u64 y ∧ 0 ≤ y ∧ y < 18446744073709551616 ∧ Row w' r e [.int .u64 y] ∧ Upd (fun b => b = r) w w') := by
  refine sx179.ok ?_
  unfold sx179
  intro w1 hg1
  have h1 := h.grew hg1
  refine ⟨x, by rw [h1.cell]; rfl, x, by rw [h1.cell]; rfl, by decide, ?_⟩
  rintro n4 rfl
  obtain ⟨hr, hrow, hu⟩ := h1.set1 (o := 0) (by simp) (.int .u64 (Go.bits .xor .u64 x (IntKind.u64.wrap (x * 2 ^ (min (13 : Int).toNat (IntKind.bits .u64))))))
  refine ⟨hr, ?_⟩
  rintro w5 rfl
  generalize Go.bits .xor .u64 x (IntKind.u64.wrap (x * 2 ^ (min (13 : Int).toNat (IntKind.bits .u64)))) = x2 at hrow hu ⊢
  generalize setCells w1 ⟨r, 0, none⟩ 0 [.int .u64 x2] = w5 at hrow hu ⊢
  intro w6 hg6
  have h6 : Row w6 r e [.int .u64 x2] := Row.grew hrow hg6
  refine ⟨x2, by rw [h6.cell]; rfl, x2, by rw [h6.cell]; rfl, by decide, ?_⟩
  rintro n9 rfl
  obtain ⟨hr, hrow6, hu6⟩ := h6.set1 (o := 0) (by simp) (.int .u64 (Go.bits .xor .u64 x2 (Int.fdiv x2 (2 ^ (min (7 : Int).toNat (IntKind.bits .u64))))))
  refine ⟨hr, ?_⟩
  rintro w10 rfl
  generalize Go.bits .xor .u64 x2 (Int.fdiv x2 (2 ^ (min (7 : Int).toNat (IntKind.bits .u64)))) = x3 at hrow6 hu6 ⊢
  generalize setCells w6 ⟨r, 0, none⟩ 0 [.int .u64 x3] = w10 at hrow6 hu6 ⊢
  intro w11 hg11
  have h11 : Row w11 r e [.int .u64 x3] := Row.grew hrow6 hg11
  refine ⟨x3, by rw [h11.cell]; rfl, x3, by rw [h11.cell]; rfl, by decide, ?_⟩
  rintro n14 rfl
  obtain ⟨hr, hrow11, hu11⟩ := h11.set1 (o := 0) (by simp) (.int .u64 (Go.bits .xor .u64 x3 (IntKind.u64.wrap (x3 * 2 ^ (min (17 : Int).toNat (IntKind.bits .u64))))))
  refine ⟨hr, ?_⟩
  rintro w15 rfl
  have hx := xor_range x3 (IntKind.u64.wrap (x3 * 2 ^ (min (17 : Int).toNat (IntKind.bits .u64))))
  generalize Go.bits .xor .u64 x3 (IntKind.u64.wrap (x3 * 2 ^ (min (17 : Int).toNat (IntKind.bits .u64)))) = x4 at hrow11 hu11 hx ⊢
  generalize setCells w11 ⟨r, 0, none⟩ 0 [.int .u64 x4] = w15 at hrow11 hu11 ⊢
  have h15 : Row w15 r e [.int .u64 x4] := hrow11
  exact ⟨x4, by rw [h15.cell]; rfl, _, rfl, x4, rfl, hx.1, hx.2, h15, ((((hg1.upd.trans hu).then_grew hg6).trans hu6).then_grew hg11).trans hu11⟩
end Go.Proofs.YtcpkneemhfnanaaGreat
