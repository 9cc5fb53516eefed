/- What the reference's floats hand back. Conditions: none. -/
import Derived.Test.YtoljpkdokpinhaaGreatProg
import Derived.Test.YtoljpkdokpinhaaGreatMath
import Derived.Test.YtoljpkdokpinhaaGreatSxFh
namespace Go.Proofs.YtoljpkdokpinhaaGreat
open Go.Sx
set_option maxRecDepth 100000
set_option linter.unusedVariables false
set_option linter.unusedSimpArgs false
/- reprise/repriseraw.Bits -/
def sx44 (x : Nat) (R : Ending → World → Prop) (w : World) : Prop :=
  CallsW Tryz.prog 33 [.float .f64 x] w (RetR R fun u2 w1 => ∃ (n3 : Int), u2 = .int .u64 n3 ∧ R (.returned (.int .u64 n3)) w1)
theorem sx44.ok {x : Nat} {R : Ending → World → Prop} {w : World} (h : sx44 x R w) : CallsW Tryz.prog 44 [.float .f64 x] w R :=
  callsW_of mix Tryz.func44 (by kernel_rfl) (by kernel_rfl) (Eq.mpr (by kernel_rfl : denFn Tryz.prog {} Tryz.f44 [.float .f64 x] R w = sx44 x R w) h)

/- reprise/repriseraw.From -/
def sx52 (b : Int) (R : Ending → World → Prop) (w : World) : Prop :=
  CallsW Tryz.prog 28 [.int .u64 b] w (RetR R fun u2 w1 => ∃ (x3 : Nat), u2 = .float .f64 x3 ∧ R (.returned (.float .f64 x3)) w1)
theorem sx52.ok {b : Int} {R : Ending → World → Prop} {w : World} (h : sx52 b R w) : CallsW Tryz.prog 52 [.int .u64 b] w R :=
  callsW_of mix Tryz.func52 (by kernel_rfl) (by kernel_rfl) (Eq.mpr (by kernel_rfl : denFn Tryz.prog {} Tryz.f52 [.int .u64 b] R w = sx52 b R w) h)

/- reprise/repriseref01.parts -/
def sx62 (x : Nat) (R : Ending → World → Prop) (w : World) : Prop :=
  CallsW Tryz.prog 44 [.float .f64 x] w (RetR R fun u2 w1 => ∃ (n3 : Int), u2 = .int .u64 n3 ∧ 0 ≤ (52 : Int) ∧ ∀ n5 : Int, n5 = Int.fdiv n3 (2 ^ (min (52 : Int).toNat (IntKind.bits .u64))) → ∀ n6 : Int, n6 =
    IntKind.i64.wrap (Go.bits .and .u64 n5 2047) → ∀ n7 : Int, n7 = Go.bits .and .u64 n3 4503599627370495 → R (.returned (.tuple #[.int .i64 n6, .int .u64 n7])) w1)
theorem sx62.ok {x : Nat} {R : Ending → World → Prop} {w : World} (h : sx62 x R w) : CallsW Tryz.prog 62 [.float .f64 x] w R :=
  callsW_of mix Tryz.func62 (by kernel_rfl) (by kernel_rfl) (Eq.mpr (by kernel_rfl : denFn Tryz.prog { named := [8, 10, 12] } Tryz.f62 [.float .f64 x] R w = sx62 x R w) h)

/- reprise/repriseref01.Class -/
def sx51 (x : Nat) (R : Ending → World → Prop) (w : World) : Prop :=
  CallsW Tryz.prog 62 [.float .f64 x] w (RetR R fun u2 w1 => ∃ (n3 : Int) (n4 : Int), u2 = .tuple #[.int .i64 n3, .int .u64 n4] ∧ (((n3 == 2047) = true → (((n4 != 0) = true → R (.returned (.int .i64 5)) w1) ∧ ((n4 != 0) =
    false → (((n3 == 2047) = true → R (.returned (.int .i64 4)) w1) ∧ ((n3 == 2047) = false → (((n3 != 0) = true → R (.returned (.int .i64 3)) w1) ∧ ((n3 != 0) = false → (((n4 != 0) = true → R (.returned (.int .i64 2))
    w1) ∧ ((n4 != 0) = false → R (.returned (.int .i64 1)) w1))))))))) ∧ ((n3 == 2047) = false → (((n3 == 2047) = true → R (.returned (.int .i64 4)) w1) ∧ ((n3 == 2047) = false → (((n3 != 0) = true → R (.returned (.int
    .i64 3)) w1) ∧ ((n3 != 0) = false → (((n4 != 0) = true → R (.returned (.int .i64 2)) w1) ∧ ((n4 != 0) = false → R (.returned (.int .i64 1)) w1)))))))))
theorem sx51.ok {x : Nat} {R : Ending → World → Prop} {w : World} (h : sx51 x R w) : CallsW Tryz.prog 51 [.float .f64 x] w R :=
  callsW_of mix Tryz.func51 (by kernel_rfl) (by kernel_rfl) (Eq.mpr (by kernel_rfl : denFn Tryz.prog {} Tryz.f51 [.float .f64 x] R w = sx51 x R w) h)

/- reprise/repriseref01.Canon -/
def sx38 (x : Nat) (R : Ending → World → Prop) (w : World) : Prop :=
  CallsW Tryz.prog 51 [.float .f64 x] w (RetR R fun u2 w1 => ∃ (n3 : Int), u2 = .int .i64 n3 ∧ (((n3 == 5) = true → CallsW Tryz.prog 52 [.int .u64 9221120237041090561] w1 (RetR R fun u6 w5 => ∃ (x7 : Nat), u6 = .float .f64 x7
    ∧ R (.returned (.float .f64 x7)) w5)) ∧ ((n3 == 5) = false → R (.returned (.float .f64 x)) w1)))
theorem sx38.ok {x : Nat} {R : Ending → World → Prop} {w : World} (h : sx38 x R w) : CallsW Tryz.prog 38 [.float .f64 x] w R :=
  callsW_of mix Tryz.func38 (by kernel_rfl) (by kernel_rfl) (Eq.mpr (by kernel_rfl : denFn Tryz.prog {} Tryz.f38 [.float .f64 x] R w = sx38 x R w) h)

/- reprise/repriseref01.Of -/
def sx57 (n : Int) (R : Ending → World → Prop) (w : World) : Prop :=
  SemW Tryz.prog (convert 2 31 (.int .i64 n)) (fun u2 w1 => ∃ (x3 : Nat), u2 = .float .f64 x3 ∧ R (.returned (.float .f64 x3)) w1) w
theorem sx57.ok {n : Int} {R : Ending → World → Prop} {w : World} (h : sx57 n R w) : CallsW Tryz.prog 57 [.int .i64 n] w R :=
  callsW_of mix Tryz.func57 (by kernel_rfl) (by kernel_rfl) (Eq.mpr (by kernel_rfl : denFn Tryz.prog { sem := [4] } Tryz.f57 [.int .i64 n] R w = sx57 n R w) h)

/- reprise/repriseref01.Whole -/
def sx43 (x : Nat) (R : Ending → World → Prop) (w : World) : Prop :=
  CallsW Tryz.prog 62 [.float .f64 x] w (RetR R fun u2 w1 => ∃ (n3 : Int) (n4 : Int), u2 = .tuple #[.int .i64 n3, .int .u64 n4] ∧ CallsW Tryz.prog 44 [.float .f64 x] w1 (RetR R fun u7 w6 => ∃ (n8 : Int), u7 = .int .u64 n8 ∧
    CallsW Tryz.prog 51 [.float .f64 x] w6 (RetR R fun u11 w10 => ∃ (n12 : Int), u11 = .int .i64 n12 ∧ (((n12 == 5) = true → R (.returned (.int .i64 0)) w10) ∧ ((n12 == 5) = false → (((decide (n3 < 1023)) = true → R
    (.returned (.int .i64 0)) w10) ∧ ((decide (n3 < 1023)) = false → (((decide (n3 ≥ 1086)) = true → (((decide (n8 ≥ 9223372036854775808)) = true → R (.returned (.int .i64 (-9223372036854775808))) w10) ∧ ((decide (n8 ≥
    9223372036854775808)) = false → R (.returned (.int .i64 9223372036854775807)) w10))) ∧ ((decide (n3 ≥ 1086)) = false → ∀ n14 : Int, n14 = IntKind.u64.wrap (n4 + 4503599627370496) → (((decide (n3 ≥ 1075)) = true → ∀
    n15 : Int, n15 = IntKind.i64.wrap (n3 - 1075) → 0 ≤ (IntKind.u64.wrap n15) ∧ ∀ n16 : Int, n16 = IntKind.u64.wrap (n14 * 2 ^ (min (IntKind.u64.wrap n15).toNat (IntKind.bits .u64))) → (((decide (n8 ≥
    9223372036854775808)) = true → R (.returned (.int .i64 (IntKind.i64.wrap (0 - (IntKind.i64.wrap n16))))) w10) ∧ ((decide (n8 ≥ 9223372036854775808)) = false → R (.returned (.int .i64 (IntKind.i64.wrap n16))) w10))) ∧
    ((decide (n3 ≥ 1075)) = false → ∀ n17 : Int, n17 = IntKind.i64.wrap ((1075 : Int) - n3) → 0 ≤ (IntKind.u64.wrap n17) ∧ ∀ n18 : Int, n18 = Int.fdiv n14 (2 ^ (min (IntKind.u64.wrap n17).toNat (IntKind.bits .u64))) →
    (((decide (n8 ≥ 9223372036854775808)) = true → R (.returned (.int .i64 (IntKind.i64.wrap (0 - (IntKind.i64.wrap n18))))) w10) ∧ ((decide (n8 ≥ 9223372036854775808)) = false → R (.returned (.int .i64 (IntKind.i64.wrap
    n18))) w10)))))))))))))
theorem sx43.ok {x : Nat} {R : Ending → World → Prop} {w : World} (h : sx43 x R w) : CallsW Tryz.prog 43 [.float .f64 x] w R :=
  callsW_of mix Tryz.func43 (by kernel_rfl) (by kernel_rfl) (Eq.mpr (by kernel_rfl : denFn Tryz.prog { named := [26, 31, 33, 36, 38] } Tryz.f43 [.float .f64 x] R w = sx43 x R w) h)

/- reprise/repriseref01.Floor -/
def sx55 (x : Nat) (R : Ending → World → Prop) (w : World) : Prop :=
  CallsW Tryz.prog 62 [.float .f64 x] w (RetR R fun u2 w1 => ∃ (n3 : Int) (n4 : Int), u2 = .tuple #[.int .i64 n3, .int .u64 n4] ∧ CallsW Tryz.prog 51 [.float .f64 x] w1 (RetR R fun u7 w6 => ∃ (n8 : Int), u7 = .int .i64 n8 ∧
    (((n8 == 1) = true → CallsW Tryz.prog 38 [.float .f64 x] w6 (RetR R fun u11 w10 => ∃ (x12 : Nat), u11 = .float .f64 x12 ∧ R (.returned (.float .f64 x12)) w10)) ∧ ((n8 == 1) = false → (((decide (n3 ≥ 1075)) = true →
    CallsW Tryz.prog 38 [.float .f64 x] w6 (RetR R fun u15 w14 => ∃ (x16 : Nat), u15 = .float .f64 x16 ∧ R (.returned (.float .f64 x16)) w14)) ∧ ((decide (n3 ≥ 1075)) = false → CallsW Tryz.prog 43 [.float .f64 x] w6 (RetR R
    fun u19 w18 => ∃ (n20 : Int), u19 = .int .i64 n20 ∧ SemW Tryz.prog (convert 2 31 (.int .i64 n20)) (fun u23 w22 => ∃ (x24 : Nat), u23 = .float .f64 x24 ∧ ∃ (b25 : Bool), PureTo Tryz.prog (eqS .gtr 31 (.tmp 23) (.tmp 24)
    (.float .f64 x24) (.float .f64 x)) (.bool b25) ∧ ((b25 = true → SemW Tryz.prog (eqS .sub 31 (.tmp 26) (.const (.float .f64 4607182418800017408)) (.float .f64 x24) (.float .f64 4607182418800017408)) (fun u27 w26 => ∃
    (x28 : Nat), u27 = .float .f64 x28 ∧ R (.returned (.float .f64 x28)) w26) w22) ∧ (b25 = false → R (.returned (.float .f64 x24)) w22))) w18)))))))
theorem sx55.ok {x : Nat} {R : Ending → World → Prop} {w : World} (h : sx55 x R w) : CallsW Tryz.prog 55 [.float .f64 x] w R :=
  callsW_of mix Tryz.func55 (by kernel_rfl) (by kernel_rfl) (Eq.mpr (by kernel_rfl : denFn Tryz.prog { pureTo := [25], sem := [22, 27] } Tryz.f55 [.float .f64 x] R w = sx55 x R w) h)

/- reprise/repriseref01.Scale -/
def sx56 (d : Nat) (i : Int) (R : Ending → World → Prop) (w : World) : Prop :=
  CallsW Tryz.prog 51 [.float .f64 d] w (RetR R fun u2 w1 => ∃ (n3 : Int), u2 = .int .i64 n3 ∧ ∃ (J5 : World → Prop), ((((n3 != 2) = true → (((n3 != 3) = true → CallsW Tryz.prog 38 [.float .f64 d] w1 (RetR R fun u7 w6 => ∃
    (x8 : Nat), u7 = .float .f64 x8 ∧ R (.returned (.float .f64 x8)) w6)) ∧ ((n3 != 3) = false → J5 w1))) ∧ ((n3 != 2) = false → J5 w1))) ∧ ∀  (w10 : World), J5 w10 → ∃ (J11 : Int → World → Prop), ((((decide (i > 5000)) =
    true → J11 5000 w10) ∧ ((decide (i > 5000)) = false → J11 i w10))) ∧ ∀ (n12 : Int) (w13 : World), J11 n12 w13 → ∃ (J14 : Int → World → Prop), ((((decide (n12 < (-5000))) = true → J14 (-5000) w13) ∧ ((decide (n12 <
    (-5000))) = false → J14 n12 w13))) ∧ ∀ (n15 : Int) (w16 : World), J14 n15 w16 → CallsW Tryz.prog 62 [.float .f64 d] w16 (RetR R fun u18 w17 => ∃ (n19 : Int) (n20 : Int), u18 = .tuple #[.int .i64 n19, .int .u64 n20] ∧ ∃
    (J22 : Int → Int → World → Prop), ((((n3 == 3) = true → ∀ n23 : Int, n23 = IntKind.u64.wrap (n20 + 4503599627370496) → J22 n19 n23 w17) ∧ ((n3 == 3) = false → ∃ (I24 : Int → Int → World → Prop) (m24 : Int → Int →
    World → Nat), I24 1 n20 w17 ∧ ∀ (n25 : Int) (n26 : Int) (w27 : World), I24 n25 n26 w27 → (((decide (n26 < 4503599627370496)) = true → (I24 (IntKind.i64.wrap (n25 - 1)) (IntKind.u64.wrap (n26 * 2)) w27 ∧ m24
    (IntKind.i64.wrap (n25 - 1)) (IntKind.u64.wrap (n26 * 2)) w27 < m24 n25 n26 w27)) ∧ ((decide (n26 < 4503599627370496)) = false → J22 n25 n26 w27))))) ∧ ∀ (n28 : Int) (n29 : Int) (w30 : World), J22 n28 n29 w30 → ∀ n31
    : Int, n31 = IntKind.i64.wrap (n28 + n15) → CallsW Tryz.prog 44 [.float .f64 d] w30 (RetR R fun u33 w32 => ∃ (n34 : Int), u33 = .int .u64 n34 ∧ (((9223372036854775808 : Int) = 0 → R (.panicked (divPanic Tryz.prog)) w32)
    ∧ ((9223372036854775808 : Int) ≠ 0 → ∀ n36 : Int, n36 = IntKind.u64.wrap (Int.tdiv n34 9223372036854775808) → ∀ n37 : Int, n37 = IntKind.u64.wrap (n36 * 9223372036854775808) → (((decide (n31 ≥ 2047)) = true → ∀ n38 :
    Int, n38 = IntKind.u64.wrap (n37 + 9218868437227405312) → CallsW Tryz.prog 52 [.int .u64 n38] w32 (RetR R fun u40 w39 => ∃ (x41 : Nat), u40 = .float .f64 x41 ∧ R (.returned (.float .f64 x41)) w39)) ∧ ((decide (n31 ≥
    2047)) = false → (((decide (n31 ≥ 1)) = true → ∀ n43 : Int, n43 = IntKind.u64.wrap (IntKind.i64.wrap (n31 - 1)) → 0 ≤ (52 : Int) ∧ ∀ n44 : Int, n44 = IntKind.u64.wrap (n43 * 2 ^ (min (52 : Int).toNat (IntKind.bits
    .u64))) → ∀ n45 : Int, n45 = IntKind.u64.wrap (n37 + n44) → ∀ n46 : Int, n46 = IntKind.u64.wrap (n45 + n29) → CallsW Tryz.prog 52 [.int .u64 n46] w32 (RetR R fun u48 w47 => ∃ (x49 : Nat), u48 = .float .f64 x49 ∧ R
    (.returned (.float .f64 x49)) w47)) ∧ ((decide (n31 ≥ 1)) = false → ∀ n51 : Int, n51 = IntKind.i64.wrap ((1 : Int) - n31) → (((decide ((IntKind.u64.wrap n51) > 54)) = true → CallsW Tryz.prog 52 [.int .u64 n37] w32
    (RetR R fun u53 w52 => ∃ (x54 : Nat), u53 = .float .f64 x54 ∧ R (.returned (.float .f64 x54)) w52)) ∧ ((decide ((IntKind.u64.wrap n51) > 54)) = false → 0 ≤ (IntKind.u64.wrap n51) ∧ ∀ n56 : Int, n56 = Int.fdiv n29 (2 ^
    (min (IntKind.u64.wrap n51).toNat (IntKind.bits .u64))) → 0 ≤ (IntKind.u64.wrap n51) ∧ ∀ n57 : Int, n57 = IntKind.u64.wrap (n56 * 2 ^ (min (IntKind.u64.wrap n51).toNat (IntKind.bits .u64))) → ∀ n58 : Int, n58 =
    IntKind.u64.wrap (n29 - n57) → ∀ n59 : Int, n59 = IntKind.u64.wrap ((IntKind.u64.wrap n51) - 1) → 0 ≤ n59 ∧ ∀ n60 : Int, n60 = IntKind.u64.wrap ((1 : Int) * 2 ^ (min n59.toNat (IntKind.bits .u64))) → (((decide (n58 >
    n60)) = true → ∀ n61 : Int, n61 = IntKind.u64.wrap (n37 + (IntKind.u64.wrap (n56 + 1))) → CallsW Tryz.prog 52 [.int .u64 n61] w32 (RetR R fun u63 w62 => ∃ (x64 : Nat), u63 = .float .f64 x64 ∧ R (.returned (.float .f64
    x64)) w62)) ∧ ((decide (n58 > n60)) = false → (((n58 == n60) = true → (((2 : Int) = 0 → R (.panicked (divPanic Tryz.prog)) w32) ∧ ((2 : Int) ≠ 0 → ((((Int.tmod n56 2) == 1) = true → ∀ n66 : Int, n66 = IntKind.u64.wrap
    (n37 + (IntKind.u64.wrap (n56 + 1))) → CallsW Tryz.prog 52 [.int .u64 n66] w32 (RetR R fun u68 w67 => ∃ (x69 : Nat), u68 = .float .f64 x69 ∧ R (.returned (.float .f64 x69)) w67)) ∧ (((Int.tmod n56 2) == 1) = false → ∀
    n71 : Int, n71 = IntKind.u64.wrap (n37 + n56) → CallsW Tryz.prog 52 [.int .u64 n71] w32 (RetR R fun u73 w72 => ∃ (x74 : Nat), u73 = .float .f64 x74 ∧ R (.returned (.float .f64 x74)) w72)))))) ∧ ((n58 == n60) = false →
    ∀ n76 : Int, n76 = IntKind.u64.wrap (n37 + n56) → CallsW Tryz.prog 52 [.int .u64 n76] w32 (RetR R fun u78 w77 => ∃ (x79 : Nat), u78 = .float .f64 x79 ∧ R (.returned (.float .f64 x79)) w77))))))))))))))))
theorem sx56.ok {d : Nat} {i : Int} {R : Ending → World → Prop} {w : World} (h : sx56 d i R w) : CallsW Tryz.prog 56 [.float .f64 d, .int .i64 i] w R :=
  callsW_of mix Tryz.func56 (by kernel_rfl) (by kernel_rfl) (Eq.mpr (by kernel_rfl : denFn Tryz.prog { named := [35, 44, 47, 48, 52, 59, 60, 61, 63, 66, 74, 78, 79, 81, 82, 100], loops := [(12, { slots := [(6, .int .i64), (7, .int .u64)], cells := [] })], cuts := [(4, { slots := [], cells := [] }), (6, { slots := [(1, .int .i64)], cells := [] }), (8, { slots := [(1, .int .i64)], cells := [] }), (15, { slots := [(6, .int .i64), (7, .int .u64)], cells := [] })] } Tryz.f56 [.float .f64 d, .int .i64 i] R w = sx56 d i R w) h)


theorem rbits_ok {x : Nat} {w : World} : CallsW Tryz.prog 44 [.float .f64 x] w (Rets fun v w' => v = .int .u64 (x : Int) ∧ w' = w) := by
  refine sx44.ok ?_
  unfold sx44
  refine fbits_ok.use fun v w1 ⟨hv, hw⟩ => ?_
  subst hv; subst hw
  exact ⟨_, rfl, _, rfl, rfl, rfl⟩
theorem rfrom_ok {n : Int} {w : World} : CallsW Tryz.prog 52 [.int .u64 n] w (Rets fun v w' => v = .float .f64 n.toNat ∧ w' = w) := by
  refine sx52.ok ?_
  unfold sx52
  refine ffrom_ok.use fun v w1 ⟨hv, hw⟩ => ?_
  subst hv; subst hw
  exact ⟨_, rfl, _, rfl, rfl, rfl⟩
theorem and_mask {a : Nat} (ha : a < 18446744073709551616) : Go.bits .and .u64 (a : Int) 4503599627370495 = ((a % 4503599627370496 : Nat) : Int) ∧ Go.bits .and .u64 (a : Int) 2047 = ((a % 2048 : Nat) : Int) := by
  have h := fun (b : Nat) (hb : b < 2 ^ 64) => (bits_nat .u64 64 (by decide) (fun n h0 h1 => by rw [IntKind.wrap_u64]; omega) a b (by omega) hb).1
  constructor
  · rw [show (4503599627370495 : Int) = ((4503599627370495 : Nat) : Int) from rfl, h _ (by decide), show (4503599627370495 : Nat) = 2 ^ 52 - 1 from by decide, Nat.and_two_pow_sub_one_eq_mod]
  · rw [show (2047 : Int) = ((2047 : Nat) : Int) from rfl, h _ (by decide), show (2047 : Nat) = 2 ^ 11 - 1 from by decide, Nat.and_two_pow_sub_one_eq_mod]
theorem parts_ok {x : Nat} {w : World} (hx : x < FL) : CallsW Tryz.prog 62 [.float .f64 x] w (Rets fun v w' => v = .tuple #[.int .i64 (expN x), .int .u64 (fracN x)] ∧ w' = w) := by
  refine sx62.ok ?_
  unfold sx62
  refine rbits_ok.use fun v w1 ⟨hv, hw⟩ => ?_
  subst hv; subst hw
  refine ⟨_, rfl, by decide, fun n5 h5 n6 h6 n7 h7 => ⟨_, rfl, ?_, rfl⟩⟩
  have e5 : n5 = ((x / 4503599627370496 : Nat) : Int) := by
    rw [h5, show (2 : Int) ^ (min (52 : Int).toNat (IntKind.bits .u64)) = ((4503599627370496 : Nat) : Int) from by decide, Int.fdiv_eq_ediv_of_nonneg _ (by omega)]; rfl
  have e6 : n6 = (expN x : Int) := by
    have hx' : x < 18446744073709551616 := hx
    rw [h6, e5, (and_mask (by omega)).2, IntKind.wrap_i64]
    show ((((expN x : Nat) : Int) + _) % _ - _) = _
    have := expN_lt x
    omega
  rw [h7, (and_mask hx).1, e6]; rfl

/-- the class of a float -/
def classN (x : Nat) : Int := if expN x = 2047 then (if fracN x ≠ 0 then 5 else 4) else if expN x ≠ 0 then 3 else if fracN x ≠ 0 then 2 else 1
theorem Class_ok {x : Nat} {w : World} (hx : x < FL) : CallsW Tryz.prog 51 [.float .f64 x] w (Rets fun v w' => v = .int .i64 (classN x) ∧ w' = w) := by
  refine sx51.ok ?_
  unfold sx51
  refine (parts_ok hx).use fun v w1 ⟨hv, hw⟩ => ?_
  subst hv; subst hw
  have fin : ∀ n : Int, n = classN x → Rets (fun v w' => v = Value.int .i64 (classN x) ∧ w' = w1) (.returned (.int .i64 n)) w1 := fun n h => ⟨_, rfl, by rw [h], rfl⟩
  have last : ∀ (h : ((expN x : Int) == 2047) = false),
    (((((expN x : Int) == 2047) = true → Rets (fun v w' => v = Value.int .i64 (classN x) ∧ w' = w1) (.returned (.int .i64 4)) w1) ∧ (((expN x : Int) == 2047) = false → ((((expN x : Int) != 0) = true → Rets (fun v w' => v = Value.int .i64 (classN x) ∧ w' = w1) (.returned (.int .i64 3)) w1) ∧ (((expN x : Int) != 0) = false → ((((fracN x : Int) != 0) = true → Rets (fun v w' => v = Value.int .i64 (classN x) ∧ w' = w1) (.returned (.int .i64 2)) w1) ∧ (((fracN x : Int) != 0) = false → Rets (fun v w' => v = Value.int .i64 (classN x) ∧ w' = w1) (.returned (.int .i64 1)) w1))))))) := by
    intro h
    refine ⟨fun h' => (by rw [h] at h'; cases h'), fun _ => ⟨fun h2 => fin _ ?_, fun h2 => ⟨fun h3 => fin _ ?_, fun h3 => fin _ ?_⟩⟩⟩
    all_goals simp only [beq_eq_false_iff_ne, bne_iff_ne, bne_eq_false_iff_eq, ne_eq] at *
    all_goals unfold classN
    · rw [if_neg (by omega), if_pos (by omega)]
    · rw [if_neg (by omega), if_neg (by omega), if_pos (by omega)]
    · rw [if_neg (by omega), if_neg (by omega), if_neg (by omega)]
  refine ⟨_, _, rfl, fun h => ⟨fun h2 => fin _ ?_, fun h2 => ⟨fun _ => fin _ ?_, fun h' => (by rw [h] at h'; cases h')⟩⟩, last⟩
  · simp only [beq_iff_eq, bne_iff_ne, ne_eq] at h h2
    unfold classN; rw [if_pos (by omega), if_pos (by omega)]
  · simp only [beq_iff_eq, bne_eq_false_iff_eq] at h h2
    unfold classN; rw [if_pos (by omega), if_neg (by omega)]
theorem class5 (x : Nat) : (classN x == 5) = nanB x := by
  rw [nan_iff]; unfold classN
  rw [Bool.eq_iff_iff, beq_iff_eq, decide_eq_true_eq]
  repeat' split
  all_goals omega
theorem RCanon_ok {x : Nat} {w : World} (hx : x < FL) : CallsW Tryz.prog 38 [.float .f64 x] w (Rets fun v w' => v = .float .f64 (canonF x) ∧ w' = w) := by
  refine sx38.ok ?_
  unfold sx38
  refine (Class_ok hx).use fun v w1 ⟨hv, hw⟩ => ?_
  subst hv; subst hw
  refine ⟨_, rfl, fun h => rfrom_ok.use fun v w1 ⟨hv, hw⟩ => ?_, fun h => ⟨_, rfl, ?_, rfl⟩⟩
  · subst hv; subst hw
    rw [class5] at h
    exact ⟨_, rfl, _, rfl, by rw [canonF_nan h]; rfl, rfl⟩
  · rw [class5] at h
    rw [canonF_num h]
theorem ROf_ok {n : Int} {w : World} : CallsW Tryz.prog 57 [.int .i64 n] w (Rets fun v w' => v = .float .f64 (numOf n) ∧ w' = w) := by
  refine sx57.ok ?_
  unfold sx57
  exact semOf_pure (v := .float .f64 (numOf n)) (fun w => run_convert_int_float w _ _ .i64 .f64 n (by kernel_rfl) (by kernel_rfl)) ⟨_, rfl, _, rfl, rfl, rfl⟩

theorem pow2N {j : Nat} : (2 : Int) ^ j = ((2 ^ j : Nat) : Int) := by rw [Int.natCast_pow]; rfl
theorem min64 {a : Int} {j : Nat} (h : a = (j : Int)) (hj : j ≤ 64) : min a.toNat (IntKind.bits .u64) = j := by rw [h, Int.toNat_natCast]; exact Nat.min_eq_left hj
theorem wrap_nat {k : Nat} (h : k < 9223372036854775808) : IntKind.i64.wrap (k : Int) = (k : Int) := by rw [IntKind.wrap_i64]; omega
theorem wrap_natU {k : Nat} (h : k < 18446744073709551616) : IntKind.u64.wrap (k : Int) = (k : Int) := by rw [IntKind.wrap_u64]; omega
theorem wrap_neg {k : Nat} (h : k < 9223372036854775808) : IntKind.i64.wrap (0 - IntKind.i64.wrap (k : Int)) = -(k : Int) := by
  rw [wrap_nat h, IntKind.wrap_i64]; omega
theorem pow10 {j : Nat} (h : j ≤ 10) : (2 : Nat) ^ j ≤ 1024 := Nat.pow_le_pow_right (by decide) h
theorem RWhole_ok {x : Nat} {w : World} (hx : x < FL) : CallsW Tryz.prog 43 [.float .f64 x] w (Rets fun v w' => v = .int .i64 (wholeF x) ∧ w' = w) := by
  refine sx43.ok ?_
  unfold sx43
  refine (parts_ok hx).use fun v w1 ⟨hv, hw⟩ => ?_
  subst hv; subst hw
  refine ⟨_, _, rfl, rbits_ok.use fun v w1 ⟨hv, hw⟩ => ?_⟩
  subst hv; subst hw
  refine ⟨_, rfl, (Class_ok hx).use fun v w1 ⟨hv, hw⟩ => ?_⟩
  subst hv; subst hw
  have hE := expN_lt x
  have hf := fracN_lt x
  have fin : ∀ n : Int, n = wholeF x → Rets (fun v w' => v = Value.int .i64 (wholeF x) ∧ w' = w1) (.returned (.int .i64 n)) w1 := fun n h => ⟨_, rfl, by rw [h], rfl⟩
  have hw := wholeF_bits x
  have hneg := negB_iff hx
  refine ⟨_, rfl, fun h => fin _ ?_, fun h0 => ⟨fun h => fin _ ?_, fun h1 => ⟨fun h => ⟨fun h2 => fin _ ?_, fun h2 => fin _ ?_⟩, fun h2 n14 h14 => ⟨fun h3 n15 h15 => ⟨?_, fun n16 h16 => ⟨fun h4 => fin _ ?_, fun h4 => fin _ ?_⟩⟩, fun h3 n17 h17 => ⟨?_, fun n18 h18 => ⟨fun h4 => fin _ ?_, fun h4 => fin _ ?_⟩⟩⟩⟩⟩⟩
  all_goals simp only [class5, nan_iff, decide_eq_true_eq, decide_eq_false_iff_not] at *
  · rw [hw, if_pos h]
  · rw [hw, if_neg h0, if_neg (by omega)]
    have hz : wholeN x = 0 := by
      unfold wholeN; rw [if_neg (by omega)]
      have hp : 53 ≤ (-plN x).toNat := by unfold plN; split <;> omega
      have h1 : (2 : Nat) ^ 53 ≤ 2 ^ (-plN x).toNat := Nat.pow_le_pow_right (by decide) hp
      have h2 : (2 : Nat) ^ 53 = 9007199254740992 := by decide
      have h3 := magN_lt x
      exact Nat.div_eq_of_lt (by omega)
    rw [hz]; split <;> rfl
  · rw [hw, if_neg h0, if_pos (by omega), hneg, if_pos (by rw [decide_eq_true_eq]; omega)]
  · rw [hw, if_neg h0, if_pos (by omega), hneg, if_neg (by rw [decide_eq_true_eq]; omega)]
  · rw [IntKind.wrap_u64]; omega
  · have hj : (2 : Nat) ^ (expN x - 1075) ≤ 1024 := pow10 (by omega)
    have e14 : n14 = ((4503599627370496 + fracN x : Nat) : Int) := by rw [h14, IntKind.wrap_u64]; omega
    have e15 : (min (IntKind.u64.wrap n15).toNat (IntKind.bits .u64)) = expN x - 1075 := min64 (by rw [h15, IntKind.wrap_u64, IntKind.wrap_i64]; omega) (by omega)
    have hN : wholeN x = (4503599627370496 + fracN x) * 2 ^ (expN x - 1075) := by unfold wholeN magN; rw [if_pos (by omega), if_neg (by omega)]
    have hlt : (4503599627370496 + fracN x) * 2 ^ (expN x - 1075) ≤ (4503599627370496 + fracN x) * 1024 := Nat.mul_le_mul_left _ hj
    rw [h16, e15, e14, pow2N, ← Int.natCast_mul, ← hN]
    rw [← hN] at hlt
    rw [hw, if_neg h0, if_neg (by omega), hneg, if_pos (by rw [decide_eq_true_eq]; omega), wrap_natU (by omega), wrap_neg (by omega)]
  · have hj : (2 : Nat) ^ (expN x - 1075) ≤ 1024 := pow10 (by omega)
    have e14 : n14 = ((4503599627370496 + fracN x : Nat) : Int) := by rw [h14, IntKind.wrap_u64]; omega
    have e15 : (min (IntKind.u64.wrap n15).toNat (IntKind.bits .u64)) = expN x - 1075 := min64 (by rw [h15, IntKind.wrap_u64, IntKind.wrap_i64]; omega) (by omega)
    have hN : wholeN x = (4503599627370496 + fracN x) * 2 ^ (expN x - 1075) := by unfold wholeN magN; rw [if_pos (by omega), if_neg (by omega)]
    have hlt : (4503599627370496 + fracN x) * 2 ^ (expN x - 1075) ≤ (4503599627370496 + fracN x) * 1024 := Nat.mul_le_mul_left _ hj
    rw [h16, e15, e14, pow2N, ← Int.natCast_mul, ← hN]
    rw [← hN] at hlt
    rw [hw, if_neg h0, if_neg (by omega), hneg, if_neg (by rw [decide_eq_true_eq]; omega), wrap_natU (by omega), wrap_nat (by omega)]
  · rw [IntKind.wrap_u64]; omega
  · have e14 : n14 = ((4503599627370496 + fracN x : Nat) : Int) := by rw [h14, IntKind.wrap_u64]; omega
    have e17 : (min (IntKind.u64.wrap n17).toNat (IntKind.bits .u64)) = 1075 - expN x := min64 (by rw [h17, IntKind.wrap_u64, IntKind.wrap_i64]; omega) (by omega)
    have hN : wholeN x = (4503599627370496 + fracN x) / 2 ^ (1075 - expN x) := by
      unfold wholeN magN plN; rw [if_neg (by omega), if_neg (by omega), if_neg (by omega), show (-((expN x : Int) - 1075)).toNat = 1075 - expN x from by omega]
    have hle : (4503599627370496 + fracN x) / 2 ^ (1075 - expN x) ≤ 4503599627370496 + fracN x := Nat.div_le_self _ _
    rw [h18, e17, e14, pow2N, Int.fdiv_eq_ediv_of_nonneg _ (Int.natCast_nonneg _), ← Int.natCast_ediv, ← hN]
    rw [← hN] at hle
    rw [hw, if_neg h0, if_neg (by omega), hneg, if_pos (by rw [decide_eq_true_eq]; omega), wrap_neg (by omega)]
  · have e14 : n14 = ((4503599627370496 + fracN x : Nat) : Int) := by rw [h14, IntKind.wrap_u64]; omega
    have e17 : (min (IntKind.u64.wrap n17).toNat (IntKind.bits .u64)) = 1075 - expN x := min64 (by rw [h17, IntKind.wrap_u64, IntKind.wrap_i64]; omega) (by omega)
    have hN : wholeN x = (4503599627370496 + fracN x) / 2 ^ (1075 - expN x) := by
      unfold wholeN magN plN; rw [if_neg (by omega), if_neg (by omega), if_neg (by omega), show (-((expN x : Int) - 1075)).toNat = 1075 - expN x from by omega]
    have hle : (4503599627370496 + fracN x) / 2 ^ (1075 - expN x) ≤ 4503599627370496 + fracN x := Nat.div_le_self _ _
    rw [h18, e17, e14, pow2N, Int.fdiv_eq_ediv_of_nonneg _ (Int.natCast_nonneg _), ← Int.natCast_ediv, ← hN]
    rw [← hN] at hle
    rw [hw, if_neg h0, if_neg (by omega), hneg, if_neg (by rw [decide_eq_true_eq]; omega), wrap_nat (by omega)]
theorem RFloor_ok {x : Nat} {w : World} (hx : x < FL) : CallsW Tryz.prog 55 [.float .f64 x] w (Rets fun v w' => v = .float .f64 (floorF x) ∧ Grew w w') := by
  refine sx55.ok ?_
  unfold sx55
  refine (parts_ok hx).use fun v w1 ⟨hv, hw⟩ => ?_
  subst hv; subst hw
  refine ⟨_, _, rfl, (Class_ok hx).use fun v w1 ⟨hv, hw⟩ => ?_⟩
  subst hv; subst hw
  refine ⟨_, rfl, fun h => (RCanon_ok hx).use fun v w1 ⟨hv, hw⟩ => ?_, fun h0 => ⟨fun h => (RCanon_ok hx).use fun v w1 ⟨hv, hw⟩ => ?_, fun h1 => (RWhole_ok hx).use fun v w1 ⟨hv, hw⟩ => ?_⟩⟩
  · subst hv; subst hw
    refine ⟨_, rfl, _, rfl, ?_, Grew.refl _⟩
    rw [floor_whole hx (.inl ?_)]
    simp only [beq_iff_eq] at h
    unfold classN at h
    repeat' split at h
    all_goals first | omega | exact ⟨by omega, by omega⟩
  · subst hv; subst hw
    simp only [decide_eq_true_eq] at h
    exact ⟨_, rfl, _, rfl, by rw [floor_whole hx (.inr (by omega))], Grew.refl _⟩
  · subst hv; subst hw
    simp only [decide_eq_false_iff_not, beq_eq_false_iff_ne, ne_eq] at h0 h1
    have hnz : ¬(expN x = 0 ∧ fracN x = 0) := by
      rintro ⟨a, b⟩
      apply h0
      unfold classN
      rw [if_neg (by omega), if_neg (by omega), if_neg (by omega)]
    obtain ⟨p1, p2, p3⟩ := floor_part hx hnz (by omega)
    refine ⟨_, rfl, semOf_pure (v := .float .f64 (numOf (wholeF x))) (fun w => run_convert_int_float w _ _ .i64 .f64 _ (by kernel_rfl) (by kernel_rfl)) ⟨_, rfl, _, eqF_gtr, fun hb => ?_, fun hb => ⟨_, rfl, ?_, Grew.refl _⟩⟩⟩
    · rw [p1] at hb
      refine arith_sem (.inr (.inl rfl)) fun r w2 hg hr => ?_
      have e : floatBits .sub .f64 (numOf (wholeF x)) 4607182418800017408 = some (floorF x) := p3 hb
      rw [e] at hr
      rcases hr with hr | ⟨hr, -⟩
      · cases hr
        exact ⟨_, rfl, _, rfl, rfl, hg⟩
      · cases hr
    · rw [p1] at hb
      rw [p2 hb]
/-- a sign bit and a rung make the float -/
theorem sign_word {x r : Nat} (hx : x < FL) (hr : r ≤ 9218868437227405312) {n : Int} (hn : n = ((x / 9223372036854775808 * 9223372036854775808 + r : Nat) : Int)) : n.toNat = Ieee.double.word (negB x) r := by
  have hx' : x < 18446744073709551616 := hx
  rw [hn, Int.toNat_natCast, word_eq, negB_iff hx]
  by_cases h : 9223372036854775808 ≤ x
  · rw [if_pos (by rw [decide_eq_true_eq]; exact h)]; omega
  · rw [if_neg (by rw [decide_eq_true_eq]; exact h)]; omega
theorem sign_lt {x r : Nat} (hx : x < FL) (hr : r ≤ 9218868437227405312) {n : Int} (hn : n = ((x / 9223372036854775808 * 9223372036854775808 + r : Nat) : Int)) : n.toNat < FL := by
  have hx' : x < 18446744073709551616 := hx
  show n.toNat < 18446744073709551616
  rw [hn, Int.toNat_natCast]; omega
/-- the cut of a rung, in the reference's words -/
theorem cut_case {m d : Nat} (hd : 1 ≤ d) : (2 ^ (d - 1) < m % 2 ^ d → cutE m d = m / 2 ^ d + 1) ∧ (m % 2 ^ d = 2 ^ (d - 1) → m / 2 ^ d % 2 = 1 → cutE m d = m / 2 ^ d + 1) ∧ (m % 2 ^ d = 2 ^ (d - 1) → m / 2 ^ d % 2 ≠ 1 → cutE m d = m / 2 ^ d) ∧ (m % 2 ^ d < 2 ^ (d - 1) → cutE m d = m / 2 ^ d) := by
  have e : (2 : Nat) ^ d = 2 * 2 ^ (d - 1) := by rw [← Nat.pow_succ']; congr 1; omega
  unfold cutE
  generalize (2 : Nat) ^ d = q at e
  generalize (2 : Nat) ^ (d - 1) = h at e
  refine ⟨fun h1 => ?_, fun h1 h2 => ?_, fun h1 h2 => ?_, fun h1 => ?_⟩
  · rw [decide_eq_true (by omega)]; rfl
  · rw [h1, show (q == 2 * h) = true from by rw [beq_iff_eq]; omega, h2]; simp
  · rw [h1, show (m / q % 2 == 1) = false from by rw [beq_eq_false_iff_ne]; exact h2, decide_eq_false (by omega)]; simp
  · rw [decide_eq_false (by omega), show (q == 2 * (m % q)) = false from by rw [beq_eq_false_iff_ne]; omega]; rfl
theorem cutE_le {m d : Nat} (hm : m < 9007199254740992) (hd : 1 ≤ d) : cutE m d ≤ 9218868437227405312 ∧ m / 2 ^ d < 9007199254740992 := by
  have h3 := Nat.div_le_self m (2 ^ d)
  have := fun b => Bool.toNat_le b
  unfold cutE
  constructor
  · have h4 := Bool.toNat_le (decide (2 ^ d < 2 * (m % 2 ^ d)) || (2 ^ d == 2 * (m % 2 ^ d) && m / 2 ^ d % 2 == 1))
    omega
  · omega
theorem RScale_ok {x : Nat} {n : Int} {w : World} (hx : x < FL) : CallsW Tryz.prog 56 [.float .f64 x, .int .i64 n] w (Rets fun v w' => ∃ y, v = .float .f64 y ∧ canonF y = scaleF x n ∧ y < FL ∧ Grew w w') := by
  refine sx56.ok ?_
  unfold sx56
  rw [scaleF_eq hx]
  have hx' : x < 18446744073709551616 := hx
  have hE := expN_lt x
  have hf := fracN_lt x
  refine (Class_ok hx).use fun v w1 ⟨hv, hw⟩ => ?_
  subst hv; subst hw
  refine ⟨_, rfl, fun w' => w' = w1 ∧ (classN x = 2 ∨ classN x = 3), ⟨fun h2 => ⟨fun h3 => ?_, fun h3 => ⟨rfl, .inr ?_⟩⟩, fun h2 => ⟨rfl, .inl ?_⟩⟩, ?_⟩
  · refine (RCanon_ok hx).use fun v w1 ⟨hv, hw⟩ => ?_
    subst hv; subst hw
    refine ⟨_, rfl, _, rfl, _, rfl, ?_, canonF_lt hx, Grew.refl _⟩
    rw [canonF_canon, scaleS_zero]
    simp only [bne_iff_ne, ne_eq] at h2 h3
    rw [nan_iff, inf_iff]
    unfold classN at h2 h3
    have hrung := rung_eq x
    by_cases hE2 : expN x = 2047
    · by_cases hF : fracN x = 0
      · rw [decide_eq_true (show expN x = 2047 ∧ fracN x = 0 from ⟨hE2, hF⟩)]; simp
      · rw [decide_eq_true (show expN x = 2047 ∧ fracN x ≠ 0 from ⟨hE2, hF⟩)]; simp
    · rw [if_neg hE2] at h2 h3
      by_cases hE0 : expN x ≠ 0
      · rw [if_pos hE0] at h3; exact absurd rfl h3
      · rw [if_neg hE0] at h2
        by_cases hF : fracN x ≠ 0
        · rw [if_pos hF] at h2; exact absurd rfl h2
        · rw [decide_eq_true (show x % 9223372036854775808 = 0 by omega)]; simp
  · simpa using h3
  · simpa using h2
  rintro w2 ⟨hw, hcl⟩
  subst hw
  have hk := clampN_in n
  have hclN : clampN n = if (if n > 5000 then 5000 else n) < -5000 then -5000 else (if n > 5000 then 5000 else n) := by
    unfold clampN; repeat' split <;> try omega
  refine ⟨fun m w' => m = (if n > 5000 then 5000 else n) ∧ w' = w2, ⟨fun h => ⟨?_, rfl⟩, fun h => ⟨?_, rfl⟩⟩, ?_⟩
  · simp only [decide_eq_true_eq] at h; rw [if_pos h]
  · simp only [decide_eq_false_iff_not] at h; rw [if_neg h]
  rintro m w3 ⟨rfl, hw⟩
  subst hw
  refine ⟨fun m w' => m = clampN n ∧ w' = w3, ⟨fun h => ⟨?_, rfl⟩, fun h => ⟨?_, rfl⟩⟩, ?_⟩
  · simp only [decide_eq_true_eq] at h; rw [hclN, if_pos h]
  · simp only [decide_eq_false_iff_not] at h; rw [hclN, if_neg h]
  rintro m w4 ⟨rfl, hw⟩
  subst hw
  generalize clampN n = k at hk ⊢
  clear hclN
  refine (parts_ok hx).use fun v w1 ⟨hv, hw⟩ => ?_
  subst hv; subst hw
  have hnum : expN x < 2047 ∧ (x % 9223372036854775808 ≠ 0) ∧ (classN x = 3 ↔ expN x ≠ 0) := by
    have hrung := rung_eq x
    unfold classN at hcl ⊢
    by_cases hE2 : expN x = 2047
    · rw [if_pos hE2] at hcl
      by_cases hF : fracN x ≠ 0
      · rw [if_pos hF] at hcl; omega
      · rw [if_neg hF] at hcl; omega
    · rw [if_neg hE2] at hcl ⊢
      by_cases hE0 : expN x ≠ 0
      · rw [if_pos hE0]; exact ⟨by omega, by omega, by simp [hE0]⟩
      · rw [if_neg hE0] at hcl ⊢
        by_cases hF : fracN x ≠ 0
        · rw [if_pos hF]; exact ⟨by omega, by omega, by simp [hE0]⟩
        · rw [if_neg hF] at hcl; omega
  obtain ⟨hE1, hnz, h3iff⟩ := hnum
  have hS : scaleS x k = nearF (negB x) (magN x) (plN x + k) := by
    apply scaleS_num
    rw [nan_iff, inf_iff, decide_eq_false (by omega), decide_eq_false (by omega), decide_eq_false hnz]; rfl
  rw [hS]
  refine ⟨_, _, rfl, fun e m w' => ∃ M : Nat, m = M ∧ 4503599627370496 ≤ M ∧ M < 9007199254740992 ∧ (-60 ≤ e ∧ e ≤ 2046) ∧ (nearF (negB x) (magN x) (plN x + k) = nearF (negB x) M (e + k - 1075)) ∧ w' = w1, ⟨fun h n23 h23 => ?_, fun h => ?_⟩, ?_⟩
  · have hc : expN x ≠ 0 := h3iff.1 (by simpa using h)
    have hm : magN x = 4503599627370496 + fracN x := by unfold magN; rw [if_neg hc]
    have hp : plN x = (expN x : Int) - 1075 := by unfold plN; rw [if_neg hc]
    refine ⟨magN x, ?_, by omega, magN_lt x, ⟨by omega, by omega⟩, ?_, rfl⟩
    · rw [h23, hm, IntKind.wrap_u64]; omega
    · rw [hp]; congr 1; omega
  · have hc : expN x = 0 := Decidable.byContradiction fun hc => by rw [h3iff.2 hc] at h; cases h
    have hm : magN x = fracN x := by unfold magN; rw [if_pos hc]
    have hp : plN x = -1074 := by unfold plN; rw [if_pos hc]
    have hrung := rung_eq x
    refine ⟨fun e m w' => ∃ j M : Nat, m = M ∧ e = 1 - (j : Int) ∧ M = magN x * 2 ^ j ∧ j ≤ 52 ∧ 1 ≤ M ∧ 2 ^ j ≤ M ∧ M < 9007199254740992 ∧ w' = w1, fun _ m _ => 9007199254740992 - m.toNat, ⟨0, magN x, by rw [hm], rfl, by omega, by omega, by omega, by rw [Nat.pow_zero]; omega, magN_lt x, rfl⟩, ?_⟩
    rintro e m w5 ⟨j, M, rfl, rfl, hM, hj, h1, hjM, h2, hw⟩
    subst hw
    refine ⟨fun hlt => ?_, fun hge => ?_⟩
    · simp only [decide_eq_true_eq] at hlt
      have hj' : j < 52 := by
        have : (2 : Nat) ^ j < 2 ^ 52 := by
          have : (2 : Nat) ^ 52 = 4503599627370496 := by decide
          omega
        exact (Nat.pow_lt_pow_iff_right (by decide)).1 this
      have e1 : IntKind.i64.wrap (1 - (j : Int) - 1) = 1 - ((j + 1 : Nat) : Int) := by rw [IntKind.wrap_i64]; omega
      have e2 : IntKind.u64.wrap ((M : Int) * 2) = ((M * 2 : Nat) : Int) := by rw [IntKind.wrap_u64]; omega
      rw [e1, e2]
      refine ⟨⟨j + 1, M * 2, rfl, rfl, by rw [hM, Nat.pow_succ, Nat.mul_assoc], by omega, by omega, by rw [Nat.pow_succ]; omega, by omega, rfl⟩, ?_⟩
      show 9007199254740992 - (((M * 2 : Nat) : Int)).toNat < 9007199254740992 - ((M : Int)).toNat
      omega
    · simp only [decide_eq_false_iff_not] at hge
      refine ⟨M, rfl, by omega, h2, ⟨by omega, by omega⟩, ?_, rfl⟩
      rw [hp, hM]
      have := nearF_shift (negB x) (magN x) (-1074 + k) j
      rw [← this]; congr 1; omega
  rintro e m w5 ⟨M, rfl, hM1, hM2, he, hN, hw⟩
  subst hw
  rw [hN]
  intro n31 h31
  have h31' : n31 = e + k := by rw [h31, IntKind.wrap_i64]; omega
  rw [← h31']
  generalize hR : nearF (negB x) M (n31 - 1075) = R
  rw [nearF_53 hM1 hM2] at hR
  have hRn : canonF R = R := by
    rw [← hR, ← nearF_53 hM1 hM2]; exact canonF_num (near_nan _ _ _)
  refine rbits_ok.use fun v w1 ⟨hv, hw⟩ => ?_
  subst hv; subst hw
  refine ⟨_, rfl, fun h => (by cases h), fun _ n36 h36 n37 h37 => ?_⟩
  have e37 : n37 = ((x / 9223372036854775808 * 9223372036854775808 : Nat) : Int) := by
    have : Int.tdiv (x : Int) 9223372036854775808 = ((x / 9223372036854775808 : Nat) : Int) := by rw [Int.tdiv_eq_ediv_of_nonneg (by omega)]; rfl
    rw [h37, h36, this, wrap_natU (by omega), IntKind.wrap_u64]; omega
  have fin : ∀ (r : Nat) (nn : Int), r ≤ 9218868437227405312 → nn = ((x / 9223372036854775808 * 9223372036854775808 + r : Nat) : Int) → Ieee.double.word (negB x) r = R →
      CallsW Tryz.prog 52 [.int .u64 nn] w1 (RetR (Rets fun v w' => ∃ y, v = .float .f64 y ∧ canonF y = R ∧ y < FL ∧ Grew w1 w') fun u40 w39 => ∃ (x41 : Nat), u40 = .float .f64 x41 ∧ (Rets fun v w' => ∃ y, v = .float .f64 y ∧ canonF y = R ∧ y < FL ∧ Grew w1 w') (.returned (.float .f64 x41)) w39) := by
    intro r nn hr hnn hw
    have e := sign_word hx hr hnn
    refine rfrom_ok.use fun v w2 ⟨hv, hw2⟩ => ?_
    subst hv; subst hw2
    refine ⟨_, rfl, _, rfl, _, rfl, by rw [e, hw, hRn], ?_, Grew.refl _⟩
    exact sign_lt hx hr hnn
  refine ⟨fun h n38 h38 => ?_, fun h0 => ⟨fun h n43 h43 => ⟨by decide, fun n44 h44 n45 h45 n46 h46 => ?_⟩, fun h1 n51 h51 => ?_⟩⟩
  · simp only [decide_eq_true_eq, ge_iff_le] at h
    refine fin 9218868437227405312 _ (Nat.le_refl _) ?_ (by rw [← hR, if_pos h])
    rw [h38, e37, IntKind.wrap_u64]; omega
  · simp only [decide_eq_true_eq, decide_eq_false_iff_not, ge_iff_le] at h h0
    refine fin ((n31 - 1).toNat * 4503599627370496 + M) _ (by omega) ?_ (by rw [← hR, if_neg h0, if_pos h])
    have e43 : n43 = (((n31 - 1).toNat : Nat) : Int) := by rw [h43, IntKind.wrap_i64, IntKind.wrap_u64]; omega
    have e44 : n44 = (((n31 - 1).toNat * 4503599627370496 : Nat) : Int) := by
      rw [h44, e43, show (2 : Int) ^ (min (52 : Int).toNat (IntKind.bits .u64)) = 4503599627370496 from by decide, IntKind.wrap_u64]; omega
    have e45 : n45 = ((x / 9223372036854775808 * 9223372036854775808 + (n31 - 1).toNat * 4503599627370496 : Nat) : Int) := by
      rw [h45, e44, e37, IntKind.wrap_u64]; omega
    rw [h46, e45, IntKind.wrap_u64]; omega
  · simp only [decide_eq_false_iff_not, ge_iff_le] at h0 h1
    rw [if_neg h0, if_neg h1] at hR
    obtain ⟨d, hd⟩ : ∃ d : Nat, (1 - n31).toNat = d := ⟨_, rfl⟩
    have hd1 : 1 ≤ d := by omega
    have e51 : IntKind.u64.wrap n51 = (d : Int) := by rw [h51, IntKind.wrap_i64, IntKind.wrap_u64]; omega
    rw [hd] at hR
    rw [e51]
    refine ⟨fun h => ?_, fun h => ⟨by omega, fun n56 h56 => ⟨by omega, fun n57 h57 n58 h58 n59 h59 => ?_⟩⟩⟩
    · simp only [decide_eq_true_eq, gt_iff_lt] at h
      refine fin 0 _ (by omega) (by rw [e37, Nat.add_zero]) ?_
      rw [← hR, cutE_deep hM2 (by omega)]
    · simp only [decide_eq_false_iff_not, gt_iff_lt] at h
      have hmin : min ((d : Int)).toNat (IntKind.bits .u64) = d := min64 rfl (by omega)
      have e56 : n56 = ((M / 2 ^ d : Nat) : Int) := by
        rw [h56, hmin, pow2N, Int.fdiv_eq_ediv_of_nonneg _ (Int.natCast_nonneg _), ← Int.natCast_ediv]
      have hdm := Nat.div_add_mod M (2 ^ d)
      obtain ⟨hc1, hc2⟩ := cutE_le hM2 hd1
      have hpos := Nat.two_pow_pos d
      have hmod : M % 2 ^ d < 2 ^ d := Nat.mod_lt _ hpos
      have e57 : n57 = ((2 ^ d * (M / 2 ^ d) : Nat) : Int) := by
        rw [h57, hmin, e56, pow2N, ← Int.natCast_mul, Nat.mul_comm, wrap_natU (by omega)]
      have e58 : n58 = ((M % 2 ^ d : Nat) : Int) := by
        rw [h58, e57]
        generalize 2 ^ d * (M / 2 ^ d) = A at hdm ⊢
        generalize M % 2 ^ d = B at hdm ⊢
        rw [IntKind.wrap_u64]; omega
      have e59 : n59 = ((d - 1 : Nat) : Int) := by rw [h59, IntKind.wrap_u64]; omega
      have hq : (2 : Nat) ^ (d - 1) ≤ 2 ^ 53 := Nat.pow_le_pow_right (by decide) (by omega)
      have hq53 : (2 : Nat) ^ 53 = 9007199254740992 := by decide
      refine ⟨by omega, fun n60 h60 => ?_⟩
      have e60 : n60 = ((2 ^ (d - 1) : Nat) : Int) := by
        rw [h60, min64 e59 (by omega), Int.one_mul, pow2N, wrap_natU (by omega)]
      obtain ⟨c1, c2, c3, c4⟩ := cut_case (m := M) hd1
      have up : ∀ nn : Int, nn = IntKind.u64.wrap (n37 + IntKind.u64.wrap (n56 + 1)) → nn = ((x / 9223372036854775808 * 9223372036854775808 + (M / 2 ^ d + 1) : Nat) : Int) := by
        intro nn hnn
        rw [hnn, e56, e37]
        generalize M / 2 ^ d = Q at hc2 ⊢
        rw [IntKind.wrap_u64, IntKind.wrap_u64]; omega
      have dn : ∀ nn : Int, nn = IntKind.u64.wrap (n37 + n56) → nn = ((x / 9223372036854775808 * 9223372036854775808 + M / 2 ^ d : Nat) : Int) := by
        intro nn hnn
        rw [hnn, e56, e37]
        generalize M / 2 ^ d = Q at hc2 ⊢
        rw [IntKind.wrap_u64]; omega
      rw [e58, e60]
      refine ⟨fun h => fun n61 h61 => ?_, fun h => ⟨fun h2 => ⟨fun h => (by cases h), fun _ => ⟨fun h3 n66 h66 => ?_, fun h3 n71 h71 => ?_⟩⟩, fun h2 n76 h76 => ?_⟩⟩
      · simp only [decide_eq_true_eq, gt_iff_lt] at h
        have := c1 (by exact_mod_cast h)
        exact fin _ _ (by rw [this] at hc1; exact hc1) (up _ h61) (by rw [← hR, this])
      · simp only [beq_iff_eq] at h2 h3
        have h3' : M / 2 ^ d % 2 = 1 := by
          rw [e56, Int.tmod_eq_emod_of_nonneg (Int.natCast_nonneg _)] at h3; omega
        have := c2 (by exact_mod_cast h2) h3'
        exact fin _ _ (by rw [this] at hc1; exact hc1) (up _ h66) (by rw [← hR, this])
      · simp only [beq_iff_eq, beq_eq_false_iff_ne, ne_eq] at h2 h3
        have h3' : M / 2 ^ d % 2 ≠ 1 := by
          rw [e56, Int.tmod_eq_emod_of_nonneg (Int.natCast_nonneg _)] at h3; omega
        have := c3 (by exact_mod_cast h2) h3'
        exact fin _ _ (by rw [this] at hc1; exact hc1) (dn _ h71) (by rw [← hR, this])
      · simp only [decide_eq_false_iff_not, gt_iff_lt, beq_eq_false_iff_ne, ne_eq] at h h2
        have := c4 (by omega)
        exact fin _ _ (by rw [this] at hc1; exact hc1) (dn _ h76) (by rw [← hR, this])
end Go.Proofs.YtoljpkdokpinhaaGreat
