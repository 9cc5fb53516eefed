/- What the reference's floats hand back. Conditions: none. -/
import Derived.Test.YtoljpkdokpinhaaProg
import Derived.Test.YtoljpkdokpinhaaMath
import Derived.Test.YtoljpkdokpinhaaSxFh
namespace Go.Proofs.Ytoljpkdokpinhaa
open Go.Sx
set_option maxRecDepth 100000
set_option linter.unusedVariables false
set_option linter.unusedSimpArgs false
/- reprise/repriseraw.Bits -/
def sx58 (x : Nat) (R : Ending → World → Prop) (w : World) : Prop :=
  CallsW Try.prog 42 [.float .f64 x] w (RetR R fun u2 w1 => ∃ (n3 : Int), u2 = .int .u64 n3 ∧ R (.returned (.int .u64 n3)) w1)
theorem sx58.ok {x : Nat} {R : Ending → World → Prop} {w : World} (h : sx58 x R w) : CallsW Try.prog 58 [.float .f64 x] w R :=
  callsW_of mix Try.func58 (by kernel_rfl) (by kernel_rfl) (Eq.mpr (by kernel_rfl : denFn Try.prog {} Try.f58 [.float .f64 x] R w = sx58 x R w) h)

/- reprise/repriseraw.From -/
def sx47 (b : Int) (R : Ending → World → Prop) (w : World) : Prop :=
  CallsW Try.prog 37 [.int .u64 b] w (RetR R fun u2 w1 => ∃ (x3 : Nat), u2 = .float .f64 x3 ∧ R (.returned (.float .f64 x3)) w1)
theorem sx47.ok {b : Int} {R : Ending → World → Prop} {w : World} (h : sx47 b R w) : CallsW Try.prog 47 [.int .u64 b] w R :=
  callsW_of mix Try.func47 (by kernel_rfl) (by kernel_rfl) (Eq.mpr (by kernel_rfl : denFn Try.prog {} Try.f47 [.int .u64 b] R w = sx47 b R w) h)

/- reprise/repriseref01.parts -/
def sx70 (x : Nat) (R : Ending → World → Prop) (w : World) : Prop :=
  CallsW Try.prog 58 [.float .f64 x] w (RetR R fun u2 w1 => ∃ (n3 : Int), u2 = .int .u64 n3 ∧ 0 ≤ (52 : Int) ∧ ∀ n5 : Int, n5 = Int.fdiv n3 (2 ^ (min (52 : Int).toNat (IntKind.bits .u64))) → ∀ n6 : Int, n6 =
    IntKind.i64.wrap (Go.bits .and .u64 n5 2047) → ∀ n7 : Int, n7 = Go.bits .and .u64 n3 4503599627370495 → R (.returned (.tuple #[.int .i64 n6, .int .u64 n7])) w1)
theorem sx70.ok {x : Nat} {R : Ending → World → Prop} {w : World} (h : sx70 x R w) : CallsW Try.prog 70 [.float .f64 x] w R :=
  callsW_of mix Try.func70 (by kernel_rfl) (by kernel_rfl) (Eq.mpr (by kernel_rfl : denFn Try.prog { named := [8, 10, 12] } Try.f70 [.float .f64 x] R w = sx70 x R w) h)

/- reprise/repriseref01.Class -/
def sx71 (x : Nat) (R : Ending → World → Prop) (w : World) : Prop :=
  CallsW Try.prog 70 [.float .f64 x] w (RetR R fun u2 w1 => ∃ (n3 : Int) (n4 : Int), u2 = .tuple #[.int .i64 n3, .int .u64 n4] ∧ (((n3 == 2047) = true → (((n4 != 0) = true → R (.returned (.int .i64 5)) w1) ∧ ((n4 != 0) =
    false → (((n3 == 2047) = true → R (.returned (.int .i64 4)) w1) ∧ ((n3 == 2047) = false → (((n3 != 0) = true → R (.returned (.int .i64 3)) w1) ∧ ((n3 != 0) = false → (((n4 != 0) = true → R (.returned (.int .i64 2))
    w1) ∧ ((n4 != 0) = false → R (.returned (.int .i64 1)) w1))))))))) ∧ ((n3 == 2047) = false → (((n3 == 2047) = true → R (.returned (.int .i64 4)) w1) ∧ ((n3 == 2047) = false → (((n3 != 0) = true → R (.returned (.int
    .i64 3)) w1) ∧ ((n3 != 0) = false → (((n4 != 0) = true → R (.returned (.int .i64 2)) w1) ∧ ((n4 != 0) = false → R (.returned (.int .i64 1)) w1)))))))))
theorem sx71.ok {x : Nat} {R : Ending → World → Prop} {w : World} (h : sx71 x R w) : CallsW Try.prog 71 [.float .f64 x] w R :=
  callsW_of mix Try.func71 (by kernel_rfl) (by kernel_rfl) (Eq.mpr (by kernel_rfl : denFn Try.prog {} Try.f71 [.float .f64 x] R w = sx71 x R w) h)

/- reprise/repriseref01.Canon -/
def sx59 (x : Nat) (R : Ending → World → Prop) (w : World) : Prop :=
  CallsW Try.prog 71 [.float .f64 x] w (RetR R fun u2 w1 => ∃ (n3 : Int), u2 = .int .i64 n3 ∧ (((n3 == 5) = true → CallsW Try.prog 47 [.int .u64 9221120237041090561] w1 (RetR R fun u6 w5 => ∃ (x7 : Nat), u6 = .float .f64 x7
    ∧ R (.returned (.float .f64 x7)) w5)) ∧ ((n3 == 5) = false → R (.returned (.float .f64 x)) w1)))
theorem sx59.ok {x : Nat} {R : Ending → World → Prop} {w : World} (h : sx59 x R w) : CallsW Try.prog 59 [.float .f64 x] w R :=
  callsW_of mix Try.func59 (by kernel_rfl) (by kernel_rfl) (Eq.mpr (by kernel_rfl : denFn Try.prog {} Try.f59 [.float .f64 x] R w = sx59 x R w) h)

/- reprise/repriseref01.Whole -/
def sx57 (x : Nat) (R : Ending → World → Prop) (w : World) : Prop :=
  CallsW Try.prog 70 [.float .f64 x] w (RetR R fun u2 w1 => ∃ (n3 : Int) (n4 : Int), u2 = .tuple #[.int .i64 n3, .int .u64 n4] ∧ CallsW Try.prog 58 [.float .f64 x] w1 (RetR R fun u7 w6 => ∃ (n8 : Int), u7 = .int .u64 n8 ∧
    CallsW Try.prog 71 [.float .f64 x] w6 (RetR R fun u11 w10 => ∃ (n12 : Int), u11 = .int .i64 n12 ∧ (((n12 == 5) = true → R (.returned (.int .i64 0)) w10) ∧ ((n12 == 5) = false → (((decide (n3 < 1023)) = true → R
    (.returned (.int .i64 0)) w10) ∧ ((decide (n3 < 1023)) = false → (((decide (n3 ≥ 1086)) = true → (((decide (n8 ≥ 9223372036854775808)) = true → R (.returned (.int .i64 (-9223372036854775808))) w10) ∧ ((decide (n8 ≥
    9223372036854775808)) = false → R (.returned (.int .i64 9223372036854775807)) w10))) ∧ ((decide (n3 ≥ 1086)) = false → ∀ n14 : Int, n14 = IntKind.u64.wrap (n4 + 4503599627370496) → (((decide (n3 ≥ 1075)) = true → ∀
    n15 : Int, n15 = IntKind.i64.wrap (n3 - 1075) → 0 ≤ (IntKind.u64.wrap n15) ∧ ∀ n16 : Int, n16 = IntKind.u64.wrap (n14 * 2 ^ (min (IntKind.u64.wrap n15).toNat (IntKind.bits .u64))) → (((decide (n8 ≥
    9223372036854775808)) = true → R (.returned (.int .i64 (IntKind.i64.wrap (0 - (IntKind.i64.wrap n16))))) w10) ∧ ((decide (n8 ≥ 9223372036854775808)) = false → R (.returned (.int .i64 (IntKind.i64.wrap n16))) w10))) ∧
    ((decide (n3 ≥ 1075)) = false → ∀ n17 : Int, n17 = IntKind.i64.wrap ((1075 : Int) - n3) → 0 ≤ (IntKind.u64.wrap n17) ∧ ∀ n18 : Int, n18 = Int.fdiv n14 (2 ^ (min (IntKind.u64.wrap n17).toNat (IntKind.bits .u64))) →
    (((decide (n8 ≥ 9223372036854775808)) = true → R (.returned (.int .i64 (IntKind.i64.wrap (0 - (IntKind.i64.wrap n18))))) w10) ∧ ((decide (n8 ≥ 9223372036854775808)) = false → R (.returned (.int .i64 (IntKind.i64.wrap
    n18))) w10)))))))))))))
theorem sx57.ok {x : Nat} {R : Ending → World → Prop} {w : World} (h : sx57 x R w) : CallsW Try.prog 57 [.float .f64 x] w R :=
  callsW_of mix Try.func57 (by kernel_rfl) (by kernel_rfl) (Eq.mpr (by kernel_rfl : denFn Try.prog { named := [26, 31, 33, 36, 38] } Try.f57 [.float .f64 x] R w = sx57 x R w) h)


theorem rbits_ok {x : Nat} {w : World} : CallsW Try.prog 58 [.float .f64 x] w (Rets fun v w' => v = .int .u64 (x : Int) ∧ w' = w) := by
  refine sx58.ok ?_
  unfold sx58
  refine fbits_ok.use fun v w1 ⟨hv, hw⟩ => ?_
  subst hv; subst hw
  exact ⟨_, rfl, _, rfl, rfl, rfl⟩
theorem rfrom_ok {n : Int} {w : World} : CallsW Try.prog 47 [.int .u64 n] w (Rets fun v w' => v = .float .f64 n.toNat ∧ w' = w) := by
  refine sx47.ok ?_
  unfold sx47
  refine ffrom_ok.use fun v w1 ⟨hv, hw⟩ => ?_
  subst hv; subst hw
  exact ⟨_, rfl, _, rfl, rfl, rfl⟩
theorem and_mask {a : Nat} (ha : a < 18446744073709551616) : Go.bits .and .u64 (a : Int) 4503599627370495 = ((a % 4503599627370496 : Nat) : Int) ∧ Go.bits .and .u64 (a : Int) 2047 = ((a % 2048 : Nat) : Int) := by
  have h := fun (b : Nat) (hb : b < 2 ^ 64) => (bits_nat .u64 64 (by decide) (fun n h0 h1 => by rw [IntKind.wrap_u64]; omega) a b (by omega) hb).1
  constructor
  · rw [show (4503599627370495 : Int) = ((4503599627370495 : Nat) : Int) from rfl, h _ (by decide), show (4503599627370495 : Nat) = 2 ^ 52 - 1 from by decide, Nat.and_two_pow_sub_one_eq_mod]
  · rw [show (2047 : Int) = ((2047 : Nat) : Int) from rfl, h _ (by decide), show (2047 : Nat) = 2 ^ 11 - 1 from by decide, Nat.and_two_pow_sub_one_eq_mod]
theorem parts_ok {x : Nat} {w : World} (hx : x < FL) : CallsW Try.prog 70 [.float .f64 x] w (Rets fun v w' => v = .tuple #[.int .i64 (expN x), .int .u64 (fracN x)] ∧ w' = w) := by
  refine sx70.ok ?_
  unfold sx70
  refine rbits_ok.use fun v w1 ⟨hv, hw⟩ => ?_
  subst hv; subst hw
  refine ⟨_, rfl, by decide, fun n5 h5 n6 h6 n7 h7 => ⟨_, rfl, ?_, rfl⟩⟩
  have e5 : n5 = ((x / 4503599627370496 : Nat) : Int) := by
    rw [h5, show (2 : Int) ^ (min (52 : Int).toNat (IntKind.bits .u64)) = ((4503599627370496 : Nat) : Int) from by decide, Int.fdiv_eq_ediv_of_nonneg _ (by omega)]; rfl
  have e6 : n6 = (expN x : Int) := by
    have hx' : x < 18446744073709551616 := hx
    rw [h6, e5, (and_mask (by omega)).2, IntKind.wrap_i64]
    show ((((expN x : Nat) : Int) + _) % _ - _) = _
    have := expN_lt x
    omega
  rw [h7, (and_mask hx).1, e6]; rfl

/-- the class of a float -/
def classN (x : Nat) : Int := if expN x = 2047 then (if fracN x ≠ 0 then 5 else 4) else if expN x ≠ 0 then 3 else if fracN x ≠ 0 then 2 else 1
theorem Class_ok {x : Nat} {w : World} (hx : x < FL) : CallsW Try.prog 71 [.float .f64 x] w (Rets fun v w' => v = .int .i64 (classN x) ∧ w' = w) := by
  refine sx71.ok ?_
  unfold sx71
  refine (parts_ok hx).use fun v w1 ⟨hv, hw⟩ => ?_
  subst hv; subst hw
  have fin : ∀ n : Int, n = classN x → Rets (fun v w' => v = Value.int .i64 (classN x) ∧ w' = w1) (.returned (.int .i64 n)) w1 := fun n h => ⟨_, rfl, by rw [h], rfl⟩
  have last : ∀ (h : ((expN x : Int) == 2047) = false),
    (((((expN x : Int) == 2047) = true → Rets (fun v w' => v = Value.int .i64 (classN x) ∧ w' = w1) (.returned (.int .i64 4)) w1) ∧ (((expN x : Int) == 2047) = false → ((((expN x : Int) != 0) = true → Rets (fun v w' => v = Value.int .i64 (classN x) ∧ w' = w1) (.returned (.int .i64 3)) w1) ∧ (((expN x : Int) != 0) = false → ((((fracN x : Int) != 0) = true → Rets (fun v w' => v = Value.int .i64 (classN x) ∧ w' = w1) (.returned (.int .i64 2)) w1) ∧ (((fracN x : Int) != 0) = false → Rets (fun v w' => v = Value.int .i64 (classN x) ∧ w' = w1) (.returned (.int .i64 1)) w1))))))) := by
    intro h
    refine ⟨fun h' => (by rw [h] at h'; cases h'), fun _ => ⟨fun h2 => fin _ ?_, fun h2 => ⟨fun h3 => fin _ ?_, fun h3 => fin _ ?_⟩⟩⟩
    all_goals simp only [beq_eq_false_iff_ne, bne_iff_ne, bne_eq_false_iff_eq, ne_eq] at *
    all_goals unfold classN
    · rw [if_neg (by omega), if_pos (by omega)]
    · rw [if_neg (by omega), if_neg (by omega), if_pos (by omega)]
    · rw [if_neg (by omega), if_neg (by omega), if_neg (by omega)]
  refine ⟨_, _, rfl, fun h => ⟨fun h2 => fin _ ?_, fun h2 => ⟨fun _ => fin _ ?_, fun h' => (by rw [h] at h'; cases h')⟩⟩, last⟩
  · simp only [beq_iff_eq, bne_iff_ne, ne_eq] at h h2
    unfold classN; rw [if_pos (by omega), if_pos (by omega)]
  · simp only [beq_iff_eq, bne_eq_false_iff_eq] at h h2
    unfold classN; rw [if_pos (by omega), if_neg (by omega)]
theorem class5 (x : Nat) : (classN x == 5) = nanB x := by
  rw [nan_iff]; unfold classN
  rw [Bool.eq_iff_iff, beq_iff_eq, decide_eq_true_eq]
  repeat' split
  all_goals omega
theorem RCanon_ok {x : Nat} {w : World} (hx : x < FL) : CallsW Try.prog 59 [.float .f64 x] w (Rets fun v w' => v = .float .f64 (canonF x) ∧ w' = w) := by
  refine sx59.ok ?_
  unfold sx59
  refine (Class_ok hx).use fun v w1 ⟨hv, hw⟩ => ?_
  subst hv; subst hw
  refine ⟨_, rfl, fun h => rfrom_ok.use fun v w1 ⟨hv, hw⟩ => ?_, fun h => ⟨_, rfl, ?_, rfl⟩⟩
  · subst hv; subst hw
    rw [class5] at h
    exact ⟨_, rfl, _, rfl, by rw [canonF_nan h]; rfl, rfl⟩
  · rw [class5] at h
    rw [canonF_num h]

theorem pow2N {j : Nat} : (2 : Int) ^ j = ((2 ^ j : Nat) : Int) := by rw [Int.natCast_pow]; rfl
theorem min64 {a : Int} {j : Nat} (h : a = (j : Int)) (hj : j ≤ 64) : min a.toNat (IntKind.bits .u64) = j := by rw [h, Int.toNat_natCast]; exact Nat.min_eq_left hj
theorem wrap_nat {k : Nat} (h : k < 9223372036854775808) : IntKind.i64.wrap (k : Int) = (k : Int) := by rw [IntKind.wrap_i64]; omega
theorem wrap_natU {k : Nat} (h : k < 18446744073709551616) : IntKind.u64.wrap (k : Int) = (k : Int) := by rw [IntKind.wrap_u64]; omega
theorem wrap_neg {k : Nat} (h : k < 9223372036854775808) : IntKind.i64.wrap (0 - IntKind.i64.wrap (k : Int)) = -(k : Int) := by
  rw [wrap_nat h, IntKind.wrap_i64]; omega
theorem pow10 {j : Nat} (h : j ≤ 10) : (2 : Nat) ^ j ≤ 1024 := Nat.pow_le_pow_right (by decide) h
theorem RWhole_ok {x : Nat} {w : World} (hx : x < FL) : CallsW Try.prog 57 [.float .f64 x] w (Rets fun v w' => v = .int .i64 (wholeF x) ∧ w' = w) := by
  refine sx57.ok ?_
  unfold sx57
  refine (parts_ok hx).use fun v w1 ⟨hv, hw⟩ => ?_
  subst hv; subst hw
  refine ⟨_, _, rfl, rbits_ok.use fun v w1 ⟨hv, hw⟩ => ?_⟩
  subst hv; subst hw
  refine ⟨_, rfl, (Class_ok hx).use fun v w1 ⟨hv, hw⟩ => ?_⟩
  subst hv; subst hw
  have hE := expN_lt x
  have hf := fracN_lt x
  have fin : ∀ n : Int, n = wholeF x → Rets (fun v w' => v = Value.int .i64 (wholeF x) ∧ w' = w1) (.returned (.int .i64 n)) w1 := fun n h => ⟨_, rfl, by rw [h], rfl⟩
  have hw := wholeF_bits x
  have hneg := negB_iff hx
  refine ⟨_, rfl, fun h => fin _ ?_, fun h0 => ⟨fun h => fin _ ?_, fun h1 => ⟨fun h => ⟨fun h2 => fin _ ?_, fun h2 => fin _ ?_⟩, fun h2 n14 h14 => ⟨fun h3 n15 h15 => ⟨?_, fun n16 h16 => ⟨fun h4 => fin _ ?_, fun h4 => fin _ ?_⟩⟩, fun h3 n17 h17 => ⟨?_, fun n18 h18 => ⟨fun h4 => fin _ ?_, fun h4 => fin _ ?_⟩⟩⟩⟩⟩⟩
  all_goals simp only [class5, nan_iff, decide_eq_true_eq, decide_eq_false_iff_not] at *
  · rw [hw, if_pos h]
  · rw [hw, if_neg h0, if_neg (by omega)]
    have hz : wholeN x = 0 := by
      unfold wholeN; rw [if_neg (by omega)]
      have hp : 53 ≤ (-plN x).toNat := by unfold plN; split <;> omega
      have h1 : (2 : Nat) ^ 53 ≤ 2 ^ (-plN x).toNat := Nat.pow_le_pow_right (by decide) hp
      have h2 : (2 : Nat) ^ 53 = 9007199254740992 := by decide
      have h3 := magN_lt x
      exact Nat.div_eq_of_lt (by omega)
    rw [hz]; split <;> rfl
  · rw [hw, if_neg h0, if_pos (by omega), hneg, if_pos (by rw [decide_eq_true_eq]; omega)]
  · rw [hw, if_neg h0, if_pos (by omega), hneg, if_neg (by rw [decide_eq_true_eq]; omega)]
  · rw [IntKind.wrap_u64]; omega
  · have hj : (2 : Nat) ^ (expN x - 1075) ≤ 1024 := pow10 (by omega)
    have e14 : n14 = ((4503599627370496 + fracN x : Nat) : Int) := by rw [h14, IntKind.wrap_u64]; omega
    have e15 : (min (IntKind.u64.wrap n15).toNat (IntKind.bits .u64)) = expN x - 1075 := min64 (by rw [h15, IntKind.wrap_u64, IntKind.wrap_i64]; omega) (by omega)
    have hN : wholeN x = (4503599627370496 + fracN x) * 2 ^ (expN x - 1075) := by unfold wholeN magN; rw [if_pos (by omega), if_neg (by omega)]
    have hlt : (4503599627370496 + fracN x) * 2 ^ (expN x - 1075) ≤ (4503599627370496 + fracN x) * 1024 := Nat.mul_le_mul_left _ hj
    rw [h16, e15, e14, pow2N, ← Int.natCast_mul, ← hN]
    rw [← hN] at hlt
    rw [hw, if_neg h0, if_neg (by omega), hneg, if_pos (by rw [decide_eq_true_eq]; omega), wrap_natU (by omega), wrap_neg (by omega)]
  · have hj : (2 : Nat) ^ (expN x - 1075) ≤ 1024 := pow10 (by omega)
    have e14 : n14 = ((4503599627370496 + fracN x : Nat) : Int) := by rw [h14, IntKind.wrap_u64]; omega
    have e15 : (min (IntKind.u64.wrap n15).toNat (IntKind.bits .u64)) = expN x - 1075 := min64 (by rw [h15, IntKind.wrap_u64, IntKind.wrap_i64]; omega) (by omega)
    have hN : wholeN x = (4503599627370496 + fracN x) * 2 ^ (expN x - 1075) := by unfold wholeN magN; rw [if_pos (by omega), if_neg (by omega)]
    have hlt : (4503599627370496 + fracN x) * 2 ^ (expN x - 1075) ≤ (4503599627370496 + fracN x) * 1024 := Nat.mul_le_mul_left _ hj
    rw [h16, e15, e14, pow2N, ← Int.natCast_mul, ← hN]
    rw [← hN] at hlt
    rw [hw, if_neg h0, if_neg (by omega), hneg, if_neg (by rw [decide_eq_true_eq]; omega), wrap_natU (by omega), wrap_nat (by omega)]
  · rw [IntKind.wrap_u64]; omega
  · have e14 : n14 = ((4503599627370496 + fracN x : Nat) : Int) := by rw [h14, IntKind.wrap_u64]; omega
    have e17 : (min (IntKind.u64.wrap n17).toNat (IntKind.bits .u64)) = 1075 - expN x := min64 (by rw [h17, IntKind.wrap_u64, IntKind.wrap_i64]; omega) (by omega)
    have hN : wholeN x = (4503599627370496 + fracN x) / 2 ^ (1075 - expN x) := by
      unfold wholeN magN plN; rw [if_neg (by omega), if_neg (by omega), if_neg (by omega), show (-((expN x : Int) - 1075)).toNat = 1075 - expN x from by omega]
    have hle : (4503599627370496 + fracN x) / 2 ^ (1075 - expN x) ≤ 4503599627370496 + fracN x := Nat.div_le_self _ _
    rw [h18, e17, e14, pow2N, Int.fdiv_eq_ediv_of_nonneg _ (Int.natCast_nonneg _), ← Int.natCast_ediv, ← hN]
    rw [← hN] at hle
    rw [hw, if_neg h0, if_neg (by omega), hneg, if_pos (by rw [decide_eq_true_eq]; omega), wrap_neg (by omega)]
  · have e14 : n14 = ((4503599627370496 + fracN x : Nat) : Int) := by rw [h14, IntKind.wrap_u64]; omega
    have e17 : (min (IntKind.u64.wrap n17).toNat (IntKind.bits .u64)) = 1075 - expN x := min64 (by rw [h17, IntKind.wrap_u64, IntKind.wrap_i64]; omega) (by omega)
    have hN : wholeN x = (4503599627370496 + fracN x) / 2 ^ (1075 - expN x) := by
      unfold wholeN magN plN; rw [if_neg (by omega), if_neg (by omega), if_neg (by omega), show (-((expN x : Int) - 1075)).toNat = 1075 - expN x from by omega]
    have hle : (4503599627370496 + fracN x) / 2 ^ (1075 - expN x) ≤ 4503599627370496 + fracN x := Nat.div_le_self _ _
    rw [h18, e17, e14, pow2N, Int.fdiv_eq_ediv_of_nonneg _ (Int.natCast_nonneg _), ← Int.natCast_ediv, ← hN]
    rw [← hN] at hle
    rw [hw, if_neg h0, if_neg (by omega), hneg, if_neg (by rw [decide_eq_true_eq]; omega), wrap_nat (by omega)]
end Go.Proofs.Ytoljpkdokpinhaa
