import Derived.Test.YtcpkneemhfnanaaGreatSxO
import Derived.Laws.FloatArith
import GoSem.Extern.MathFloor
import Derived.Laws.Cover2
/- Floats of 64 bits as numbers: comparisons, sums and products, whole parts. Conditions: none. -/
namespace Go.Sx
set_option linter.unusedSimpArgs false
set_option linter.unusedVariables false

theorem bin_eq : Ieee.double.binade = 4503599627370496 := by decide +kernel
theorem sw_eq : Ieee.double.signWeight = 9223372036854775808 := by decide +kernel
theorem inf_eq : Ieee.double.infRung = 9218868437227405312 := by decide +kernel
theorem lp_eq : Ieee.double.leastPlace = -1074 := by decide +kernel
theorem wd_eq : (2 : Nat) ^ Ieee.double.width = 18446744073709551616 := by decide +kernel

/-- is it a NaN, is it infinite -/
def nanB (x : Nat) : Bool := decide (9218868437227405312 < x % 9223372036854775808)
def infB (x : Nat) : Bool := decide (x % 9223372036854775808 = 9218868437227405312)
def negB (x : Nat) : Bool := x / 9223372036854775808 % 2 == 1
def quietNaN : Nat := 9221120237041090561
def canonF (x : Nat) : Nat := if nanB x then quietNaN else x
def ordB (x y : Nat) : Option Ordering := Ieee.double.order x y

theorem read_eq (x : Nat) : Ieee.double.read x = if x % 9223372036854775808 < 4503599627370496 then .number (negB x) (x % 9223372036854775808) (-1074)
    else if x % 9223372036854775808 < 9218868437227405312 then .number (negB x) (4503599627370496 + x % 9223372036854775808 % 4503599627370496) (-1074 + (x % 9223372036854775808 / 4503599627370496 - 1 : Nat))
    else if x % 9223372036854775808 = 9218868437227405312 then .infinity (negB x) else .nan (negB x) (x % 9223372036854775808 - 9218868437227405312) := by
  unfold Ieee.Format.read negB
  simp only [bin_eq, sw_eq, inf_eq, lp_eq]
theorem read_nan {x : Nat} (h : nanB x = true) : ∃ t, Ieee.double.read x = .nan (negB x) t := by
  simp only [nanB, decide_eq_true_eq] at h
  rw [read_eq, if_neg (by omega), if_neg (by omega), if_neg (by omega)]
  exact ⟨_, rfl⟩
theorem read_inf {x : Nat} (h : infB x = true) : Ieee.double.read x = .infinity (negB x) := by
  simp only [infB, decide_eq_true_eq] at h
  rw [read_eq, if_neg (by omega), if_neg (by omega), if_pos h]
/-- a number: how large it is, and its last place -/
theorem read_num {x : Nat} (h1 : nanB x = false) (h2 : infB x = false) : ∃ m i, Ieee.double.read x = .number (negB x) m i ∧ m < 9007199254740992 ∧ -1074 ≤ i ∧ i ≤ 971 := by
  simp only [nanB, infB, decide_eq_false_iff_not] at h1 h2
  rw [read_eq]
  by_cases ha : x % 9223372036854775808 < 4503599627370496
  · rw [if_pos ha]; exact ⟨_, _, rfl, by omega, by omega, by omega⟩
  · rw [if_neg ha, if_pos (by omega)]; exact ⟨_, _, rfl, by omega, by omega, by omega⟩

theorem ord_self (x : Nat) : ordB x x = if nanB x then none else some .eq := by
  unfold ordB Ieee.Format.order
  cases hn : nanB x
  · cases hi : infB x
    · obtain ⟨m, i, h, -⟩ := read_num hn hi
      rw [h]; simp [Ieee.Datum.order, compare, compareOfLessAndEq]
    · rw [read_inf hi]; simp [Ieee.Datum.order, compare, compareOfLessAndEq]
  · obtain ⟨t, h⟩ := read_nan hn
    rw [h]; rfl
theorem ord_nan {x y : Nat} (h : nanB x = true) : ordB x y = none ∧ ordB y x = none := by
  obtain ⟨t, ht⟩ := read_nan h
  unfold ordB Ieee.Format.order
  rw [ht]
  refine ⟨rfl, ?_⟩
  cases Ieee.double.read y <;> rfl

theorem canonF_canon (x : Nat) : canonF (canonF x) = canonF x := by
  unfold canonF
  cases h : nanB x
  · simp [h]
  · have : nanB quietNaN = true := by decide
    simp [this]
theorem canonF_num {x : Nat} (h : nanB x = false) : canonF x = x := by simp [canonF, h]
theorem canonF_nan {x : Nat} (h : nanB x = true) : canonF x = quietNaN := by simp [canonF, h]
theorem canonF_lt {x : Nat} (h : x < 18446744073709551616) : canonF x < 18446744073709551616 := by
  unfold canonF; split
  · decide
  · exact h
section
variable {P : Program}
theorem semOf_pure {s : Sem Value} {v : Value} {w : World} {k : Value → World → Prop} (h : PureTo P s v) (hk : k v w) : SemW P s k w :=
  fun w₀ hw => ⟨v, w₀, w, h w₀, hw, Kept.refl _ _, hk⟩

theorem eqF_eql {t : TypeId} {a b : Operand} {x y : Nat} : PureTo P (eqS .eql t a b (.float .f64 x) (.float .f64 y)) (.bool (ordB x y == some .eq)) := fun w => by
  simp [eqS, eqGuard, binOp_float_cmp_eql, FloatKind.format, ordB]
theorem eqF_neq {t : TypeId} {a b : Operand} {x y : Nat} : PureTo P (eqS .neq t a b (.float .f64 x) (.float .f64 y)) (.bool (ordB x y != some .eq)) := fun w => by
  simp [eqS, eqGuard, binOp_float_cmp_neq, FloatKind.format, ordB]
theorem eqF_lss {t : TypeId} {a b : Operand} {x y : Nat} : PureTo P (eqS .lss t a b (.float .f64 x) (.float .f64 y)) (.bool (ordB x y == some .lt)) := fun w => by
  simp [eqS, eqGuard, binOp_float_cmp_lss, FloatKind.format, ordB]
theorem eqF_gtr {t : TypeId} {a b : Operand} {x y : Nat} : PureTo P (eqS .gtr t a b (.float .f64 x) (.float .f64 y)) (.bool (ordB x y == some .gt)) := fun w => by
  simp [eqS, eqGuard, binOp_float_cmp_gtr, FloatKind.format, ordB]
theorem eqF_leq {t : TypeId} {a b : Operand} {x y : Nat} : PureTo P (eqS .leq t a b (.float .f64 x) (.float .f64 y)) (.bool (ordB x y == some .lt || ordB x y == some .eq)) := fun w => by
  simp [eqS, eqGuard, binOp_float_cmp_leq, FloatKind.format, ordB]
theorem eqF_geq {t : TypeId} {a b : Operand} {x y : Nat} : PureTo P (eqS .geq t a b (.float .f64 x) (.float .f64 y)) (.bool (ordB x y == some .gt || ordB x y == some .eq)) := fun w => by
  simp [eqS, eqGuard, binOp_float_cmp_geq, FloatKind.format, ordB]
theorem neq_self {t : TypeId} {a b : Operand} {x : Nat} : PureTo P (eqS .neq t a b (.float .f64 x) (.float .f64 x)) (.bool (nanB x)) := fun w => by
  rw [eqF_neq w, ord_self]; cases nanB x <;> rfl
theorem eql_self {t : TypeId} {a b : Operand} {x : Nat} : PureTo P (eqS .eql t a b (.float .f64 x) (.float .f64 x)) (.bool (!nanB x)) := fun w => by
  rw [eqF_eql w, ord_self]; cases nanB x <;> rfl

/-- a sum, a product: its bits where it has a value, else some NaN -/
theorem arith_sem {op : BinOp} {t : TypeId} {a b : Operand} {x y : Nat} {k : Value → World → Prop} {w : World} (hop : op = .add ∨ op = .sub ∨ op = .mul ∨ op = .quo)
    (hk : ∀ r w', Grew w w' → (floatBits op .f64 x y = some r ∨ (floatBits op .f64 x y = none ∧ nanB r = true ∧ r < 18446744073709551616)) → k (.float .f64 r) w') : SemW P (eqS op t a b (.float .f64 x) (.float .f64 y)) k w := by
  intro w₀ hw
  cases hr : floatBits op .f64 x y with
  | some r =>
    refine ⟨_, w₀, w, ?_, hw, Kept.refl _ _, hk r w (Grew.refl _) (.inl hr)⟩
    have := run_float_arith (P := P) w₀ op t .f64 x y r hr
    rcases hop with rfl | rfl | rfl | rfl <;> simpa [eqS, eqGuard] using this
  | none =>
    let q : Question := .nanBits .f64 x y
    let r := q.cut (w₀.tape w₀.drawn q)
    have hrb : nanB r = true ∧ r < 18446744073709551616 := by
      generalize ht : w₀.tape w₀.drawn q = T
      have : r = (T % 2) * 2 ^ 63 + 0x7ff0000000000000 + 1 + (T / 2) % (2 ^ 52 - 1) := by show q.cut _ = _; rw [ht]; rfl
      rw [this]
      have h2 := Nat.mod_lt T (show 0 < 2 by decide)
      have h3 := Nat.mod_lt (T / 2) (show 0 < 2 ^ 52 - 1 by decide)
      simp only [nanB, decide_eq_true_eq]
      generalize (T / 2) % (2 ^ 52 - 1) = z at h3
      have h3' : z < 4503599627370495 := h3
      rcases (show T % 2 = 0 ∨ T % 2 = 1 by omega) with h | h <;> rw [h] <;> omega
    refine ⟨.float .f64 r, { w₀ with drawn := w₀.drawn + 1 }, { w with drawn := w.drawn + 1 }, ?_, ⟨hw.os, hw.tape, by show w.drawn + 1 = w₀.drawn + 1; rw [hw.drawn], hw.output, hw.size, hw.block⟩, ⟨fun _ h => h, fun _ _ => rfl, Nat.le_refl _⟩, hk r _ ⟨rfl, rfl, rfl, Nat.le_refl _, fun _ _ => rfl⟩ (.inr ⟨hr, hrb⟩)⟩
    have hq : q.forced = false := rfl
    unfold floatBits at hr
    rcases hop with rfl | rfl | rfl | rfl <;> simp only at hr <;> simp [eqS, eqGuard, binOp, Op.floatArith, hr, run_choose, q, Question.forced, r]

theorem bit63 {y : Nat} (hy : y < 2 ^ 63) (i : Nat) : (2 ^ 63 + y).testBit i = (decide (63 = i) != y.testBit i) := by
  rcases Nat.lt_trichotomy i 63 with h | h | h
  · rw [Nat.testBit_two_pow_add_gt h]
    have : ¬ 63 = i := by omega
    simp [this]
  · subst h
    rw [Nat.testBit_two_pow_add_eq]
    rw [Nat.testBit_lt_two_pow hy]; rfl
  · have h1 : 2 ^ 63 + y < 2 ^ i := Nat.lt_of_lt_of_le (by omega : 2 ^ 63 + y < 2 ^ 64) (Nat.pow_le_pow_right (by decide) h)
    have h2 : y < 2 ^ i := by omega
    rw [Nat.testBit_lt_two_pow h1, Nat.testBit_lt_two_pow h2]
    have : ¬ 63 = i := by omega
    simp [this]
theorem xor63 {x : Nat} (h : x < 18446744073709551616) : x ^^^ 9223372036854775808 = if x < 9223372036854775808 then x + 9223372036854775808 else x - 9223372036854775808 := by
  have h63 : (9223372036854775808 : Nat) = 2 ^ 63 := by decide
  split
  · rename_i hlt
    apply Nat.eq_of_testBit_eq
    intro i
    rw [h63, Nat.testBit_xor, Nat.testBit_two_pow, Nat.add_comm x, bit63 (by omega) i]
    cases x.testBit i <;> cases decide (63 = i) <;> rfl
  · rename_i hge
    obtain ⟨y, rfl⟩ : ∃ y, x = 2 ^ 63 + y := ⟨x - 9223372036854775808, by omega⟩
    have hlt : y < 2 ^ 63 := by omega
    have e : 2 ^ 63 + y - 9223372036854775808 = y := by omega
    rw [e]
    apply Nat.eq_of_testBit_eq
    intro i
    rw [h63, Nat.testBit_xor, Nat.testBit_two_pow, bit63 hlt i]
    cases y.testBit i <;> cases decide (63 = i) <;> rfl
theorem neg_pure {x : Nat} (h : x < 18446744073709551616) : PureTo P (Op.unary .neg (.float .f64 x)) (.float .f64 (if x < 9223372036854775808 then x + 9223372036854775808 else x - 9223372036854775808)) := fun w => by
  have key := xor63 h
  show (Op.unary .neg (.float .f64 x)).run P w = _
  simp only [Op.unary, Op.negFloat, FloatKind.format, Ieee.double, Sem.run_pure]
  rw [show (2 : Nat) ^ (11 + 52) = 9223372036854775808 from by decide, key]
end
end Go.Sx
/- Whole parts of floats; a pipeline's steps on a float's bits. Conditions: none. -/
namespace Go.Sx
set_option linter.unusedSimpArgs false
set_option linter.unusedVariables false

def c63 : Nat := 4890909195324358656
def m63 : Nat := 14114281232179134464
theorem read_c63 : Ieee.double.read c63 = .number false 4503599627370496 11 := by decide +kernel
theorem read_m63 : Ieee.double.read m63 = .number true 4503599627370496 11 := by decide +kernel
/-- the whole part -/
def truncF (x : Nat) : Int := match (Ieee.double.read x).toInt .zero with | some n => n | none => 0
def wholeF (x : Nat) : Int := if nanB x then 0 else if (ordB x c63 == some .gt || ordB x c63 == some .eq) then 9223372036854775807 else if (ordB x m63 == some .lt || ordB x m63 == some .eq) then -9223372036854775808 else truncF x

theorem cut_zero (s : Bool) (n d : Nat) : Ieee.Toward.zero.cut s n d = n / 2 ^ d := by
  unfold Ieee.Toward.cut
  simp only [Nat.shiftLeft_eq, Nat.one_mul, Bool.toNat_false, Nat.add_zero]
  by_cases h : d ≤ n.log2 + 2
  · rw [Nat.min_eq_left h]
  · rw [Nat.min_eq_right (by omega)]
    have h1 : n < 2 ^ (n.log2 + 1) := Nat.lt_log2_self
    have h2 : n < 2 ^ (n.log2 + 2) := Nat.lt_of_lt_of_le h1 (Nat.pow_le_pow_right (by decide) (by omega))
    have h3 : n < 2 ^ d := Nat.lt_of_lt_of_le h2 (Nat.pow_le_pow_right (by decide) (by omega))
    rw [Nat.div_eq_of_lt h2, Nat.div_eq_of_lt h3]

theorem cut_small {m : Nat} {i : Int} (h : m * 2 ^ (i - min i 11).toNat < 4503599627370496 * 2 ^ ((11 : Int) - min i 11).toNat) : (m * 2 ^ i.toNat) / 2 ^ (-i).toNat < 9223372036854775808 := by
  refine (Nat.div_lt_iff_lt_mul (Nat.two_pow_pos _)).2 ?_
  by_cases h11 : 11 ≤ i
  · have e1 : min i 11 = 11 := by omega
    rw [e1] at h
    have e2 : i.toNat = (i - 11).toNat + 11 := by omega
    have e3 : (-i).toNat = 0 := by omega
    rw [e2, e3, Nat.pow_add]
    have e4 : ((11 : Int) - 11).toNat = 0 := by decide
    rw [e4] at h
    generalize 2 ^ (i - 11).toNat = A at h ⊢
    rw [← Nat.mul_assoc]
    omega
  · have e1 : min i 11 = i := by omega
    rw [e1] at h
    have e0 : (i - i).toNat = 0 := by omega
    rw [e0] at h
    by_cases h0 : 0 ≤ i
    · obtain ⟨k, rfl⟩ := Int.eq_ofNat_of_zero_le h0
      have e3 : (-(k : Int)).toNat = 0 := by omega
      have e4 : ((11 : Int) - k).toNat = 11 - k := by omega
      rw [e3]; rw [e4] at h
      have hk : k < 11 := by omega
      simp only [Int.toNat_natCast, Nat.pow_zero, Nat.mul_one] at h ⊢
      have : 2 ^ (11 - k) * 2 ^ k = 2048 := by rw [← Nat.pow_add, show 11 - k + k = 11 from by omega]
      have h2 := Nat.mul_lt_mul_of_pos_right h (Nat.two_pow_pos k)
      rw [Nat.mul_assoc, this] at h2
      omega
    · have e3 : i.toNat = 0 := by omega
      have e4 : ((11 : Int) - i).toNat = 11 + (-i).toNat := by omega
      rw [e3]; rw [e4, Nat.pow_add] at h
      simp only [Nat.pow_zero, Nat.mul_one] at h ⊢
      rw [← Nat.mul_assoc] at h
      simpa using h

theorem signed_eq (s : Bool) (m k : Nat) : Ieee.signed s m k = if s then -((m * 2 ^ k : Nat) : Int) else ((m * 2 ^ k : Nat) : Int) := by
  unfold Ieee.signed
  rw [Nat.shiftLeft_eq]

theorem cmp_int {a b : Int} : (compare a b == Ordering.gt) = decide (b < a) ∧ (compare a b == Ordering.eq) = decide (a = b) ∧ (compare a b == Ordering.lt) = decide (a < b) := by
  simp only [compare, compareOfLessAndEq]
  rcases Int.lt_trichotomy a b with h | h | h
  · have h1 : ¬ b < a := by omega
    have h2 : ¬ a = b := by omega
    simp [h, h1, h2]
  · subst h; simp
  · have h1 : ¬ a < b := by omega
    have h2 : ¬ a = b := by omega
    simp [h, h1, h2]

theorem toInt_num (s : Bool) (m : Nat) (i : Int) : (Ieee.Datum.number s m i).toInt .zero = some (if s then -(((m * 2 ^ i.toNat) / 2 ^ (-i).toNat : Nat) : Int) else (((m * 2 ^ i.toNat) / 2 ^ (-i).toNat : Nat) : Int)) := by
  simp only [Ieee.Datum.toInt, Ieee.Datum.integral, signed_eq, cut_zero, Nat.shiftLeft_eq, Nat.pow_zero, Nat.mul_one]

theorem trunc_ok {x : Nat} (hn : nanB x = false) (h1 : (ordB x c63 == some .gt || ordB x c63 == some .eq) = false) (h2 : (ordB x m63 == some .lt || ordB x m63 == some .eq) = false) :
    floatToIntVal .f64 x .i64 = some (truncF x) ∧ -9223372036854775808 < truncF x ∧ truncF x < 9223372036854775808 := by
  unfold ordB Ieee.Format.order at h1 h2
  rw [read_c63] at h1
  rw [read_m63] at h2
  cases hi : infB x
  · obtain ⟨m, i, hr, -⟩ := read_num hn hi
    rw [hr] at h1 h2
    simp only [Ieee.Datum.order, Option.some_beq_some, cmp_int.1, cmp_int.2.1, cmp_int.2.2, Bool.or_eq_false_iff, decide_eq_false_iff_not, signed_eq] at h1 h2
    have hlt : m * 2 ^ (i - min i 11).toNat < 4503599627370496 * 2 ^ ((11 : Int) - min i 11).toNat := by
      generalize negB x = s at h1 h2
      generalize m * 2 ^ (i - min i 11).toNat = A at h1 h2 ⊢
      generalize 4503599627370496 * 2 ^ ((11 : Int) - min i 11).toNat = B at h1 h2 ⊢
      cases s
      · simp at h1; omega
      · simp at h2; omega
    have hc := cut_small hlt
    have ht : truncF x = if negB x then -(((m * 2 ^ i.toNat) / 2 ^ (-i).toNat : Nat) : Int) else (((m * 2 ^ i.toNat) / 2 ^ (-i).toNat : Nat) : Int) := by
      unfold truncF
      rw [hr, toInt_num]
    have hf : floatToIntVal .f64 x .i64 = (if IntKind.min .i64 ≤ truncF x ∧ truncF x ≤ IntKind.max .i64 then some (truncF x) else none) := by
      unfold floatToIntVal
      show (match (Ieee.double.read x).toInt .zero with | some n => _ | none => _) = _
      rw [hr, toInt_num, ht]
    generalize (m * 2 ^ i.toNat) / 2 ^ (-i).toNat = c at hc ht
    have hb : -9223372036854775808 < truncF x ∧ truncF x < 9223372036854775808 := by
      rw [ht]; split <;> omega
    refine ⟨?_, hb⟩
    rw [hf, if_pos]
    simp only [IntKind.min, IntKind.max, IntKind.signed, IntKind.bits]
    constructor <;> simp <;> omega
  · rw [read_inf hi] at h1 h2
    generalize negB x = s at h1 h2
    cases s <;> simp [Ieee.Datum.order] at h1 h2

/-- the greatest whole float not above it -/
def floorF (x : Nat) : Nat := if nanB x then quietNaN else canonF (Ieee.double.write ((Ieee.double.read x).integral .down))
theorem write_lt' (d : Ieee.Datum) : Ieee.double.write d < 18446744073709551616 := by have := Ieee.double.write_lt d; rwa [wd_eq] at this
theorem floorF_lt (x : Nat) : floorF x < 18446744073709551616 := by
  unfold floorF; split
  · decide
  · exact canonF_lt (write_lt' _)

/-- a sign put on a float -/
def copyF (f s : Nat) : Nat := f % 9223372036854775808 + s / 9223372036854775808 * 9223372036854775808
theorem and63 {x : Nat} : x &&& 9223372036854775807 = x % 9223372036854775808 := by
  rw [show (9223372036854775807 : Nat) = 2 ^ 63 - 1 from by decide, Nat.and_two_pow_sub_one_eq_mod]
theorem andSign {x : Nat} (h : x < 18446744073709551616) : x &&& 9223372036854775808 = x / 9223372036854775808 * 9223372036854775808 := by
  have h63 : (9223372036854775808 : Nat) = 2 ^ 63 := by decide
  by_cases hlt : x < 9223372036854775808
  · have e : x / 9223372036854775808 = 0 := by omega
    rw [e, Nat.zero_mul]
    apply Nat.eq_of_testBit_eq
    intro i
    rw [h63, Nat.testBit_and, Nat.testBit_two_pow]
    by_cases h : 63 = i
    · subst h; rw [Nat.testBit_lt_two_pow (by omega)]; simp
    · simp [h]
  · obtain ⟨y, rfl⟩ : ∃ y, x = 2 ^ 63 + y := ⟨x - 9223372036854775808, by omega⟩
    have hy : y < 2 ^ 63 := by omega
    have e : (2 ^ 63 + y) / 9223372036854775808 = 1 := by omega
    rw [e, Nat.one_mul]
    apply Nat.eq_of_testBit_eq
    intro i
    rw [h63, Nat.testBit_and, Nat.testBit_two_pow, bit63 hy]
    by_cases h : 63 = i
    · subst h; rw [Nat.testBit_lt_two_pow hy]; simp
    · simp [h]
theorem copy_bits {f s : Nat} (hf : f < 18446744073709551616) (hs : s < 18446744073709551616) :
    Go.bits .or .u64 (Go.bits .andNot .u64 (f : Int) 9223372036854775808) (Go.bits .and .u64 (s : Int) 9223372036854775808) = ((copyF f s : Nat) : Int) := by
  rw [u64_andNot _ _ (by omega) (by omega) (by decide) (by decide), u64_and _ _ (by omega) (by omega) (by decide) (by decide)]
  have e1 : (18446744073709551615 : Nat) - (9223372036854775808 : Int).toNat = 9223372036854775807 := by decide
  rw [e1, Int.toNat_natCast, Int.toNat_natCast, and63, show (9223372036854775808 : Int).toNat = 9223372036854775808 from by decide, andSign hs]
  rw [u64_or_nat _ _ (by omega) (by omega)]
  rw [Nat.or_comm, nat_join 63 _ _ (by omega) (by omega)]
  unfold copyF; rw [Nat.add_comm]
theorem abs_bits {f : Nat} (hf : f < 18446744073709551616) : Go.bits .andNot .u64 (f : Int) 9223372036854775808 = ((f % 9223372036854775808 : Nat) : Int) := by
  rw [u64_andNot _ _ (by omega) (by omega) (by decide) (by decide)]
  have e1 : (18446744073709551615 : Nat) - (9223372036854775808 : Int).toNat = 9223372036854775807 := by decide
  rw [e1, Int.toNat_natCast, and63]
theorem copyF_lt {f s : Nat} (hs : s < 18446744073709551616) : copyF f s < 18446744073709551616 := by unfold copyF; omega

def mulF (x y : Nat) : Nat := match Ieee.double.mul x y with | some r => r | none => quietNaN
theorem mulF_lt (x y : Nat) : mulF x y < 18446744073709551616 := by
  unfold mulF; split
  · rename_i r h; have := Ieee.double.mul_lt h; rwa [wd_eq] at this
  · decide
def divF (x y : Nat) : Nat := match Ieee.double.div x y with | some r => r | none => quietNaN
theorem divF_lt (x y : Nat) : divF x y < 18446744073709551616 := by
  unfold divF; split
  · rename_i r h; have := Ieee.double.div_lt h; rwa [wd_eq] at this
  · decide
theorem mul_num {x y : Nat} (h1 : nanB x = false) (h2 : infB x = false) (h3 : nanB y = false) (h4 : infB y = false) : Ieee.double.mul x y = some (mulF x y) := by
  obtain ⟨m, i, hx, -⟩ := read_num h1 h2
  obtain ⟨n, j, hy, -⟩ := read_num h3 h4
  unfold mulF Ieee.Format.mul
  rw [hx, hy]; rfl
def numOf (n : Int) : Nat := floatOfInt .f64 n
theorem numOf_lt (n : Int) : numOf n < 18446744073709551616 := by
  have := Ieee.double.write_lt (.number (n < 0) n.natAbs 0); rwa [wd_eq] at this

/-- a power of two brought in -/
def normF (x : Nat) : Nat × Int := if ordB (x % 9223372036854775808) 4503599627370496 == some .lt then (mulF x 4841369599423283200, -52) else (x, 0)
def ldexpF (x : Nat) (exp : Int) : Nat :=
  if ordB x 0 == some .eq then x else if ordB (x % 9223372036854775808) 9218868437227405311 == some .gt then x else if nanB x then x else
  let fr := (normF x).1
  let n15 := IntKind.i64.wrap (exp + (normF x).2)
  let n21 := Go.bits .and .i64 (IntKind.i64.wrap (Int.fdiv (fr : Int) (2 ^ (min (52 : Int).toNat (IntKind.bits .u64))))) 2047
  let n23 := IntKind.i64.wrap (n15 + IntKind.i64.wrap (n21 - 1023))
  if n23 < -1075 then copyF 0 fr
  else if n23 > 1023 then (if ordB fr 0 == some .lt then 18442240474082181120 else 9218868437227405312)
  else if n23 < -1022 then mulF 4368491638549381120 (Go.bits .or .u64 (Go.bits .andNot .u64 (fr : Int) 9218868437227405312) (IntKind.u64.wrap ((IntKind.u64.wrap (IntKind.i64.wrap (IntKind.i64.wrap (n23 + 53) + 1023))) * 2 ^ (min (52 : Int).toNat (IntKind.bits .u64))))).toNat
  else mulF 4607182418800017408 (Go.bits .or .u64 (Go.bits .andNot .u64 (fr : Int) 9218868437227405312) (IntKind.u64.wrap ((IntKind.u64.wrap (IntKind.i64.wrap (n23 + 1023))) * 2 ^ (min (52 : Int).toNat (IntKind.bits .u64))))).toNat
def clampN (n : Int) : Int := if (if n < 5000 then n else 5000) > (-5000) then (if n < 5000 then n else 5000) else (-5000)
def scaleF (x : Nat) (n : Int) : Nat := canonF (ldexpF x (clampN n))

/-- where a value lies -/
def sideF (x : Nat) : Int := if ordB x 0 == some .lt then 0 else if ordB x 0 == some .eq then 1 else if ordB x 0 == some .gt then 2 else 3

theorem inf_gt {x : Nat} (h : infB x = true) : ordB (x % 9223372036854775808) 9218868437227405311 = some .gt := by
  simp only [infB, decide_eq_true_eq] at h
  rw [h]; decide +kernel
theorem write_nan (s : Bool) (t : Nat) (h : t % 4503599627370496 ≠ 0) : nanB (Ieee.double.write (.nan s t)) = true := by
  unfold Ieee.Format.write Ieee.Format.word
  simp only [bin_eq, sw_eq, inf_eq, nanB, decide_eq_true_eq]
  split <;> omega
theorem quiet_ne (t : Nat) : Ieee.double.quiet t % 4503599627370496 ≠ 0 := by
  unfold Ieee.Format.quiet
  have e : (2 : Nat) ^ (Ieee.double.fractionBits - 1) = 2 ^ 51 := by decide
  rw [e]
  intro h
  have h1 : ((t ||| 2 ^ 51) % 2 ^ 52).testBit 51 = false := by
    rw [show (2 : Nat) ^ 52 = 4503599627370496 from by decide, h]; simp
  rw [Nat.testBit_mod_two_pow, Nat.testBit_or, Nat.testBit_two_pow] at h1
  simp at h1
section
variable {P : Program}
theorem floor_ext {x : Nat} (hn : nanB x = false) (w : World) : (Extern.MathFloor.toIntegral "math.archFloor" .down #[.float .f64 x]).run P w = .ok (.float .f64 (Ieee.double.write ((Ieee.double.read x).integral .down))) w := by
  have e : Extern.MathFloor.toIntegral "math.archFloor" .down #[.float .f64 x] = (match Ieee.double.read x with
    | .nan s t =>
      if FloatKind.f64.format.quiet t = t then pure (.float .f64 x) else do
      let kept ← choose (.extern "math.Floor,Ceil,Trunc,RoundToEven.signallingNaN kept" 2)
      pure (.float .f64 (if kept == 1 then x else FloatKind.f64.encode (.nan s (FloatKind.f64.format.quiet t))))
    | d => pure (.float .f64 (FloatKind.f64.encode (d.integral .down)))) := rfl
  rw [e]
  cases hi : infB x
  · obtain ⟨m, i, hr, -⟩ := read_num hn hi
    rw [hr]; rfl
  · rw [read_inf hi]; rfl
theorem floor_extN {x : Nat} (hn : nanB x = true) (hx : x < 18446744073709551616) (w : World) : ∃ y n, (Extern.MathFloor.toIntegral "math.archFloor" .down #[.float .f64 x]).run P w = .ok (.float .f64 y) { w with drawn := w.drawn + n } ∧ nanB y = true ∧ y < 18446744073709551616 := by
  have e : Extern.MathFloor.toIntegral "math.archFloor" .down #[.float .f64 x] = (match Ieee.double.read x with
    | .nan s t =>
      if FloatKind.f64.format.quiet t = t then pure (.float .f64 x) else do
      let kept ← choose (.extern "math.Floor,Ceil,Trunc,RoundToEven.signallingNaN kept" 2)
      pure (.float .f64 (if kept == 1 then x else FloatKind.f64.encode (.nan s (FloatKind.f64.format.quiet t))))
    | d => pure (.float .f64 (FloatKind.f64.encode (d.integral .down)))) := rfl
  rw [e]
  obtain ⟨t, ht⟩ := read_nan hn
  rw [ht]
  simp only
  split
  · exact ⟨x, 0, rfl, hn, hx⟩
  · refine ⟨if ((Question.extern "math.Floor,Ceil,Trunc,RoundToEven.signallingNaN kept" 2).cut (w.tape w.drawn (Question.extern "math.Floor,Ceil,Trunc,RoundToEven.signallingNaN kept" 2)) == 1) then x else FloatKind.f64.encode (.nan (negB x) (FloatKind.f64.format.quiet t)), 1, ?_, ?_⟩
    · simp only [Sem.run_bind, run_choose, Question.forced, Result.andThen_ok, Sem.run_pure]
      rfl
    · split
      · exact ⟨hn, hx⟩
      · exact ⟨write_nan _ _ (quiet_ne t), write_lt' _⟩
end
theorem mulF_of {x y r : Nat} (h : floatBits .mul .f64 x y = some r ∨ (floatBits .mul .f64 x y = none ∧ nanB r = true ∧ r < 18446744073709551616)) : canonF r = canonF (mulF x y) ∧ r < 18446744073709551616 := by
  have e : floatBits .mul .f64 x y = Ieee.double.mul x y := rfl
  rw [e] at h
  rcases h with h | ⟨h, hn, hl⟩
  · have : mulF x y = r := by unfold mulF; rw [h]
    exact ⟨by rw [this], by rw [← this]; exact mulF_lt _ _⟩
  · have : mulF x y = quietNaN := by unfold mulF; rw [h]
    rw [this, canonF_nan hn]; exact ⟨by decide, hl⟩
theorem divF_of {x y r : Nat} (h : floatBits .quo .f64 x y = some r ∨ (floatBits .quo .f64 x y = none ∧ nanB r = true ∧ r < 18446744073709551616)) : canonF r = canonF (divF x y) ∧ r < 18446744073709551616 := by
  have e : floatBits .quo .f64 x y = Ieee.double.div x y := rfl
  rw [e] at h
  rcases h with h | ⟨h, hn, hl⟩
  · have : divF x y = r := by unfold divF; rw [h]
    exact ⟨by rw [this], by rw [← this]; exact divF_lt _ _⟩
  · have : divF x y = quietNaN := by unfold divF; rw [h]
    rw [this, canonF_nan hn]; exact ⟨by decide, hl⟩
/-- what is less itself isn't nought: just what is no number -/
theorem sub_self {x r : Nat} (h : floatBits .sub .f64 x x = some r ∨ (floatBits .sub .f64 x x = none ∧ nanB r = true ∧ r < 18446744073709551616)) : (ordB r 0 != some .eq) = (nanB x || infB x) := by
  have e : floatBits .sub .f64 x x = Ieee.double.sub x x := rfl
  rw [e] at h
  cases hn : nanB x
  · cases hi : infB x
    · obtain ⟨m, i, hr, -⟩ := read_num hn hi
      have : Ieee.double.sub x x = some (Ieee.double.write (.number false 0 i)) := by
        unfold Ieee.Format.sub
        rw [hr]
        simp only [Ieee.Datum.opposite, Ieee.Datum.sum, Option.map_some]
        have : Ieee.signed (negB x) m (i - min i i).toNat + Ieee.signed (!negB x) m (i - min i i).toNat = 0 := by
          unfold Ieee.signed; cases negB x <;> simp <;> omega
        rw [this]
        simp
      rw [this] at h
      rcases h with h | ⟨h, -⟩
      · cases h
        have : Ieee.double.write (.number false 0 i) = 0 := by unfold Ieee.Format.write Ieee.Format.nearest Ieee.Format.word; simp
        rw [this]; decide +kernel
      · cases h
    · have : Ieee.double.sub x x = none := by
        unfold Ieee.Format.sub
        rw [read_inf hi]
        simp [Ieee.Datum.opposite, Ieee.Datum.sum]
      rw [this] at h
      rcases h with h | ⟨-, h, -⟩
      · cases h
      · rw [(ord_nan h).1]; rfl
  · have : Ieee.double.sub x x = none := by
      unfold Ieee.Format.sub
      obtain ⟨t, ht⟩ := read_nan hn
      rw [ht]; rfl
    rw [this] at h
    rcases h with h | ⟨-, h, -⟩
    · cases h
    · rw [(ord_nan h).1]; rfl
end Go.Sx
/- A pipeline of steps over records, in lists. Conditions: none. -/
namespace Go.Sx
set_option linter.unusedSimpArgs false
set_option linter.unusedVariables false

/-- a record, a step -/
structure RecV where
  key : Int
  val : Nat
deriving DecidableEq
structure OpV where
  kind : Int
  n : Int
  x : Nat
deriving DecidableEq
def Enc.rcd : Enc RecV := ⟨2, fun r => [.int .u64 r.key, .float .f64 r.val], fun _ => rfl, by decide, fun x v h => by simp at h; rcases h with rfl | rfl <;> rfl⟩
def Enc.op3 : Enc OpV := ⟨3, fun o => [.int .i64 o.kind, .int .i64 o.n, .float .f64 o.x], fun _ => rfl, by decide, fun x v h => by simp at h; rcases h with rfl | rfl | rfl <;> rfl⟩
@[reducible] def RecV.v (r : RecV) : Value := .agg #[.int .u64 r.key, .float .f64 r.val]
@[reducible] def OpV.v (o : OpV) : Value := .agg #[.int .i64 o.kind, .int .i64 o.n, .float .f64 o.x]
def RecV.Fits (r : RecV) : Prop := (0 ≤ r.key ∧ r.key < u64m) ∧ r.val < 18446744073709551616
def OpV.Fits (o : OpV) : Prop := (-9223372036854775808 ≤ o.kind ∧ o.kind < 9223372036854775808) ∧ (-9223372036854775808 ≤ o.n ∧ o.n < 9223372036854775808) ∧ o.x < 18446744073709551616

def isStepB (o : OpV) : Bool := if o.kind = 7 then decide (-2200 ≤ o.n ∧ o.n ≤ 2200) else if o.kind = 11 then decide (1 ≤ o.n) else decide (1 ≤ o.kind ∧ o.kind ≤ 12)
/-- whether a list is a pipeline -/
def checkB (l : List OpV) : Bool := decide (l.length ≤ 8) && l.all isStepB

/-- the value that a step makes of a value, in its one form, and whether it keeps it; none: it traps -/
def turnB (o : OpV) (x : Nat) : Option (Nat × Bool) :=
  if o.kind = 1 then some (x, ordB x o.x == some .lt)
  else if o.kind = 2 then some (x, ordB x o.x == some .gt)
  else if o.kind = 3 then some (x, !nanB x)
  else if o.kind = 4 then some (copyF x (if copyF 4607182418800017408 x < 9223372036854775808 then copyF 4607182418800017408 x + 9223372036854775808 else copyF 4607182418800017408 x - 9223372036854775808), true)
  else if o.kind = 5 then some (x % 9223372036854775808, true)
  else if o.kind = 6 then some (floorF x, true)
  else if o.kind = 7 then some (scaleF x o.n, true)
  else if o.kind = 8 then some (divF 4607182418800017408 x, true)
  else if o.kind = 9 then (if nanB x || infB x then none else some (x, true))
  else if o.kind = 10 then (if wholeF x = 0 then none else some (numOf (IntKind.i64.wrap (Int.tdiv o.n (wholeF x))), true))
  else some (x, true)
def keyB (o : OpV) (k : Int) (x : Nat) : Int :=
  if o.kind = 11 then Int.tmod k (IntKind.u64.wrap o.n) else if o.kind = 12 then IntKind.u64.wrap (IntKind.u64.wrap (Int.tmod k 4611686018427387904 * 4) + sideF x) else k
/-- a step of a record: fate 1 kept, 2 dropped, 3 trapped -/
def applyB (o : OpV) (r : RecV) : Option (RecV × Bool) :=
  match turnB o (canonF r.val) with
  | none => none
  | some (y, b) => some (⟨keyB o r.key (canonF r.val), canonF y⟩, b)
def rec0 : RecV := ⟨0, 0⟩
def thruB : List OpV → RecV → RecV × Int
  | [], r => (r, 1)
  | o :: l, r => match applyB o r with
    | none => (rec0, 3)
    | some (_, false) => (rec0, 2)
    | some (r', true) => thruB l r'
def runB (l : List OpV) (r : RecV) : RecV × Int := if checkB l then thruB l ⟨r.key, canonF r.val⟩ else (rec0, 0)
def keyOfB (l : List OpV) (r : RecV) : Int × Bool := ((runB l r).1.key, decide ((runB l r).2 = 1))

theorem normF_lt' {x : Nat} (hx : x < 18446744073709551616) : (normF x).1 < 18446744073709551616 := by
  unfold normF; split
  · exact mulF_lt _ _
  · exact hx
theorem ldexpF_lt {x : Nat} {e : Int} (hx : x < 18446744073709551616) : ldexpF x e < 18446744073709551616 := by
  have hn := normF_lt' hx
  unfold ldexpF
  split
  · exact hx
  split
  · exact hx
  split
  · exact hx
  generalize (normF x).1 = fr at hn ⊢
  simp only
  split
  · exact copyF_lt hn
  split
  · split <;> decide
  split
  · exact mulF_lt _ _
  · exact mulF_lt _ _
theorem scaleF_lt {x : Nat} {n : Int} (hx : x < 18446744073709551616) : scaleF x n < 18446744073709551616 := canonF_lt (ldexpF_lt hx)
theorem flip_lt {y : Nat} (h : y < 18446744073709551616) : (if y < 9223372036854775808 then y + 9223372036854775808 else y - 9223372036854775808) < 18446744073709551616 := by split <;> omega
theorem turnB_lt {o : OpV} {x y : Nat} {b : Bool} (hx : x < 18446744073709551616) (h : turnB o x = some (y, b)) : y < 18446744073709551616 := by
  have some_out : ∀ {a c : Nat} {p q : Bool}, some (a, p) = some (c, q) → a = c := fun h => (Prod.mk.inj (Option.some.inj h)).1
  unfold turnB at h
  split at h
  · rw [← some_out h]; exact hx
  split at h
  · rw [← some_out h]; exact hx
  split at h
  · rw [← some_out h]; exact hx
  split at h
  · rw [← some_out h]; exact copyF_lt (flip_lt (copyF_lt hx))
  split at h
  · rw [← some_out h]; omega
  split at h
  · rw [← some_out h]; exact floorF_lt _
  split at h
  · rw [← some_out h]; exact scaleF_lt hx
  split at h
  · rw [← some_out h]; exact divF_lt _ _
  split at h
  · split at h
    · cases h
    · rw [← some_out h]; exact hx
  split at h
  · split at h
    · cases h
    · rw [← some_out h]; exact numOf_lt _
  · rw [← some_out h]; exact hx
theorem keyB_fits {o : OpV} {k : Int} {x : Nat} (hs : isStepB o = true) (hn : o.n < 9223372036854775808) (hk : 0 ≤ k ∧ k < u64m) : 0 ≤ keyB o k x ∧ keyB o k x < u64m := by
  unfold keyB
  split
  · rename_i h
    unfold isStepB at hs
    rw [if_neg (by omega), if_pos h] at hs
    simp only [decide_eq_true_eq] at hs
    have hw : IntKind.u64.wrap o.n = o.n := by rw [IntKind.wrap_u64]; omega
    rw [hw]
    refine ⟨Int.tmod_nonneg _ hk.1, ?_⟩
    have := Int.tmod_lt_of_pos k (show 0 < o.n by omega)
    simp only [u64m]; omega
  · split
    · rw [IntKind.wrap_u64]
      simp only [u64m]
      omega
    · exact hk
theorem applyB_fits {o : OpV} {r r' : RecV} {b : Bool} (hs : isStepB o = true) (ho : o.Fits) (hr : r.Fits) (h : applyB o r = some (r', b)) : r'.Fits := by
  unfold applyB at h
  split at h
  · cases h
  · rename_i y b' ht
    simp only [Option.some.injEq, Prod.mk.injEq] at h
    obtain ⟨rfl, -⟩ := h
    exact ⟨keyB_fits hs ho.2.1.2 hr.1, canonF_lt (turnB_lt (canonF_lt hr.2) ht)⟩
theorem checkB_step {l : List OpV} (h : checkB l = true) : l.length ≤ 8 ∧ ∀ o ∈ l, isStepB o = true := by
  unfold checkB at h
  simp only [Bool.and_eq_true, decide_eq_true_eq, List.all_eq_true] at h
  exact h
theorem thruB_fits : ∀ {l : List OpV} {r : RecV}, (∀ o ∈ l, isStepB o = true ∧ o.Fits) → r.Fits → (thruB l r).1.Fits
  | [], r, _, hr => hr
  | o :: l, r, hl, hr => by
    unfold thruB
    split
    · exact ⟨⟨by decide, by decide⟩, by decide⟩
    · exact ⟨⟨by decide, by decide⟩, by decide⟩
    · rename_i r' h
      exact thruB_fits (fun o h => hl o (by simp [h])) (applyB_fits (hl o (by simp)).1 (hl o (by simp)).2 hr h)
theorem runB_fits {l : List OpV} {r : RecV} (hl : ∀ o ∈ l, o.Fits) (hr : r.Fits) : (runB l r).1.Fits := by
  unfold runB
  split
  · rename_i h
    exact thruB_fits (fun o ho => ⟨(checkB_step h).2 o ho, hl o ho⟩) ⟨hr.1, canonF_lt hr.2⟩
  · exact ⟨⟨by decide, by decide⟩, by decide⟩
end Go.Sx
namespace Go.Sx
theorem Row.setAll' {w : World} {g : Nat} {e : TypeId} {cs vs : List Value} (h : Row w g e cs) (hl : vs.length = cs.length) :
    RoomAt w ⟨g, 0, none⟩ 0 vs ∧ Row (setCells w ⟨g, 0, none⟩ 0 vs) g e vs ∧ Upd (fun b => b = g) w (setCells w ⟨g, 0, none⟩ 0 vs) := by
  obtain ⟨cs', h1, h2, h3, h4⟩ := setCells_row (vs := vs) (o := 0) (i := 0) h
  refine ⟨roomAt_row h (by simp; omega), ?_, h4⟩
  unfold Row
  rw [h1]
  have : cs' = vs.toArray := by
    apply Array.ext_getElem?
    intro j
    rw [h3 j]
    simp only [Nat.zero_add, Nat.sub_zero, List.size_toArray]
    by_cases hj : j < vs.length
    · rw [if_pos ⟨Nat.zero_le _, hj, by omega⟩]; simp
    · rw [if_neg (by omega)]
      rw [Array.getElem?_eq_none (by simp; omega), Array.getElem?_eq_none (by simp; omega)]
  rw [this]
theorem Row.cellsAt {w : World} {g : Nat} {e : TypeId} {cs : List Value} (h : Row w g e cs) : CellsAt w ⟨g, 0, none⟩ 0 cs :=
  cellsAt_of fun j v hv => by
    rw [Nat.zero_add]
    show w.cell? (Addr.add ⟨g, 0, none⟩ j) = _
    rw [add_mk, Nat.zero_add, h.cell]; exact hv
end Go.Sx
