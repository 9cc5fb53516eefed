/- Floats of 64 bits as numbers: comparisons, sums and products, whole parts. Conditions: none. -/
import Derived.Test.YtoljpkdokpinhaaSxN
import Derived.Laws.FloatArith
import GoSem.Extern.MathFloor
import Derived.Laws.Cover2
namespace Go.Sx
set_option linter.unusedSimpArgs false
set_option linter.unusedVariables false

theorem bin_eq : Ieee.double.binade = 4503599627370496 := by decide +kernel
theorem sw_eq : Ieee.double.signWeight = 9223372036854775808 := by decide +kernel
theorem inf_eq : Ieee.double.infRung = 9218868437227405312 := by decide +kernel
theorem lp_eq : Ieee.double.leastPlace = -1074 := by decide +kernel
theorem wd_eq : (2 : Nat) ^ Ieee.double.width = 18446744073709551616 := by decide +kernel

/-- is it a NaN, is it infinite -/
def nanB (x : Nat) : Bool := decide (9218868437227405312 < x % 9223372036854775808)
def infB (x : Nat) : Bool := decide (x % 9223372036854775808 = 9218868437227405312)
def negB (x : Nat) : Bool := x / 9223372036854775808 % 2 == 1
def quietNaN : Nat := 9221120237041090561
def canonF (x : Nat) : Nat := if nanB x then quietNaN else x
def ordB (x y : Nat) : Option Ordering := Ieee.double.order x y

theorem read_eq (x : Nat) : Ieee.double.read x = if x % 9223372036854775808 < 4503599627370496 then .number (negB x) (x % 9223372036854775808) (-1074)
    else if x % 9223372036854775808 < 9218868437227405312 then .number (negB x) (4503599627370496 + x % 9223372036854775808 % 4503599627370496) (-1074 + (x % 9223372036854775808 / 4503599627370496 - 1 : Nat))
    else if x % 9223372036854775808 = 9218868437227405312 then .infinity (negB x) else .nan (negB x) (x % 9223372036854775808 - 9218868437227405312) := by
  unfold Ieee.Format.read negB
  simp only [bin_eq, sw_eq, inf_eq, lp_eq]
theorem read_nan {x : Nat} (h : nanB x = true) : ∃ t, Ieee.double.read x = .nan (negB x) t := by
  simp only [nanB, decide_eq_true_eq] at h
  rw [read_eq, if_neg (by omega), if_neg (by omega), if_neg (by omega)]
  exact ⟨_, rfl⟩
theorem read_inf {x : Nat} (h : infB x = true) : Ieee.double.read x = .infinity (negB x) := by
  simp only [infB, decide_eq_true_eq] at h
  rw [read_eq, if_neg (by omega), if_neg (by omega), if_pos h]
/-- a number: how large it is, and its last place -/
theorem read_num {x : Nat} (h1 : nanB x = false) (h2 : infB x = false) : ∃ m i, Ieee.double.read x = .number (negB x) m i ∧ m < 9007199254740992 ∧ -1074 ≤ i ∧ i ≤ 971 := by
  simp only [nanB, infB, decide_eq_false_iff_not] at h1 h2
  rw [read_eq]
  by_cases ha : x % 9223372036854775808 < 4503599627370496
  · rw [if_pos ha]; exact ⟨_, _, rfl, by omega, by omega, by omega⟩
  · rw [if_neg ha, if_pos (by omega)]; exact ⟨_, _, rfl, by omega, by omega, by omega⟩

theorem ord_self (x : Nat) : ordB x x = if nanB x then none else some .eq := by
  unfold ordB Ieee.Format.order
  cases hn : nanB x
  · cases hi : infB x
    · obtain ⟨m, i, h, -⟩ := read_num hn hi
      rw [h]; simp [Ieee.Datum.order, compare, compareOfLessAndEq]
    · rw [read_inf hi]; simp [Ieee.Datum.order, compare, compareOfLessAndEq]
  · obtain ⟨t, h⟩ := read_nan hn
    rw [h]; rfl
theorem ord_nan {x y : Nat} (h : nanB x = true) : ordB x y = none ∧ ordB y x = none := by
  obtain ⟨t, ht⟩ := read_nan h
  unfold ordB Ieee.Format.order
  rw [ht]
  refine ⟨rfl, ?_⟩
  cases Ieee.double.read y <;> rfl

theorem canonF_canon (x : Nat) : canonF (canonF x) = canonF x := by
  unfold canonF
  cases h : nanB x
  · simp [h]
  · have : nanB quietNaN = true := by decide
    simp [this]
theorem canonF_num {x : Nat} (h : nanB x = false) : canonF x = x := by simp [canonF, h]
theorem canonF_nan {x : Nat} (h : nanB x = true) : canonF x = quietNaN := by simp [canonF, h]
theorem canonF_lt {x : Nat} (h : x < 18446744073709551616) : canonF x < 18446744073709551616 := by
  unfold canonF; split
  · decide
  · exact h
theorem nanB_canon (x : Nat) : nanB (canonF x) = nanB x := by
  unfold canonF
  cases h : nanB x
  · simp [h]
  · simp; decide
theorem infB_canon (x : Nat) : infB (canonF x) = infB x := by
  unfold canonF
  cases h : nanB x
  · simp
  · simp only [nanB, decide_eq_true_eq] at h
    have : infB x = false := by simp only [infB, decide_eq_false_iff_not]; omega
    simp [this]; decide

section
variable {P : Program}
theorem semOf_pure {s : Sem Value} {v : Value} {w : World} {k : Value → World → Prop} (h : PureTo P s v) (hk : k v w) : SemW P s k w :=
  fun w₀ hw => ⟨v, w₀, w, h w₀, hw, Kept.refl _ _, hk⟩

theorem eqF_eql {t : TypeId} {a b : Operand} {x y : Nat} : PureTo P (eqS .eql t a b (.float .f64 x) (.float .f64 y)) (.bool (ordB x y == some .eq)) := fun w => by
  simp [eqS, eqGuard, binOp_float_cmp_eql, FloatKind.format, ordB]
theorem eqF_neq {t : TypeId} {a b : Operand} {x y : Nat} : PureTo P (eqS .neq t a b (.float .f64 x) (.float .f64 y)) (.bool (ordB x y != some .eq)) := fun w => by
  simp [eqS, eqGuard, binOp_float_cmp_neq, FloatKind.format, ordB]
theorem eqF_lss {t : TypeId} {a b : Operand} {x y : Nat} : PureTo P (eqS .lss t a b (.float .f64 x) (.float .f64 y)) (.bool (ordB x y == some .lt)) := fun w => by
  simp [eqS, eqGuard, binOp_float_cmp_lss, FloatKind.format, ordB]
theorem eqF_gtr {t : TypeId} {a b : Operand} {x y : Nat} : PureTo P (eqS .gtr t a b (.float .f64 x) (.float .f64 y)) (.bool (ordB x y == some .gt)) := fun w => by
  simp [eqS, eqGuard, binOp_float_cmp_gtr, FloatKind.format, ordB]
theorem eqF_leq {t : TypeId} {a b : Operand} {x y : Nat} : PureTo P (eqS .leq t a b (.float .f64 x) (.float .f64 y)) (.bool (ordB x y == some .lt || ordB x y == some .eq)) := fun w => by
  simp [eqS, eqGuard, binOp_float_cmp_leq, FloatKind.format, ordB]
theorem eqF_geq {t : TypeId} {a b : Operand} {x y : Nat} : PureTo P (eqS .geq t a b (.float .f64 x) (.float .f64 y)) (.bool (ordB x y == some .gt || ordB x y == some .eq)) := fun w => by
  simp [eqS, eqGuard, binOp_float_cmp_geq, FloatKind.format, ordB]
theorem neq_self {t : TypeId} {a b : Operand} {x : Nat} : PureTo P (eqS .neq t a b (.float .f64 x) (.float .f64 x)) (.bool (nanB x)) := fun w => by
  rw [eqF_neq w, ord_self]; cases nanB x <;> rfl
theorem eql_self {t : TypeId} {a b : Operand} {x : Nat} : PureTo P (eqS .eql t a b (.float .f64 x) (.float .f64 x)) (.bool (!nanB x)) := fun w => by
  rw [eqF_eql w, ord_self]; cases nanB x <;> rfl

/-- a sum, a product: its bits where it has a value, else some NaN -/
theorem arith_sem {op : BinOp} {t : TypeId} {a b : Operand} {x y : Nat} {k : Value → World → Prop} {w : World} (hop : op = .add ∨ op = .sub ∨ op = .mul ∨ op = .quo)
    (hk : ∀ r w', Grew w w' → (floatBits op .f64 x y = some r ∨ (floatBits op .f64 x y = none ∧ nanB r = true ∧ r < 18446744073709551616)) → k (.float .f64 r) w') : SemW P (eqS op t a b (.float .f64 x) (.float .f64 y)) k w := by
  intro w₀ hw
  cases hr : floatBits op .f64 x y with
  | some r =>
    refine ⟨_, w₀, w, ?_, hw, Kept.refl _ _, hk r w (Grew.refl _) (.inl hr)⟩
    have := run_float_arith (P := P) w₀ op t .f64 x y r hr
    rcases hop with rfl | rfl | rfl | rfl <;> simpa [eqS, eqGuard] using this
  | none =>
    let q : Question := .nanBits .f64 x y
    let r := q.cut (w₀.tape w₀.drawn q)
    have hrb : nanB r = true ∧ r < 18446744073709551616 := by
      generalize ht : w₀.tape w₀.drawn q = T
      have : r = (T % 2) * 2 ^ 63 + 0x7ff0000000000000 + 1 + (T / 2) % (2 ^ 52 - 1) := by show q.cut _ = _; rw [ht]; rfl
      rw [this]
      have h2 := Nat.mod_lt T (show 0 < 2 by decide)
      have h3 := Nat.mod_lt (T / 2) (show 0 < 2 ^ 52 - 1 by decide)
      simp only [nanB, decide_eq_true_eq]
      generalize (T / 2) % (2 ^ 52 - 1) = z at h3
      have h3' : z < 4503599627370495 := h3
      rcases (show T % 2 = 0 ∨ T % 2 = 1 by omega) with h | h <;> rw [h] <;> omega
    refine ⟨.float .f64 r, { w₀ with drawn := w₀.drawn + 1 }, { w with drawn := w.drawn + 1 }, ?_, ⟨hw.os, hw.tape, by show w.drawn + 1 = w₀.drawn + 1; rw [hw.drawn], hw.output, hw.size, hw.block⟩, ⟨fun _ h => h, fun _ _ => rfl, Nat.le_refl _⟩, hk r _ ⟨rfl, rfl, rfl, Nat.le_refl _, fun _ _ => rfl⟩ (.inr ⟨hr, hrb⟩)⟩
    have hq : q.forced = false := rfl
    unfold floatBits at hr
    rcases hop with rfl | rfl | rfl | rfl <;> simp only at hr <;> simp [eqS, eqGuard, binOp, Op.floatArith, hr, run_choose, q, Question.forced, r]

theorem bit63 {y : Nat} (hy : y < 2 ^ 63) (i : Nat) : (2 ^ 63 + y).testBit i = (decide (63 = i) != y.testBit i) := by
  rcases Nat.lt_trichotomy i 63 with h | h | h
  · rw [Nat.testBit_two_pow_add_gt h]
    have : ¬ 63 = i := by omega
    simp [this]
  · subst h
    rw [Nat.testBit_two_pow_add_eq]
    rw [Nat.testBit_lt_two_pow hy]; rfl
  · have h1 : 2 ^ 63 + y < 2 ^ i := Nat.lt_of_lt_of_le (by omega : 2 ^ 63 + y < 2 ^ 64) (Nat.pow_le_pow_right (by decide) h)
    have h2 : y < 2 ^ i := by omega
    rw [Nat.testBit_lt_two_pow h1, Nat.testBit_lt_two_pow h2]
    have : ¬ 63 = i := by omega
    simp [this]
theorem xor63 {x : Nat} (h : x < 18446744073709551616) : x ^^^ 9223372036854775808 = if x < 9223372036854775808 then x + 9223372036854775808 else x - 9223372036854775808 := by
  have h63 : (9223372036854775808 : Nat) = 2 ^ 63 := by decide
  split
  · rename_i hlt
    apply Nat.eq_of_testBit_eq
    intro i
    rw [h63, Nat.testBit_xor, Nat.testBit_two_pow, Nat.add_comm x, bit63 (by omega) i]
    cases x.testBit i <;> cases decide (63 = i) <;> rfl
  · rename_i hge
    obtain ⟨y, rfl⟩ : ∃ y, x = 2 ^ 63 + y := ⟨x - 9223372036854775808, by omega⟩
    have hlt : y < 2 ^ 63 := by omega
    have e : 2 ^ 63 + y - 9223372036854775808 = y := by omega
    rw [e]
    apply Nat.eq_of_testBit_eq
    intro i
    rw [h63, Nat.testBit_xor, Nat.testBit_two_pow, bit63 hlt i]
    cases y.testBit i <;> cases decide (63 = i) <;> rfl
theorem neg_pure {x : Nat} (h : x < 18446744073709551616) : PureTo P (Op.unary .neg (.float .f64 x)) (.float .f64 (if x < 9223372036854775808 then x + 9223372036854775808 else x - 9223372036854775808)) := fun w => by
  have key := xor63 h
  show (Op.unary .neg (.float .f64 x)).run P w = _
  simp only [Op.unary, Op.negFloat, FloatKind.format, Ieee.double, Sem.run_pure]
  rw [show (2 : Nat) ^ (11 + 52) = 9223372036854775808 from by decide, key]
end
end Go.Sx
