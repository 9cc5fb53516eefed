/- Whole parts of floats; a pipeline's steps on a float's bits. Conditions: none. -/
import Derived.Test.YtoljpkdokpinhaaSxFa
namespace Go.Sx
set_option linter.unusedSimpArgs false
set_option linter.unusedVariables false

def c63 : Nat := 4890909195324358656
def m63 : Nat := 14114281232179134464
theorem read_c63 : Ieee.double.read c63 = .number false 4503599627370496 11 := by decide +kernel
theorem read_m63 : Ieee.double.read m63 = .number true 4503599627370496 11 := by decide +kernel
/-- the whole part -/
def truncF (x : Nat) : Int := match (Ieee.double.read x).toInt .zero with | some n => n | none => 0
def wholeF (x : Nat) : Int := if nanB x then 0 else if (ordB x c63 == some .gt || ordB x c63 == some .eq) then 9223372036854775807 else if (ordB x m63 == some .lt || ordB x m63 == some .eq) then -9223372036854775808 else truncF x

theorem cut_zero (s : Bool) (n d : Nat) : Ieee.Toward.zero.cut s n d = n / 2 ^ d := by
  unfold Ieee.Toward.cut
  simp only [Nat.shiftLeft_eq, Nat.one_mul, Bool.toNat_false, Nat.add_zero]
  by_cases h : d ≤ n.log2 + 2
  · rw [Nat.min_eq_left h]
  · rw [Nat.min_eq_right (by omega)]
    have h1 : n < 2 ^ (n.log2 + 1) := Nat.lt_log2_self
    have h2 : n < 2 ^ (n.log2 + 2) := Nat.lt_of_lt_of_le h1 (Nat.pow_le_pow_right (by decide) (by omega))
    have h3 : n < 2 ^ d := Nat.lt_of_lt_of_le h2 (Nat.pow_le_pow_right (by decide) (by omega))
    rw [Nat.div_eq_of_lt h2, Nat.div_eq_of_lt h3]

theorem cut_small {m : Nat} {i : Int} (h : m * 2 ^ (i - min i 11).toNat < 4503599627370496 * 2 ^ ((11 : Int) - min i 11).toNat) : (m * 2 ^ i.toNat) / 2 ^ (-i).toNat < 9223372036854775808 := by
  refine (Nat.div_lt_iff_lt_mul (Nat.two_pow_pos _)).2 ?_
  by_cases h11 : 11 ≤ i
  · have e1 : min i 11 = 11 := by omega
    rw [e1] at h
    have e2 : i.toNat = (i - 11).toNat + 11 := by omega
    have e3 : (-i).toNat = 0 := by omega
    rw [e2, e3, Nat.pow_add]
    have e4 : ((11 : Int) - 11).toNat = 0 := by decide
    rw [e4] at h
    generalize 2 ^ (i - 11).toNat = A at h ⊢
    rw [← Nat.mul_assoc]
    omega
  · have e1 : min i 11 = i := by omega
    rw [e1] at h
    have e0 : (i - i).toNat = 0 := by omega
    rw [e0] at h
    by_cases h0 : 0 ≤ i
    · obtain ⟨k, rfl⟩ := Int.eq_ofNat_of_zero_le h0
      have e3 : (-(k : Int)).toNat = 0 := by omega
      have e4 : ((11 : Int) - k).toNat = 11 - k := by omega
      rw [e3]; rw [e4] at h
      have hk : k < 11 := by omega
      simp only [Int.toNat_natCast, Nat.pow_zero, Nat.mul_one] at h ⊢
      have : 2 ^ (11 - k) * 2 ^ k = 2048 := by rw [← Nat.pow_add, show 11 - k + k = 11 from by omega]
      have h2 := Nat.mul_lt_mul_of_pos_right h (Nat.two_pow_pos k)
      rw [Nat.mul_assoc, this] at h2
      omega
    · have e3 : i.toNat = 0 := by omega
      have e4 : ((11 : Int) - i).toNat = 11 + (-i).toNat := by omega
      rw [e3]; rw [e4, Nat.pow_add] at h
      simp only [Nat.pow_zero, Nat.mul_one] at h ⊢
      rw [← Nat.mul_assoc] at h
      simpa using h

theorem signed_eq (s : Bool) (m k : Nat) : Ieee.signed s m k = if s then -((m * 2 ^ k : Nat) : Int) else ((m * 2 ^ k : Nat) : Int) := by
  unfold Ieee.signed
  rw [Nat.shiftLeft_eq]

theorem cmp_int {a b : Int} : (compare a b == Ordering.gt) = decide (b < a) ∧ (compare a b == Ordering.eq) = decide (a = b) ∧ (compare a b == Ordering.lt) = decide (a < b) := by
  simp only [compare, compareOfLessAndEq]
  rcases Int.lt_trichotomy a b with h | h | h
  · have h1 : ¬ b < a := by omega
    have h2 : ¬ a = b := by omega
    simp [h, h1, h2]
  · subst h; simp
  · have h1 : ¬ a < b := by omega
    have h2 : ¬ a = b := by omega
    simp [h, h1, h2]

theorem toInt_num (s : Bool) (m : Nat) (i : Int) : (Ieee.Datum.number s m i).toInt .zero = some (if s then -(((m * 2 ^ i.toNat) / 2 ^ (-i).toNat : Nat) : Int) else (((m * 2 ^ i.toNat) / 2 ^ (-i).toNat : Nat) : Int)) := by
  simp only [Ieee.Datum.toInt, Ieee.Datum.integral, signed_eq, cut_zero, Nat.shiftLeft_eq, Nat.pow_zero, Nat.mul_one]

theorem trunc_ok {x : Nat} (hn : nanB x = false) (h1 : (ordB x c63 == some .gt || ordB x c63 == some .eq) = false) (h2 : (ordB x m63 == some .lt || ordB x m63 == some .eq) = false) :
    floatToIntVal .f64 x .i64 = some (truncF x) ∧ -9223372036854775808 < truncF x ∧ truncF x < 9223372036854775808 := by
  unfold ordB Ieee.Format.order at h1 h2
  rw [read_c63] at h1
  rw [read_m63] at h2
  cases hi : infB x
  · obtain ⟨m, i, hr, -⟩ := read_num hn hi
    rw [hr] at h1 h2
    simp only [Ieee.Datum.order, Option.some_beq_some, cmp_int.1, cmp_int.2.1, cmp_int.2.2, Bool.or_eq_false_iff, decide_eq_false_iff_not, signed_eq] at h1 h2
    have hlt : m * 2 ^ (i - min i 11).toNat < 4503599627370496 * 2 ^ ((11 : Int) - min i 11).toNat := by
      generalize negB x = s at h1 h2
      generalize m * 2 ^ (i - min i 11).toNat = A at h1 h2 ⊢
      generalize 4503599627370496 * 2 ^ ((11 : Int) - min i 11).toNat = B at h1 h2 ⊢
      cases s
      · simp at h1; omega
      · simp at h2; omega
    have hc := cut_small hlt
    have ht : truncF x = if negB x then -(((m * 2 ^ i.toNat) / 2 ^ (-i).toNat : Nat) : Int) else (((m * 2 ^ i.toNat) / 2 ^ (-i).toNat : Nat) : Int) := by
      unfold truncF
      rw [hr, toInt_num]
    have hf : floatToIntVal .f64 x .i64 = (if IntKind.min .i64 ≤ truncF x ∧ truncF x ≤ IntKind.max .i64 then some (truncF x) else none) := by
      unfold floatToIntVal
      show (match (Ieee.double.read x).toInt .zero with | some n => _ | none => _) = _
      rw [hr, toInt_num, ht]
    generalize (m * 2 ^ i.toNat) / 2 ^ (-i).toNat = c at hc ht
    have hb : -9223372036854775808 < truncF x ∧ truncF x < 9223372036854775808 := by
      rw [ht]; split <;> omega
    refine ⟨?_, hb⟩
    rw [hf, if_pos]
    simp only [IntKind.min, IntKind.max, IntKind.signed, IntKind.bits]
    constructor <;> simp <;> omega
  · rw [read_inf hi] at h1 h2
    generalize negB x = s at h1 h2
    cases s <;> simp [Ieee.Datum.order] at h1 h2

theorem wholeF_bound (x : Nat) : -9223372036854775808 ≤ wholeF x ∧ wholeF x < 9223372036854775808 := by
  unfold wholeF
  split
  · omega
  · split
    · omega
    · split
      · omega
      · rename_i h0 h1 h2
        have := (trunc_ok (by simpa using h0) (by simpa using h1) (by simpa using h2)).2
        omega

/-- the greatest whole float not above it -/
def floorF (x : Nat) : Nat := if nanB x then quietNaN else canonF (Ieee.double.write ((Ieee.double.read x).integral .down))
theorem write_lt' (d : Ieee.Datum) : Ieee.double.write d < 18446744073709551616 := by have := Ieee.double.write_lt d; rwa [wd_eq] at this
theorem floorF_lt (x : Nat) : floorF x < 18446744073709551616 := by
  unfold floorF; split
  · decide
  · exact canonF_lt (write_lt' _)

/-- a sign put on a float -/
def copyF (f s : Nat) : Nat := f % 9223372036854775808 + s / 9223372036854775808 * 9223372036854775808
theorem and63 {x : Nat} : x &&& 9223372036854775807 = x % 9223372036854775808 := by
  rw [show (9223372036854775807 : Nat) = 2 ^ 63 - 1 from by decide, Nat.and_two_pow_sub_one_eq_mod]
theorem andSign {x : Nat} (h : x < 18446744073709551616) : x &&& 9223372036854775808 = x / 9223372036854775808 * 9223372036854775808 := by
  have h63 : (9223372036854775808 : Nat) = 2 ^ 63 := by decide
  by_cases hlt : x < 9223372036854775808
  · have e : x / 9223372036854775808 = 0 := by omega
    rw [e, Nat.zero_mul]
    apply Nat.eq_of_testBit_eq
    intro i
    rw [h63, Nat.testBit_and, Nat.testBit_two_pow]
    by_cases h : 63 = i
    · subst h; rw [Nat.testBit_lt_two_pow (by omega)]; simp
    · simp [h]
  · obtain ⟨y, rfl⟩ : ∃ y, x = 2 ^ 63 + y := ⟨x - 9223372036854775808, by omega⟩
    have hy : y < 2 ^ 63 := by omega
    have e : (2 ^ 63 + y) / 9223372036854775808 = 1 := by omega
    rw [e, Nat.one_mul]
    apply Nat.eq_of_testBit_eq
    intro i
    rw [h63, Nat.testBit_and, Nat.testBit_two_pow, bit63 hy]
    by_cases h : 63 = i
    · subst h; rw [Nat.testBit_lt_two_pow hy]; simp
    · simp [h]
theorem copy_bits {f s : Nat} (hf : f < 18446744073709551616) (hs : s < 18446744073709551616) :
    Go.bits .or .u64 (Go.bits .andNot .u64 (f : Int) 9223372036854775808) (Go.bits .and .u64 (s : Int) 9223372036854775808) = ((copyF f s : Nat) : Int) := by
  rw [u64_andNot _ _ (by omega) (by omega) (by decide) (by decide), u64_and _ _ (by omega) (by omega) (by decide) (by decide)]
  have e1 : (18446744073709551615 : Nat) - (9223372036854775808 : Int).toNat = 9223372036854775807 := by decide
  rw [e1, Int.toNat_natCast, Int.toNat_natCast, and63, show (9223372036854775808 : Int).toNat = 9223372036854775808 from by decide, andSign hs]
  rw [u64_or_nat _ _ (by omega) (by omega)]
  rw [Nat.or_comm, nat_join 63 _ _ (by omega) (by omega)]
  unfold copyF; rw [Nat.add_comm]
theorem abs_bits {f : Nat} (hf : f < 18446744073709551616) : Go.bits .andNot .u64 (f : Int) 9223372036854775808 = ((f % 9223372036854775808 : Nat) : Int) := by
  rw [u64_andNot _ _ (by omega) (by omega) (by decide) (by decide)]
  have e1 : (18446744073709551615 : Nat) - (9223372036854775808 : Int).toNat = 9223372036854775807 := by decide
  rw [e1, Int.toNat_natCast, and63]
theorem copyF_lt {f s : Nat} (hs : s < 18446744073709551616) : copyF f s < 18446744073709551616 := by unfold copyF; omega

def mulF (x y : Nat) : Nat := match Ieee.double.mul x y with | some r => r | none => quietNaN
theorem mulF_lt (x y : Nat) : mulF x y < 18446744073709551616 := by
  unfold mulF; split
  · rename_i r h; have := Ieee.double.mul_lt h; rwa [wd_eq] at this
  · decide
def divF (x y : Nat) : Nat := match Ieee.double.div x y with | some r => r | none => quietNaN
theorem divF_lt (x y : Nat) : divF x y < 18446744073709551616 := by
  unfold divF; split
  · rename_i r h; have := Ieee.double.div_lt h; rwa [wd_eq] at this
  · decide
theorem mul_num {x y : Nat} (h1 : nanB x = false) (h2 : infB x = false) (h3 : nanB y = false) (h4 : infB y = false) : Ieee.double.mul x y = some (mulF x y) := by
  obtain ⟨m, i, hx, -⟩ := read_num h1 h2
  obtain ⟨n, j, hy, -⟩ := read_num h3 h4
  unfold mulF Ieee.Format.mul
  rw [hx, hy]; rfl
def numOf (n : Int) : Nat := floatOfInt .f64 n
theorem numOf_lt (n : Int) : numOf n < 18446744073709551616 := by
  have := Ieee.double.write_lt (.number (n < 0) n.natAbs 0); rwa [wd_eq] at this

/-- a power of two brought in -/
def normF (x : Nat) : Nat × Int := if ordB (x % 9223372036854775808) 4503599627370496 == some .lt then (mulF x 4841369599423283200, -52) else (x, 0)
def ldexpF (x : Nat) (exp : Int) : Nat :=
  if ordB x 0 == some .eq then x else if ordB (x % 9223372036854775808) 9218868437227405311 == some .gt then x else if nanB x then x else
  let fr := (normF x).1
  let n15 := IntKind.i64.wrap (exp + (normF x).2)
  let n21 := Go.bits .and .i64 (IntKind.i64.wrap (Int.fdiv (fr : Int) (2 ^ (min (52 : Int).toNat (IntKind.bits .u64))))) 2047
  let n23 := IntKind.i64.wrap (n15 + IntKind.i64.wrap (n21 - 1023))
  if n23 < -1075 then copyF 0 fr
  else if n23 > 1023 then (if ordB fr 0 == some .lt then 18442240474082181120 else 9218868437227405312)
  else if n23 < -1022 then mulF 4368491638549381120 (Go.bits .or .u64 (Go.bits .andNot .u64 (fr : Int) 9218868437227405312) (IntKind.u64.wrap ((IntKind.u64.wrap (IntKind.i64.wrap (IntKind.i64.wrap (n23 + 53) + 1023))) * 2 ^ (min (52 : Int).toNat (IntKind.bits .u64))))).toNat
  else mulF 4607182418800017408 (Go.bits .or .u64 (Go.bits .andNot .u64 (fr : Int) 9218868437227405312) (IntKind.u64.wrap ((IntKind.u64.wrap (IntKind.i64.wrap (n23 + 1023))) * 2 ^ (min (52 : Int).toNat (IntKind.bits .u64))))).toNat
def clampN (n : Int) : Int := if (if n < 5000 then n else 5000) > (-5000) then (if n < 5000 then n else 5000) else (-5000)
def scaleF (x : Nat) (n : Int) : Nat := canonF (ldexpF x (clampN n))

/-- where a value lies -/
def sideF (x : Nat) : Int := if ordB x 0 == some .lt then 0 else if ordB x 0 == some .eq then 1 else if ordB x 0 == some .gt then 2 else 3

theorem inf_gt {x : Nat} (h : infB x = true) : ordB (x % 9223372036854775808) 9218868437227405311 = some .gt := by
  simp only [infB, decide_eq_true_eq] at h
  rw [h]; decide +kernel
theorem write_nan (s : Bool) (t : Nat) (h : t % 4503599627370496 ≠ 0) : nanB (Ieee.double.write (.nan s t)) = true := by
  unfold Ieee.Format.write Ieee.Format.word
  simp only [bin_eq, sw_eq, inf_eq, nanB, decide_eq_true_eq]
  split <;> omega
theorem quiet_ne (t : Nat) : Ieee.double.quiet t % 4503599627370496 ≠ 0 := by
  unfold Ieee.Format.quiet
  have e : (2 : Nat) ^ (Ieee.double.fractionBits - 1) = 2 ^ 51 := by decide
  rw [e]
  intro h
  have h1 : ((t ||| 2 ^ 51) % 2 ^ 52).testBit 51 = false := by
    rw [show (2 : Nat) ^ 52 = 4503599627370496 from by decide, h]; simp
  rw [Nat.testBit_mod_two_pow, Nat.testBit_or, Nat.testBit_two_pow] at h1
  simp at h1
section
variable {P : Program}
theorem floor_ext {x : Nat} (hn : nanB x = false) (w : World) : (Extern.MathFloor.toIntegral "math.archFloor" .down #[.float .f64 x]).run P w = .ok (.float .f64 (Ieee.double.write ((Ieee.double.read x).integral .down))) w := by
  have e : Extern.MathFloor.toIntegral "math.archFloor" .down #[.float .f64 x] = (match Ieee.double.read x with
    | .nan s t =>
      if FloatKind.f64.format.quiet t = t then pure (.float .f64 x) else do
      let kept ← choose (.extern "math.Floor,Ceil,Trunc,RoundToEven.signallingNaN kept" 2)
      pure (.float .f64 (if kept == 1 then x else FloatKind.f64.encode (.nan s (FloatKind.f64.format.quiet t))))
    | d => pure (.float .f64 (FloatKind.f64.encode (d.integral .down)))) := rfl
  rw [e]
  cases hi : infB x
  · obtain ⟨m, i, hr, -⟩ := read_num hn hi
    rw [hr]; rfl
  · rw [read_inf hi]; rfl
theorem floor_extN {x : Nat} (hn : nanB x = true) (hx : x < 18446744073709551616) (w : World) : ∃ y n, (Extern.MathFloor.toIntegral "math.archFloor" .down #[.float .f64 x]).run P w = .ok (.float .f64 y) { w with drawn := w.drawn + n } ∧ nanB y = true ∧ y < 18446744073709551616 := by
  have e : Extern.MathFloor.toIntegral "math.archFloor" .down #[.float .f64 x] = (match Ieee.double.read x with
    | .nan s t =>
      if FloatKind.f64.format.quiet t = t then pure (.float .f64 x) else do
      let kept ← choose (.extern "math.Floor,Ceil,Trunc,RoundToEven.signallingNaN kept" 2)
      pure (.float .f64 (if kept == 1 then x else FloatKind.f64.encode (.nan s (FloatKind.f64.format.quiet t))))
    | d => pure (.float .f64 (FloatKind.f64.encode (d.integral .down)))) := rfl
  rw [e]
  obtain ⟨t, ht⟩ := read_nan hn
  rw [ht]
  simp only
  split
  · exact ⟨x, 0, rfl, hn, hx⟩
  · refine ⟨if ((Question.extern "math.Floor,Ceil,Trunc,RoundToEven.signallingNaN kept" 2).cut (w.tape w.drawn (Question.extern "math.Floor,Ceil,Trunc,RoundToEven.signallingNaN kept" 2)) == 1) then x else FloatKind.f64.encode (.nan (negB x) (FloatKind.f64.format.quiet t)), 1, ?_, ?_⟩
    · simp only [Sem.run_bind, run_choose, Question.forced, Result.andThen_ok, Sem.run_pure]
      rfl
    · split
      · exact ⟨hn, hx⟩
      · exact ⟨write_nan _ _ (quiet_ne t), write_lt' _⟩
end
theorem mulF_of {x y r : Nat} (h : floatBits .mul .f64 x y = some r ∨ (floatBits .mul .f64 x y = none ∧ nanB r = true ∧ r < 18446744073709551616)) : canonF r = canonF (mulF x y) ∧ r < 18446744073709551616 := by
  have e : floatBits .mul .f64 x y = Ieee.double.mul x y := rfl
  rw [e] at h
  rcases h with h | ⟨h, hn, hl⟩
  · have : mulF x y = r := by unfold mulF; rw [h]
    exact ⟨by rw [this], by rw [← this]; exact mulF_lt _ _⟩
  · have : mulF x y = quietNaN := by unfold mulF; rw [h]
    rw [this, canonF_nan hn]; exact ⟨by decide, hl⟩
theorem divF_of {x y r : Nat} (h : floatBits .quo .f64 x y = some r ∨ (floatBits .quo .f64 x y = none ∧ nanB r = true ∧ r < 18446744073709551616)) : canonF r = canonF (divF x y) ∧ r < 18446744073709551616 := by
  have e : floatBits .quo .f64 x y = Ieee.double.div x y := rfl
  rw [e] at h
  rcases h with h | ⟨h, hn, hl⟩
  · have : divF x y = r := by unfold divF; rw [h]
    exact ⟨by rw [this], by rw [← this]; exact divF_lt _ _⟩
  · have : divF x y = quietNaN := by unfold divF; rw [h]
    rw [this, canonF_nan hn]; exact ⟨by decide, hl⟩
/-- what is less itself isn't nought: just what is no number -/
theorem sub_self {x r : Nat} (h : floatBits .sub .f64 x x = some r ∨ (floatBits .sub .f64 x x = none ∧ nanB r = true ∧ r < 18446744073709551616)) : (ordB r 0 != some .eq) = (nanB x || infB x) := by
  have e : floatBits .sub .f64 x x = Ieee.double.sub x x := rfl
  rw [e] at h
  cases hn : nanB x
  · cases hi : infB x
    · obtain ⟨m, i, hr, -⟩ := read_num hn hi
      have : Ieee.double.sub x x = some (Ieee.double.write (.number false 0 i)) := by
        unfold Ieee.Format.sub
        rw [hr]
        simp only [Ieee.Datum.opposite, Ieee.Datum.sum, Option.map_some]
        have : Ieee.signed (negB x) m (i - min i i).toNat + Ieee.signed (!negB x) m (i - min i i).toNat = 0 := by
          unfold Ieee.signed; cases negB x <;> simp <;> omega
        rw [this]
        simp
      rw [this] at h
      rcases h with h | ⟨h, -⟩
      · cases h
        have : Ieee.double.write (.number false 0 i) = 0 := by unfold Ieee.Format.write Ieee.Format.nearest Ieee.Format.word; simp
        rw [this]; decide +kernel
      · cases h
    · have : Ieee.double.sub x x = none := by
        unfold Ieee.Format.sub
        rw [read_inf hi]
        simp [Ieee.Datum.opposite, Ieee.Datum.sum]
      rw [this] at h
      rcases h with h | ⟨-, h, -⟩
      · cases h
      · rw [(ord_nan h).1]; rfl
  · have : Ieee.double.sub x x = none := by
      unfold Ieee.Format.sub
      obtain ⟨t, ht⟩ := read_nan hn
      rw [ht]; rfl
    rw [this] at h
    rcases h with h | ⟨-, h, -⟩
    · cases h
    · rw [(ord_nan h).1]; rfl
end Go.Sx
