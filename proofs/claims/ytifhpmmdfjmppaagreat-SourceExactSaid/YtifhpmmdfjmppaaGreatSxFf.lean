/- Floors and scalings. Conditions: none. -/
import Derived.Test.YtifhpmmdfjmppaaGreatSxFe
namespace Go.Sx
set_option linter.unusedSimpArgs false
set_option linter.unusedVariables false

theorem near_nan (s : Bool) (m : Nat) (p : Int) : nanB (nearF s m p) = false := by
  have key : ∀ r, r ≤ 9218868437227405312 → nanB (Ieee.double.word s r) = false := by
    intro r hr
    rw [word_eq]
    unfold nanB
    rw [decide_eq_false_iff_not]
    split <;> omega
  by_cases h : m = 0
  · subst h; rw [nearF_zero]; exact key 0 (by omega)
  · rw [nearF_eq h]; exact key _ (Nat.min_le_right _ _)
theorem numOf_eq (n : Int) : numOf n = nearF (decide (n < 0)) n.natAbs 0 := rfl
theorem word_self {x : Nat} (hx : x < 18446744073709551616) : Ieee.double.word (negB x) (x % 9223372036854775808) = x := by
  rw [word_eq]
  unfold negB
  have : x / 9223372036854775808 < 2 := by omega
  rcases (show x / 9223372036854775808 = 0 ∨ x / 9223372036854775808 = 1 by omega) with h | h
  · rw [h]; simp; omega
  · rw [h]; simp; omega
theorem negB_iff {x : Nat} (hx : x < 18446744073709551616) : negB x = decide (9223372036854775808 ≤ x) := by
  unfold negB
  rw [Bool.eq_iff_iff, beq_iff_eq, decide_eq_true_eq]
  omega
theorem cut_down (s : Bool) (n d : Nat) : Ieee.Toward.down.cut s n d = n / 2 ^ d + (s && n % 2 ^ d != 0).toNat := by
  unfold Ieee.Toward.cut
  simp only [Nat.shiftLeft_eq, Nat.one_mul]
  by_cases h : d ≤ n.log2 + 2
  · rw [Nat.min_eq_left h]
  · rw [Nat.min_eq_right (by omega)]
    have h1 : n < 2 ^ (n.log2 + 1) := Nat.lt_log2_self
    have h2 : n < 2 ^ (n.log2 + 2) := Nat.lt_of_lt_of_le h1 (Nat.pow_le_pow_right (by decide) (by omega))
    have h3 : n < 2 ^ d := Nat.lt_of_lt_of_le h2 (Nat.pow_le_pow_right (by decide) (by omega))
    rw [Nat.div_eq_of_lt h2, Nat.div_eq_of_lt h3, Nat.mod_eq_of_lt h2, Nat.mod_eq_of_lt h3]

/-- a float of its own digits -/
theorem near_self {x : Nat} (hx : x < 18446744073709551616) (h0 : expN x ≠ 0) (h : expN x < 2047) : nearF (negB x) (magN x) (plN x) = x := by
  have hf := fracN_lt x
  have hm : magN x = 4503599627370496 + fracN x := by unfold magN; rw [if_neg h0]
  have hp : plN x = (expN x : Int) - 1075 := by unfold plN; rw [if_neg h0]
  rw [hm, hp, nearF_53 (by omega) (by omega), if_neg (by omega), if_pos (by omega)]
  have : ((expN x : Int) - 1).toNat * 4503599627370496 + (4503599627370496 + fracN x) = x % 9223372036854775808 := by rw [rung_eq]; omega
  rw [this]; exact word_self hx

theorem floor_whole {x : Nat} (hx : x < 18446744073709551616) (h : (expN x = 0 ∧ fracN x = 0) ∨ 1075 ≤ expN x) : floorF x = canonF x := by
  unfold floorF
  cases hn : nanB x
  · simp only [Bool.false_eq_true, if_false]
    rw [canonF_num hn]
    rw [nan_iff] at hn
    simp only [decide_eq_false_iff_not] at hn
    by_cases hi : expN x = 2047
    · have hinf : infB x = true := by rw [inf_iff]; simp only [decide_eq_true_eq]; exact ⟨hi, Decidable.byContradiction fun h => hn ⟨hi, h⟩⟩
      rw [read_inf hinf]
      show canonF (Ieee.double.word (negB x) Ieee.double.infRung) = x
      have hr : x % 9223372036854775808 = 9218868437227405312 := by simp only [infB, decide_eq_true_eq] at hinf; exact hinf
      rw [inf_eq, ← hr, word_self hx, canonF_num]
      simp only [nanB, decide_eq_false_iff_not]; omega
    · have he := expN_lt x
      rw [read_mag (by omega)]
      simp only [Ieee.Datum.integral, Nat.shiftLeft_eq, cut_down]
      show canonF (nearF (negB x) _ 0) = x
      rw [canonF_num (near_nan _ _ _)]
      rcases h with ⟨h0, h1⟩ | h75
      · have hm : magN x = 0 := by unfold magN; rw [if_pos h0, h1]
        rw [hm]
        simp only [Nat.zero_mul, Nat.zero_div, Nat.zero_mod, Nat.zero_add]
        have : (negB x && (0 : Nat) != 0).toNat = 0 := by cases negB x <;> rfl
        rw [this, nearF_zero]
        have hr : x % 9223372036854775808 = 0 := by rw [rung_eq, h0, h1]
        rw [← hr, word_self hx]
      · have hp : plN x = ((expN x - 1075 : Nat) : Int) := by unfold plN; rw [if_neg (by omega)]; omega
        have e2 : (-plN x).toNat = 0 := by omega
        have e1 : (plN x).toNat = expN x - 1075 := by omega
        rw [e1, e2, Nat.pow_zero, Nat.div_one, Nat.mod_one]
        have : (negB x && (0 : Nat) != 0).toNat = 0 := by cases negB x <;> rfl
        rw [this, Nat.add_zero]
        have := nearF_shift (negB x) (magN x) (plN x) (expN x - 1075)
        rw [hp, show (((expN x - 1075 : Nat) : Int) - ((expN x - 1075 : Nat) : Int)) = 0 from by omega] at this
        rw [this, ← hp]
        exact near_self hx (by omega) (by omega)
  · simp only [if_true]; rw [canonF_nan hn]

theorem pow_split (k d : Nat) (h : d ≤ 1074) : ∀ r, (k * 2 ^ d + r) * 2 ^ (1074 - d) = k * 2 ^ (1074 - d + d) + r * 2 ^ (1074 - d) := by
  intro r
  rw [Nat.add_mul, Nat.mul_assoc, ← Nat.pow_add, Nat.add_comm d]

/-- the whole part as a float, and what is less by one where it lies above -/
theorem floor_part {x : Nat} (hx : x < 18446744073709551616) (h0 : ¬ (expN x = 0 ∧ fracN x = 0)) (h : expN x < 1075) :
    (ordB (numOf (wholeF x)) x == some .gt) = (negB x && magN x % 2 ^ (-plN x).toNat != 0) ∧
    ((negB x && magN x % 2 ^ (-plN x).toNat != 0) = false → floorF x = numOf (wholeF x)) ∧
    ((negB x && magN x % 2 ^ (-plN x).toNat != 0) = true → Ieee.double.sub (numOf (wholeF x)) 4607182418800017408 = some (floorF x)) := by
  have hnn : nanB x = false := by rw [nan_iff]; simp only [decide_eq_false_iff_not]; omega
  have hr := read_mag (x := x) (by omega)
  have hm := magN_lt x
  have hm0 : 0 < magN x := by unfold magN; split <;> omega
  obtain ⟨d, hd⟩ : ∃ d, d = (-plN x).toNat := ⟨_, rfl⟩
  have hpl : plN x = -(d : Int) ∧ d ≤ 1074 ∧ 1 ≤ d := by
    rw [hd]; unfold plN; split <;> omega
  rw [← hd]
  have hw : wholeF x = if negB x then -((magN x / 2 ^ d : Nat) : Int) else ((magN x / 2 ^ d : Nat) : Int) := by
    rw [wholeF_bits, if_neg (show ¬ (expN x = 2047 ∧ fracN x ≠ 0) by omega), if_neg (show ¬ 1086 ≤ expN x by omega)]
    unfold wholeN
    rw [if_neg (show ¬ 1075 ≤ expN x by omega), ← hd]
  obtain ⟨k, hk⟩ : ∃ k, k = magN x / 2 ^ d := ⟨_, rfl⟩
  obtain ⟨r, hrr⟩ : ∃ r, r = magN x % 2 ^ d := ⟨_, rfl⟩
  rw [← hk] at hw
  rw [← hrr]
  have hsplit : magN x = k * 2 ^ d + r := by rw [hk, hrr, Nat.mul_comm]; exact (Nat.div_add_mod _ _).symm
  have hk53 : k < 9007199254740992 := by rw [hk]; exact Nat.lt_of_le_of_lt (Nat.div_le_self _ _) hm
  have hfl : floorF x = nearF (negB x) (k + (negB x && r != 0).toNat) 0 := by
    unfold floorF
    rw [hnn, hr]
    simp only [Bool.false_eq_true, if_false, Ieee.Datum.integral, Nat.shiftLeft_eq, cut_down]
    have e1 : (plN x).toNat = 0 := by omega
    have e2 : (-plN x).toNat = d := hd.symm
    rw [e1, e2, Nat.pow_zero, Nat.mul_one, ← hk, ← hrr]
    exact canonF_num (near_nan _ _ _)
  have hnum : numOf (wholeF x) = nearF (negB x && decide (0 < k)) k 0 := by
    rw [numOf_eq, hw]
    cases negB x
    · simp only [Bool.false_eq_true, if_false, Bool.false_and]
      rw [show decide ((k : Int) < 0) = false from by rw [decide_eq_false_iff_not]; omega]
      congr 1
    · simp only [if_true, Bool.true_and]
      rw [show decide (-(k : Int) < 0) = decide (0 < k) from by rw [decide_eq_decide]; omega]
      congr 1
      omega
  -- the values
  have hvx : valF (negB x) (magN x) (plN x) = if negB x then -((k * 2 ^ (1074 - d + d) + r * 2 ^ (1074 - d) : Nat) : Int) else ((k * 2 ^ (1074 - d + d) + r * 2 ^ (1074 - d) : Nat) : Int) := by
    unfold valF
    have : (plN x + 1074).toNat = 1074 - d := by omega
    rw [this, hsplit, pow_split k d hpl.2.1 r]
  have hord : ∃ M i, Ieee.double.read (numOf (wholeF x)) = .number (negB x && decide (0 < k)) M i ∧ -1074 ≤ i ∧ i ≤ 1 ∧ valF (negB x && decide (0 < k)) M i = (if (negB x && decide (0 < k)) then -((k * 2 ^ (1074 - d + d) : Nat) : Int) else ((k * 2 ^ (1074 - d + d) : Nat) : Int)) ∧ (0 < k → -52 ≤ i ∧ M * 2 ^ (i + 52).toNat = k * 2 ^ 52) ∧ (k = 0 → M = 0 ∧ i = -1074) := by
    rw [hnum]
    by_cases hk0 : 0 < k
    · obtain ⟨M, i, h1, h2, h3, h4⟩ := read_whole (s := negB x && decide (0 < k)) hk0 (by omega)
      refine ⟨M, i, h1, by omega, h3, ?_, fun _ => ⟨h2, h4⟩, fun h => by omega⟩
      unfold valF
      obtain ⟨z, hz⟩ : ∃ z : Nat, z = 1022 := ⟨_, rfl⟩
      have e1 : (i + 1074).toNat = (i + 52).toNat + z := by omega
      have e2 : 1074 - d + d = 52 + z := by omega
      rw [e1, e2, Nat.pow_add, ← Nat.mul_assoc, h4, Nat.pow_add, Nat.mul_assoc]
    · obtain rfl : k = 0 := by omega
      refine ⟨0, -1074, ?_, by omega, by omega, ?_, fun h => by omega, fun _ => ⟨rfl, rfl⟩⟩
      · rw [nearF_zero, read_word (by omega)]; rfl
      · unfold valF; rw [Nat.zero_mul, Nat.zero_mul]
  obtain ⟨M, i, hr2, hi1, hi2, hv2, hM, hM0⟩ := hord
  have hgt : (ordB (numOf (wholeF x)) x == some .gt) = (negB x && r != 0) := by
    unfold ordB Ieee.Format.order
    rw [hr2, hr, order_val hi1 (plN_ge x), hv2, hvx]
    simp only [Option.some_beq_some, cmp_int.1]
    have hp1 := Nat.two_pow_pos (1074 - d)
    have hrp : r = 0 ↔ r * 2 ^ (1074 - d) = 0 := by
      constructor
      · intro h; rw [h, Nat.zero_mul]
      · intro h; exact (Nat.mul_eq_zero.1 h).resolve_right (by omega)
    have hkp : k = 0 ↔ k * 2 ^ (1074 - d + d) = 0 := by
      have := Nat.two_pow_pos (1074 - d + d)
      constructor
      · intro h; rw [h, Nat.zero_mul]
      · intro h; exact (Nat.mul_eq_zero.1 h).resolve_right (by omega)
    have hkr : k = 0 → r ≠ 0 := fun h1 h2 => by rw [h1, h2] at hsplit; omega
    generalize k * 2 ^ (1074 - d + d) = A at hkp ⊢
    generalize r * 2 ^ (1074 - d) = C at hrp ⊢
    rw [Bool.eq_iff_iff, decide_eq_true_eq]
    cases negB x
    · simp only [Bool.false_eq_true, if_false, Bool.false_and]
      constructor
      · intro h; omega
      · intro h; cases h
    · simp only [if_true, Bool.true_and, bne_iff_ne, ne_eq]
      by_cases hk0 : 0 < k
      · simp only [hk0, decide_true, if_true]; omega
      · simp only [hk0, decide_false, Bool.false_eq_true, if_false]; omega
  refine ⟨hgt, fun hb => ?_, fun hb => ?_⟩
  · rw [hfl, hnum, hb]
    have : negB x = (negB x && decide (0 < k)) := by
      cases hs : negB x
      · rfl
      · rw [hs] at hb
        have hr0 : r = 0 := by simpa using hb
        have : 0 < k := by
          rcases Nat.eq_zero_or_pos k with h | h
          · rw [h, hr0] at hsplit; omega
          · exact h
        simp [this]
    rw [← this]; rfl
  · have hs : negB x = true := by
      cases hs : negB x
      · rw [hs] at hb; cases hb
      · rfl
    rw [hfl, hb, hs]
    have hone : Ieee.double.read 4607182418800017408 = .number false 4503599627370496 (-52) := by decide +kernel
    unfold Ieee.Format.sub
    rw [hr2, hone, hs]
    simp only [Ieee.Datum.opposite, Ieee.Datum.sum, Option.map_some, signed_eq, Bool.not_false, if_true, Bool.true_and]
    congr 1
    -- both at one place
    obtain ⟨c, hc⟩ : ∃ c : Nat, min i (-52) = -(c : Int) := ⟨(-(min i (-52))).toNat, by omega⟩
    rw [hc]
    have e1 : (-52 - -(c : Int)).toNat = c - 52 := by omega
    have hc52 : 52 ≤ c := by omega
    have e2 : M * 2 ^ (i - -(c : Int)).toNat = k * 2 ^ c := by
      by_cases hk0 : 0 < k
      · obtain ⟨h1, h2⟩ := hM hk0
        have hcc : c = 52 := by omega
        subst hcc
        rw [show (i - -((52 : Nat) : Int)).toNat = (i + 52).toNat from by omega]; exact h2
      · obtain ⟨rfl, -⟩ := hM0 (by omega)
        obtain rfl : k = 0 := by omega
        simp
    have e3 : 4503599627370496 * 2 ^ (c - 52) = 2 ^ c := by
      rw [show (4503599627370496 : Nat) = 2 ^ 52 from by decide, ← Nat.pow_add, show 52 + (c - 52) = c from by omega]
    rw [e1, e2, e3]
    have hcp := Nat.two_pow_pos c
    have e4 : ((if decide (0 < k) = true then -((k * 2 ^ c : Nat) : Int) else ((k * 2 ^ c : Nat) : Int)) + -((2 ^ c : Nat) : Int)) = -(((k + 1) * 2 ^ c : Nat) : Int) := by
      rw [Nat.add_mul, Nat.one_mul]
      by_cases hk0 : 0 < k
      · simp only [hk0, decide_true, if_true]; omega
      · obtain rfl : k = 0 := by omega
        simp
    rw [e4]
    have hpos : 0 < (k + 1) * 2 ^ c := Nat.mul_pos (by omega) hcp
    have := nearF_shift true (k + 1) 0 c
    rw [show (0 - (c : Int)) = -(c : Int) from by omega] at this
    show nearF (if -(((k + 1) * 2 ^ c : Nat) : Int) = 0 then (decide (0 < k) && true) else decide (-(((k + 1) * 2 ^ c : Nat) : Int) < 0)) (-(((k + 1) * 2 ^ c : Nat) : Int)).natAbs (-(c : Int)) = nearF true (k + true.toNat) 0
    generalize (k + 1) * 2 ^ c = Q at hpos this ⊢
    rw [if_neg (by omega), show decide (-(Q : Int) < 0) = true from by rw [decide_eq_true_eq]; omega, show (-(Q : Int)).natAbs = Q from by omega, this]
    rfl
end Go.Sx
namespace Go.Sx
set_option linter.unusedSimpArgs false
set_option linter.unusedVariables false
/-! ### scalings -/
/-- x times 2 to the n, to the nearest -/
def scaleS (x : Nat) (n : Int) : Nat := if nanB x || infB x || decide (x % 9223372036854775808 = 0) then canonF x else nearF (negB x) (magN x) (plN x + n)

theorem mul_read {c y : Nat} {q i : Int} {s : Bool} {M : Nat} (hc : Ieee.double.read c = .number false 4503599627370496 q) (hy : Ieee.double.read y = .number s M i) : mulF c y = nearF s M (q + 52 + i) := by
  unfold mulF Ieee.Format.mul
  rw [hc, hy]
  simp only [Ieee.Datum.product, Option.map_some, Bool.false_xor]
  show nearF s (4503599627370496 * M) (q + i) = _
  have := nearF_shift s M (q + 52 + i) 52
  rw [show q + 52 + i - ((52 : Nat) : Int) = q + i from by omega, show M * 2 ^ 52 = 4503599627370496 * M from by omega] at this
  exact this
theorem mul_read' {c y : Nat} {q i : Int} {s : Bool} {M : Nat} (hc : Ieee.double.read c = .number false 4503599627370496 q) (hy : Ieee.double.read y = .number s M i) : mulF y c = nearF s M (q + 52 + i) := by
  unfold mulF Ieee.Format.mul
  rw [hc, hy]
  simp only [Ieee.Datum.product, Option.map_some, Bool.xor_false]
  show nearF s (M * 4503599627370496) (i + q) = _
  have := nearF_shift s M (q + 52 + i) 52
  rw [show q + 52 + i - ((52 : Nat) : Int) = i + q from by omega, show M * 2 ^ 52 = M * 4503599627370496 from by omega] at this
  exact this

theorem read_one : Ieee.double.read 4607182418800017408 = .number false 4503599627370496 (-52) := by decide +kernel
theorem read_m53 : Ieee.double.read 4368491638549381120 = .number false 4503599627370496 (-105) := by decide +kernel
theorem read_p52 : Ieee.double.read 4841369599423283200 = .number false 4503599627370496 0 := by decide +kernel
theorem read_min : Ieee.double.read 4503599627370496 = .number false 4503599627370496 (-1074) := by decide +kernel
theorem read_max : Ieee.double.read 9218868437227405311 = .number false 9007199254740991 971 := by decide +kernel
theorem read_zero : Ieee.double.read 0 = .number false 0 (-1074) := by decide +kernel

/-- a normal float's word -/
theorem norm_word {s : Bool} {E M : Nat} (h1 : 1 ≤ E) (h2 : E ≤ 2046) (h3 : 4503599627370496 ≤ M) (h4 : M < 9007199254740992) :
    ∃ y, y = Ieee.double.word s ((E - 1) * 4503599627370496 + M) ∧ y < 18446744073709551616 ∧ negB y = s ∧ expN y = E ∧ fracN y = M - 4503599627370496 ∧ Ieee.double.read y = .number s M ((E : Int) - 1075) ∧ (y : Int) = (if s then 9223372036854775808 else 0) + (E : Int) * 4503599627370496 + ((M : Int) - 4503599627370496) := by
  refine ⟨_, rfl, ?_, ?_, ?_, ?_, ?_, ?_⟩
  · rw [word_eq]; split <;> omega
  · rw [word_eq, negB_iff (by split <;> omega)]; cases s <;> simp <;> omega
  · rw [word_eq]; unfold expN; split <;> omega
  · rw [word_eq]; unfold fracN; split <;> omega
  · rw [read_word (by omega), if_neg (by omega), if_pos (by omega)]
    have e1 : ((E - 1) * 4503599627370496 + M) % 4503599627370496 = M - 4503599627370496 := by omega
    have e2 : ((E - 1) * 4503599627370496 + M) / 4503599627370496 - 1 = E - 1 := by omega
    rw [e1, e2, show 4503599627370496 + (M - 4503599627370496) = M from by omega, show (-1074 : Int) + ((E - 1 : Nat) : Int) = (E : Int) - 1075 from by omega]
  · rw [word_eq]; cases s <;> simp <;> omega

theorem and2047 {a : Nat} (ha : a < 4096) : Go.bits .and .i64 (IntKind.i64.wrap (a : Int)) 2047 = ((a % 2048 : Nat) : Int) := by
  have hw : IntKind.i64.wrap (a : Int) = (a : Int) := by rw [IntKind.wrap_i64]; omega
  rw [hw]
  have h := (bits_nat .i64 63 (by decide) (fun n h0 h1 => by rw [IntKind.wrap_i64]; omega) a 2047 (by omega) (by decide)).1
  rw [show (2047 : Int) = ((2047 : Nat) : Int) from rfl, h, show (2047 : Nat) = 2 ^ 11 - 1 from by decide, Nat.and_two_pow_sub_one_eq_mod]
theorem keepM {y : Nat} (hy : y < 18446744073709551616) : Go.bits .andNot .u64 (y : Int) 9218868437227405312 = ((y / 9223372036854775808 * 9223372036854775808 + y % 4503599627370496 : Nat) : Int) := by
  rw [u64_andNot _ _ (by omega) (by omega) (by decide) (by decide)]
  have e1 : (18446744073709551615 : Nat) - (9218868437227405312 : Int).toNat = 9223372036854775808 ||| 4503599627370495 := by decide
  rw [e1, Int.toNat_natCast, Nat.and_or_distrib_left, andSign hy, show (4503599627370495 : Nat) = 2 ^ 52 - 1 from by decide, Nat.and_two_pow_sub_one_eq_mod]
  rw [nat_join 63 _ _ (by omega) (by omega)]
theorem orE {y a : Nat} {t : Nat} (hy : y < 18446744073709551616) (ht : t ≤ 2046) (ha : (a : Int) = (y / 9223372036854775808 * 9223372036854775808 + y % 4503599627370496 : Nat)) : Go.bits .or .u64 (a : Int) ((t : Int) * 4503599627370496) = ((y / 9223372036854775808 * 9223372036854775808 + t * 4503599627370496 + y % 4503599627370496 : Nat) : Int) := by
  have ha' : a = y / 9223372036854775808 * 9223372036854775808 + y % 4503599627370496 := by exact_mod_cast ha
  have e : ((t : Int) * 4503599627370496) = ((t * 4503599627370496 : Nat) : Int) := by omega
  rw [e, u64_or_nat _ _ (by omega) (by omega), ha']
  congr 1
  have h1 : y / 9223372036854775808 * 9223372036854775808 + y % 4503599627370496 = (y / 9223372036854775808 * 9223372036854775808) ||| (y % 4503599627370496) := (nat_join 63 _ _ (by omega) (by omega)).symm
  rw [h1, Nat.or_assoc, Nat.or_comm (y % 4503599627370496), nat_join 52 (t * 4503599627370496) _ (by omega) (by omega), nat_join 63 _ _ (by omega) (by omega)]
  omega
end Go.Sx
