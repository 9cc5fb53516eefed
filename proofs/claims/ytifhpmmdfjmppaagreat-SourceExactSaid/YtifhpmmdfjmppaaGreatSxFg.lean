/- The scaling of the program is the scaling to the nearest. Conditions: none. -/
import Derived.Test.YtifhpmmdfjmppaaGreatSxFf
namespace Go.Sx
set_option linter.unusedSimpArgs false
set_option linter.unusedVariables false

theorem cutE_deep {m d : Nat} (h : m < 9007199254740992) (hd : 54 ≤ d) : cutE m d = 0 := by
  have h1 : (2 : Nat) ^ 54 ≤ 2 ^ d := Nat.pow_le_pow_right (by decide) hd
  have h2 : (2 : Nat) ^ 54 = 18014398509481984 := by decide
  unfold cutE
  generalize (2 : Nat) ^ d = q at h1
  rw [h2] at h1
  rw [Nat.div_eq_of_lt (by omega), Nat.mod_eq_of_lt (by omega), decide_eq_false (by omega), show (q == 2 * m) = false from by rw [beq_eq_false_iff_ne]; omega]
  rfl

/-- the order of a number and nought -/
theorem ord_zero {y M : Nat} {s : Bool} {p : Int} (hy : Ieee.double.read y = .number s M p) (hp : -1074 ≤ p) : (ordB y 0 == some .eq) = decide (M = 0) ∧ (ordB y 0 == some .lt) = (decide (M ≠ 0) && s) ∧ (ordB y 0 == some .gt) = (decide (M ≠ 0) && !s) := by
  have h : ordB y 0 = some (compare (valF s M p) 0) := by
    show (Ieee.double.read y).order (Ieee.double.read 0) = _
    rw [hy, read_zero, order_val hp (by decide)]
    simp only [valF, Nat.zero_mul]; rfl
  rw [h]
  have hv : valF s M p = if s then -((M * 2 ^ (p + 1074).toNat : Nat) : Int) else ((M * 2 ^ (p + 1074).toNat : Nat) : Int) := rfl
  rw [hv]
  have hz : (M * 2 ^ (p + 1074).toNat = 0) ↔ M = 0 := by
    rw [Nat.mul_eq_zero]
    constructor
    · rintro (h | h)
      · exact h
      · exact absurd h (Nat.ne_of_gt (Nat.two_pow_pos _))
    · exact fun h => .inl h
  generalize M * 2 ^ (p + 1074).toNat = V at hz
  obtain ⟨c1, c2, c3⟩ := cmp_int (a := if s then -(V : Int) else (V : Int)) (b := 0)
  have e : ∀ (a b : Ordering), (some a == some b) = (a == b) := fun a b => by cases a <;> cases b <;> rfl
  rw [e, e, e, c1, c2, c3]
  by_cases hm : M = 0
  · have hV : V = 0 := hz.2 hm
    rw [hV]; cases s <;> simp [hm]
  · have hV : V ≠ 0 := fun h => hm (hz.1 h)
    have hp : 0 < V := Nat.pos_of_ne_zero hV
    cases s
    · simp [hm, hV]; omega
    · simp [hm, hV]; omega

theorem exp_mod (x : Nat) : expN (x % 9223372036854775808) = expN x ∧ fracN (x % 9223372036854775808) = fracN x ∧ negB (x % 9223372036854775808) = false := by
  refine ⟨?_, ?_, ?_⟩
  · unfold expN; omega
  · unfold fracN; omega
  · unfold negB
    have : x % 9223372036854775808 / 9223372036854775808 = 0 := by omega
    rw [this]; rfl
theorem mag_mod (x : Nat) : magN (x % 9223372036854775808) = magN x ∧ plN (x % 9223372036854775808) = plN x := by
  obtain ⟨h1, h2, _⟩ := exp_mod x
  unfold magN plN; rw [h1, h2]; exact ⟨rfl, rfl⟩

def x2045 : Nat := 2045
def maxV : Nat := 9007199254740991 * 2 ^ x2045
theorem ord_max {x : Nat} (h : expN x < 2047) : (ordB (x % 9223372036854775808) 9218868437227405311 == some .gt) = false := by
  obtain ⟨h1, h2, h3⟩ := exp_mod x
  obtain ⟨h4, h5⟩ := mag_mod x
  have hr := read_mag (x := x % 9223372036854775808) (by omega)
  rw [h3, h4, h5] at hr
  have ho : ordB (x % 9223372036854775808) 9218868437227405311 = some (compare (valF false (magN x) (plN x)) (valF false 9007199254740991 971)) := by
    show (Ieee.double.read (x % 9223372036854775808)).order (Ieee.double.read 9218868437227405311) = _
    rw [hr, read_max, order_val (plN_ge x) (by decide)]
  rw [ho]
  have hm := magN_lt x
  have hp : (plN x + 1074).toNat ≤ x2045 := by unfold plN x2045; split <;> omega
  have hle : magN x * 2 ^ (plN x + 1074).toNat ≤ maxV := Nat.mul_le_mul (by omega) (Nat.pow_le_pow_right (by decide) hp)
  have hv : valF false 9007199254740991 971 = (maxV : Int) := by
    unfold valF maxV; rw [if_neg (by decide), show ((971 : Int) + 1074).toNat = x2045 from by decide]
  have hv2 : valF false (magN x) (plN x) = ((magN x * 2 ^ (plN x + 1074).toNat : Nat) : Int) := rfl
  rw [hv, hv2]
  obtain ⟨c1, c2, c3⟩ := cmp_int (a := ((magN x * 2 ^ (plN x + 1074).toNat : Nat) : Int)) (b := (maxV : Int))
  have e : ∀ (a b : Ordering), (some a == some b) = (a == b) := fun a b => by cases a <;> cases b <;> rfl
  rw [e, c1, decide_eq_false]
  omega
theorem ord_min {x : Nat} (h : expN x < 2047) : (ordB (x % 9223372036854775808) 4503599627370496 == some .lt) = decide (expN x = 0) := by
  obtain ⟨h1, h2, h3⟩ := exp_mod x
  obtain ⟨h4, h5⟩ := mag_mod x
  have hr := read_mag (x := x % 9223372036854775808) (by omega)
  rw [h3, h4, h5] at hr
  have ho : ordB (x % 9223372036854775808) 4503599627370496 = some (compare (valF false (magN x) (plN x)) (valF false 4503599627370496 (-1074))) := by
    show (Ieee.double.read (x % 9223372036854775808)).order (Ieee.double.read 4503599627370496) = _
    rw [hr, read_min, order_val (plN_ge x) (by decide)]
  rw [ho]
  have hv : valF false 4503599627370496 (-1074) = (4503599627370496 : Int) := by decide
  have hv2 : valF false (magN x) (plN x) = ((magN x * 2 ^ (plN x + 1074).toNat : Nat) : Int) := rfl
  rw [hv, hv2]
  obtain ⟨c1, c2, c3⟩ := cmp_int (a := ((magN x * 2 ^ (plN x + 1074).toNat : Nat) : Int)) (b := (4503599627370496 : Int))
  have e : ∀ (a b : Ordering), (some a == some b) = (a == b) := fun a b => by cases a <;> cases b <;> rfl
  rw [e, c3]
  by_cases hE : expN x = 0
  · have hp : plN x = -1074 := by unfold plN; rw [if_pos hE]
    have hm : magN x = fracN x := by unfold magN; rw [if_pos hE]
    have := fracN_lt x
    rw [hp, hm, decide_eq_true hE, decide_eq_true]
    show ((fracN x * 1 : Nat) : Int) < _
    omega
  · have hm : 4503599627370496 ≤ magN x := by unfold magN; rw [if_neg hE]; omega
    have hq : 1 ≤ 2 ^ (plN x + 1074).toNat := Nat.two_pow_pos _
    have := Nat.mul_le_mul hm hq
    rw [decide_eq_false hE, decide_eq_false]
    omega

/-- the last steps of a scaling -/
def tailF (fr : Nat) (n15 : Int) : Nat :=
  let n21 := Go.bits .and .i64 (IntKind.i64.wrap (Int.fdiv (fr : Int) (2 ^ (min (52 : Int).toNat (IntKind.bits .u64))))) 2047
  let n23 := IntKind.i64.wrap (n15 + IntKind.i64.wrap (n21 - 1023))
  if n23 < -1075 then copyF 0 fr
  else if n23 > 1023 then (if ordB fr 0 == some .lt then 18442240474082181120 else 9218868437227405312)
  else if n23 < -1022 then mulF 4368491638549381120 (Go.bits .or .u64 (Go.bits .andNot .u64 (fr : Int) 9218868437227405312) (IntKind.u64.wrap ((IntKind.u64.wrap (IntKind.i64.wrap (IntKind.i64.wrap (n23 + 53) + 1023))) * 2 ^ (min (52 : Int).toNat (IntKind.bits .u64))))).toNat
  else mulF 4607182418800017408 (Go.bits .or .u64 (Go.bits .andNot .u64 (fr : Int) 9218868437227405312) (IntKind.u64.wrap ((IntKind.u64.wrap (IntKind.i64.wrap (n23 + 1023))) * 2 ^ (min (52 : Int).toNat (IntKind.bits .u64))))).toNat
theorem ldexp_tail (x : Nat) (exp : Int) : ldexpF x exp = if ordB x 0 == some .eq then x else if ordB (x % 9223372036854775808) 9218868437227405311 == some .gt then x else if nanB x then x else tailF (normF x).1 (IntKind.i64.wrap (exp + (normF x).2)) := rfl

/-- the exponent put in -/
theorem put_exp {s : Bool} {E M t y : Nat} (h1 : 1 ≤ E) (h2 : E ≤ 2046) (h3 : 4503599627370496 ≤ M) (h4 : M < 9007199254740992) (ht : 1 ≤ t) (ht2 : t ≤ 2046) (hy : y = Ieee.double.word s ((E - 1) * 4503599627370496 + M)) {c : Int} (hc : c = t) :
    Ieee.double.read (Go.bits .or .u64 (Go.bits .andNot .u64 (y : Int) 9218868437227405312) (IntKind.u64.wrap (IntKind.u64.wrap c * 2 ^ (min (52 : Int).toNat (IntKind.bits .u64))))).toNat = .number s M ((t : Int) - 1075) := by
  have hyl : y < 18446744073709551616 := by rw [hy, word_eq]; split <;> omega
  rw [keepM hyl]
  have e1 : IntKind.u64.wrap (IntKind.u64.wrap c * 2 ^ (min (52 : Int).toNat (IntKind.bits .u64))) = (t : Int) * 4503599627370496 := by
    rw [hc, show (2 : Int) ^ (min (52 : Int).toNat (IntKind.bits .u64)) = 4503599627370496 from by decide, IntKind.wrap_u64, IntKind.wrap_u64]; omega
  rw [e1, orE hyl ht2 rfl, Int.toNat_natCast]
  have e2 : y / 9223372036854775808 * 9223372036854775808 + t * 4503599627370496 + y % 4503599627370496 = Ieee.double.word s ((t - 1) * 4503599627370496 + M) := by
    rw [hy, word_eq, word_eq]; cases s <;> simp <;> omega
  rw [e2]
  obtain ⟨y', hy', _, _, _, _, hr, _⟩ := norm_word (s := s) (E := t) (M := M) ht ht2 h3 h4
  rw [← hy']; exact hr

theorem tail_eq {s : Bool} {E M fr : Nat} {n : Int} (h1 : 1 ≤ E) (h2 : E ≤ 2046) (h3 : 4503599627370496 ≤ M) (h4 : M < 9007199254740992) (hfr : fr = Ieee.double.word s ((E - 1) * 4503599627370496 + M)) (hn : -6000 ≤ n ∧ n ≤ 6000) :
    tailF fr n = nearF s M (n + E - 1075) := by
  obtain ⟨y, hy, hyl, hs, hE, hf, hr, hyi⟩ := norm_word (s := s) (E := E) (M := M) h1 h2 h3 h4
  have hyf : fr = y := by rw [hfr, hy]
  have hdiv : Int.fdiv (fr : Int) (2 ^ (min (52 : Int).toNat (IntKind.bits .u64))) = ((fr / 4503599627370496 : Nat) : Int) := by
    rw [show (2 : Int) ^ (min (52 : Int).toNat (IntKind.bits .u64)) = ((4503599627370496 : Nat) : Int) from by decide]
    rw [Int.fdiv_eq_ediv_of_nonneg _ (by omega)]; rfl
  have h21 : Go.bits .and .i64 (IntKind.i64.wrap (Int.fdiv (fr : Int) (2 ^ (min (52 : Int).toNat (IntKind.bits .u64))))) 2047 = (E : Int) := by
    rw [hdiv, and2047 (by omega)]
    rw [hyf, ← hE]; rfl
  have h23 : IntKind.i64.wrap (n + IntKind.i64.wrap (Go.bits .and .i64 (IntKind.i64.wrap (Int.fdiv (fr : Int) (2 ^ (min (52 : Int).toNat (IntKind.bits .u64))))) 2047 - 1023)) = n + E - 1023 := by
    rw [h21, IntKind.wrap_i64, IntKind.wrap_i64]; omega
  unfold tailF
  simp only [h23]
  rw [nearF_53 h3 h4]
  by_cases c1 : n + E - 1023 < -1075
  · rw [if_pos c1, if_neg (by omega), if_neg (by omega), cutE_deep h4 (by omega)]
    unfold copyF
    rw [hfr, word_eq, word_eq]; cases s <;> simp <;> omega
  rw [if_neg c1]
  by_cases c2 : n + E - 1023 > 1023
  · rw [if_pos c2, if_pos (show 2047 ≤ n + (E : Int) by omega)]
    have := (ord_zero (y := fr) (by rw [hyf]; exact hr) (by omega)).2.1
    rw [this, decide_eq_true (show M ≠ 0 by omega), Bool.true_and, word_eq]
  rw [if_neg c2, if_neg (show ¬2047 ≤ n + (E : Int) by omega)]
  have last : ∀ t : Nat, 1 ≤ t → t ≤ 2046 → ∀ (c : Int), c = t → Ieee.double.read (Go.bits .or .u64 (Go.bits .andNot .u64 (fr : Int) 9218868437227405312) (IntKind.u64.wrap (IntKind.u64.wrap c * 2 ^ (min (52 : Int).toNat (IntKind.bits .u64))))).toNat = .number s M ((t : Int) - 1075) := fun t ht ht2 c hc => put_exp h1 h2 h3 h4 ht ht2 hfr hc
  by_cases c3 : n + E - 1023 < -1022
  · rw [if_pos c3]
    have hr2 := last (n + E + 53).toNat (by omega) (by omega) (IntKind.i64.wrap (IntKind.i64.wrap (n + E - 1023 + 53) + 1023)) (by rw [IntKind.wrap_i64, IntKind.wrap_i64]; omega)
    rw [mul_read read_m53 hr2]
    rw [show (-105 : Int) + 52 + (((n + E + 53).toNat : Int) - 1075) = (n + E) - 1075 from by omega, nearF_53 h3 h4, if_neg (show ¬2047 ≤ n + (E : Int) by omega)]
  · rw [if_neg c3]
    have hr2 := last (n + E).toNat (by omega) (by omega) (IntKind.i64.wrap (n + E - 1023 + 1023)) (by rw [IntKind.wrap_i64]; omega)
    rw [mul_read read_one hr2]
    rw [show (-52 : Int) + 52 + (((n + E).toNat : Int) - 1075) = (n + E) - 1075 from by omega, nearF_53 h3 h4, if_neg (show ¬2047 ≤ n + (E : Int) by omega)]

/-- a small number drawn up to its full length -/
theorem draw_up {m : Nat} (h0 : 0 < m) (h : m < 4503599627370496) : ∃ j, 1 ≤ j ∧ j ≤ 52 ∧ 4503599627370496 ≤ m * 2 ^ j ∧ m * 2 ^ j < 9007199254740992 := by
  have h1 := Nat.lt_log2_self (n := m)
  have h2 := Nat.log2_self_le (n := m) (by omega)
  have h3 : m.log2 < 52 := (Nat.log2_lt (by omega)).2 (by simpa using h)
  refine ⟨52 - m.log2, by omega, by omega, ?_, ?_⟩
  · have := Nat.mul_le_mul_right (2 ^ (52 - m.log2)) h2
    rw [← Nat.pow_add, show m.log2 + (52 - m.log2) = 52 from by omega] at this
    simpa using this
  · have := Nat.mul_lt_mul_of_pos_right h1 (Nat.two_pow_pos (52 - m.log2))
    rw [← Nat.pow_add, show m.log2 + 1 + (52 - m.log2) = 53 from by omega] at this
    simpa using this

theorem clampN_in (n : Int) : -5000 ≤ clampN n ∧ clampN n ≤ 5000 := by unfold clampN; repeat' split <;> try omega
theorem scaleS_zero {x : Nat} {n : Int} (h : (nanB x || infB x || decide (x % 9223372036854775808 = 0)) = true) : scaleS x n = canonF x := by unfold scaleS; rw [if_pos h]
theorem scaleS_num {x : Nat} {n : Int} (h : (nanB x || infB x || decide (x % 9223372036854775808 = 0)) = false) : scaleS x n = nearF (negB x) (magN x) (plN x + n) := by
  unfold scaleS; rw [if_neg (by rw [h]; decide)]

theorem scaleF_eq {x : Nat} (hx : x < 18446744073709551616) (n : Int) : scaleF x n = scaleS x (clampN n) := by
  have hk := clampN_in n
  unfold scaleF
  generalize clampN n = k at hk
  rw [ldexp_tail]
  by_cases hE : expN x < 2047
  · have hnan : nanB x = false := by rw [nan_iff, decide_eq_false_iff_not]; omega
    have hinf : infB x = false := by rw [inf_iff, decide_eq_false_iff_not]; omega
    have hr := read_mag hE
    obtain ⟨z1, z2, z3⟩ := ord_zero hr (plN_ge x)
    rw [z1]
    have hrung := rung_eq x
    by_cases hz : magN x = 0
    · rw [decide_eq_true hz, if_pos rfl]
      have h0 : x % 9223372036854775808 = 0 := by
        unfold magN at hz
        split at hz
        · omega
        · omega
      rw [scaleS_zero (by rw [decide_eq_true h0, Bool.or_true])]
    · rw [decide_eq_false hz, if_neg (by decide), ord_max hE, if_neg (by decide), hnan, if_neg (by decide)]
      have h0 : x % 9223372036854775808 ≠ 0 := by
        intro h0
        apply hz
        unfold magN
        rw [if_pos (by omega)]; omega
      rw [scaleS_num (by rw [hnan, hinf, decide_eq_false h0]; rfl)]
      have done : tailF (normF x).1 (IntKind.i64.wrap (k + (normF x).2)) = nearF (negB x) (magN x) (plN x + k) := by
        unfold normF
        rw [ord_min hE]
        by_cases he : expN x = 0
        · rw [decide_eq_true he, if_pos rfl]
          have hm : magN x = fracN x := by unfold magN; rw [if_pos he]
          have hp : plN x = -1074 := by unfold plN; rw [if_pos he]
          obtain ⟨j, hj1, hj2, hj3, hj4⟩ := draw_up (m := magN x) (by omega) (by rw [hm]; exact fracN_lt x)
          have e1 : mulF x 4841369599423283200 = Ieee.double.word (negB x) ((53 - j - 1) * 4503599627370496 + magN x * 2 ^ j) := by
            rw [mul_read' read_p52 hr, hp]
            have := nearF_shift (negB x) (magN x) (0 + 52 + -1074) j
            rw [← this, show (0 : Int) + 52 + -1074 - (j : Int) = ((53 - j : Nat) : Int) - 1075 from by omega, nearF_53 hj3 hj4, if_neg (by omega), if_pos (by omega), show (((53 - j : Nat) : Int) - 1).toNat = 53 - j - 1 from by omega]
          show tailF (mulF x 4841369599423283200) (IntKind.i64.wrap (k + -52)) = _
          rw [tail_eq (E := 53 - j) (by omega) (by omega) hj3 hj4 e1 (by rw [IntKind.wrap_i64]; omega)]
          have := nearF_shift (negB x) (magN x) (plN x + k) j
          rw [← this, hp]
          rw [show IntKind.i64.wrap (k + -52) + ((53 - j : Nat) : Int) - 1075 = -1074 + k - (j : Int) from by rw [IntKind.wrap_i64]; omega]
        · rw [decide_eq_false he, if_neg (by decide)]
          have hm : magN x = 4503599627370496 + fracN x := by unfold magN; rw [if_neg he]
          have hp : plN x = (expN x : Int) - 1075 := by unfold plN; rw [if_neg he]
          have hf := fracN_lt x
          show tailF x (IntKind.i64.wrap (k + 0)) = _
          rw [tail_eq (s := negB x) (E := expN x) (M := magN x) (by omega) (by omega) (by omega) (by omega) ?_ (by rw [IntKind.wrap_i64]; omega)]
          · rw [hp, show IntKind.i64.wrap (k + 0) + (expN x : Int) - 1075 = (expN x : Int) - 1075 + k from by rw [IntKind.wrap_i64]; omega]
          · rw [hm, show (expN x - 1) * 4503599627370496 + (4503599627370496 + fracN x) = x % 9223372036854775808 from by omega]
            exact (word_self hx).symm
      rw [done]
      exact canonF_num (near_nan _ _ _)
  · have hE' : expN x = 2047 := by have := expN_lt x; omega
    have hrung := rung_eq x
    have hf := fracN_lt x
    have hsp : (nanB x || infB x || decide (x % 9223372036854775808 = 0)) = true := by
      rw [nan_iff, inf_iff]
      by_cases hf0 : fracN x = 0
      · rw [decide_eq_true (show expN x = 2047 ∧ fracN x = 0 from ⟨hE', hf0⟩)]; simp
      · rw [decide_eq_true (show expN x = 2047 ∧ fracN x ≠ 0 from ⟨hE', hf0⟩)]; simp
    rw [scaleS_zero hsp]
    by_cases hn : nanB x = true
    · have e1 := (ord_nan (y := 0) hn).1
      rw [e1, if_neg (by decide), hn]
      simp
    · have hn' : nanB x = false := by simpa using hn
      have hinf : infB x = true := by
        rw [inf_iff, decide_eq_true_eq]
        rw [nan_iff, decide_eq_false_iff_not] at hn'
        exact ⟨hE', Decidable.byContradiction fun h => hn' ⟨hE', h⟩⟩
      rw [inf_gt hinf]
      split
      · rfl
      · rw [if_pos (by rfl)]
end Go.Sx
