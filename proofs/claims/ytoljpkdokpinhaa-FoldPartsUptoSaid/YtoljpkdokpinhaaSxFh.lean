import Derived.Test.YtoljpkdokpinhaaSxFb
/- What is nearest: shifts, exact numbers; the order of floats by their values. Conditions: none. -/
namespace Go.Sx
set_option linter.unusedSimpArgs false
set_option linter.unusedVariables false

/-- n / 2^d, to the nearest, between two to the even one -/
def cutE (n d : Nat) : Nat := n / 2 ^ d + (decide (2 ^ d < 2 * (n % 2 ^ d)) || (2 ^ d == 2 * (n % 2 ^ d) && n / 2 ^ d % 2 == 1)).toNat
theorem cut_even (s : Bool) (n d : Nat) : Ieee.Toward.even.cut s n d = cutE n d := by
  unfold Ieee.Toward.cut cutE
  simp only [Nat.shiftLeft_eq, Nat.one_mul]
  by_cases h : d ≤ n.log2 + 2
  · rw [Nat.min_eq_left h]
  · rw [Nat.min_eq_right (by omega)]
    have h1 : n < 2 ^ (n.log2 + 1) := Nat.lt_log2_self
    have e2 : 2 ^ (n.log2 + 2) = 2 * 2 ^ (n.log2 + 1) := by rw [Nat.pow_succ 2 (n.log2 + 1), Nat.mul_comm]
    have h3 : 2 ^ (n.log2 + 2) ≤ 2 ^ d := Nat.pow_le_pow_right (by decide) (by omega)
    generalize 2 ^ (n.log2 + 1) = A at h1 e2
    generalize 2 ^ (n.log2 + 2) = G at e2 h3 ⊢
    generalize 2 ^ d = D at h3 ⊢
    rw [Nat.div_eq_of_lt (by omega : n < G), Nat.div_eq_of_lt (by omega : n < D), Nat.mod_eq_of_lt (by omega : n < G), Nat.mod_eq_of_lt (by omega : n < D)]
    have a1 : ¬ G < 2 * n := by omega
    have a2 : ¬ D < 2 * n := by omega
    simp [a1, a2]
theorem cutE_zero (n : Nat) : cutE n 0 = n := by
  unfold cutE
  simp [Nat.mod_one]
theorem cutE_shift (n d c : Nat) : cutE (n * 2 ^ c) (d + c) = cutE n d := by
  unfold cutE
  rw [Nat.pow_add]
  have hc := Nat.two_pow_pos c
  have e1 : n * 2 ^ c / (2 ^ d * 2 ^ c) = n / 2 ^ d := Nat.mul_div_mul_right _ _ hc
  have e2 : n * 2 ^ c % (2 ^ d * 2 ^ c) = n % 2 ^ d * 2 ^ c := Nat.mul_mod_mul_right _ _ _
  rw [e1, e2]
  have e3 : decide (2 ^ d * 2 ^ c < 2 * (n % 2 ^ d * 2 ^ c)) = decide (2 ^ d < 2 * (n % 2 ^ d)) := by
    rw [← Nat.mul_assoc, decide_eq_decide]
    exact Nat.mul_lt_mul_right hc
  have e4 : (2 ^ d * 2 ^ c == 2 * (n % 2 ^ d * 2 ^ c)) = (2 ^ d == 2 * (n % 2 ^ d)) := by
    rw [← Nat.mul_assoc, Bool.eq_iff_iff, beq_iff_eq, beq_iff_eq]
    exact Nat.mul_left_inj (by omega)
  rw [e3, e4]
theorem cutE_exact (n c d : Nat) (h : d ≤ c) : cutE (n * 2 ^ c) d = n * 2 ^ (c - d) := by
  have := cutE_shift (n * 2 ^ (c - d)) 0 d
  rw [Nat.zero_add, Nat.mul_assoc, ← Nat.pow_add, show c - d + d = c from by omega, cutE_zero] at this
  exact this

theorem log2_shift {m : Nat} (h : m ≠ 0) (c : Nat) : (m * 2 ^ c).log2 = m.log2 + c := by
  have h1 : 2 ^ m.log2 ≤ m := Nat.log2_self_le h
  have h2 : m < 2 ^ (m.log2 + 1) := Nat.lt_log2_self
  have hc := Nat.two_pow_pos c
  refine (Nat.log2_eq_iff (by have := Nat.mul_pos (Nat.pos_of_ne_zero h) hc; omega)).2 ⟨?_, ?_⟩
  · rw [Nat.pow_add]; exact Nat.mul_le_mul_right _ h1
  · rw [show m.log2 + c + 1 = (m.log2 + 1) + c from by omega, Nat.pow_add]; exact Nat.mul_lt_mul_of_pos_right h2 hc

/-- the word nearest to m * 2^p -/
def nearF (s : Bool) (m : Nat) (p : Int) : Nat := Ieee.double.nearest s m p
def lastP (m : Nat) (p : Int) : Int := max (p + m.log2 - 52) (-1074)
theorem word_eq (s : Bool) (r : Nat) : Ieee.double.word s r = if s then 9223372036854775808 + r else r := by unfold Ieee.Format.word; rw [sw_eq]
theorem nearF_eq {s : Bool} {m : Nat} {p : Int} (h : m ≠ 0) : nearF s m p = Ieee.double.word s (min ((lastP m p + 1074).toNat * 4503599627370496 + cutE (m * 2 ^ (p - lastP m p).toNat) (lastP m p - p).toNat) 9218868437227405312) := by
  unfold nearF Ieee.Format.nearest
  rw [if_neg h]
  simp only [lp_eq, bin_eq, inf_eq, cut_even, Nat.shiftLeft_eq]
  have e : ((Ieee.double.fractionBits : Nat) : Int) = 52 := rfl
  rw [e]
  have e2 : ∀ z : Int, z - -1074 = z + 1074 := fun z => by omega
  rw [e2]
  rfl
theorem nearF_zero (s : Bool) (p : Int) : nearF s 0 p = Ieee.double.word s 0 := by unfold nearF Ieee.Format.nearest; rw [if_pos rfl]
/-- a power of two may be moved -/
theorem nearF_shift (s : Bool) (m : Nat) (p : Int) (c : Nat) : nearF s (m * 2 ^ c) (p - c) = nearF s m p := by
  by_cases h : m = 0
  · subst h; rw [Nat.zero_mul, nearF_zero, nearF_zero]
  · have hm : m * 2 ^ c ≠ 0 := by have := Nat.mul_pos (Nat.pos_of_ne_zero h) (Nat.two_pow_pos c); omega
    have hl : lastP (m * 2 ^ c) (p - c) = lastP m p := by unfold lastP; rw [log2_shift h]; omega
    rw [nearF_eq hm, nearF_eq h, hl]
    generalize lastP m p = L
    have hk : cutE (m * 2 ^ c * 2 ^ (p - c - L).toNat) (L - (p - c)).toNat = cutE (m * 2 ^ (p - L).toNat) (L - p).toNat := by
      by_cases h1 : L ≤ p
      · have e1 : (L - p).toNat = 0 := by omega
        rw [e1, cutE_zero]
        by_cases h2 : L + c ≤ p
        · have e2 : (L - (p - c)).toNat = 0 := by omega
          have e3 : (p - L).toNat = c + (p - c - L).toNat := by omega
          rw [e2, cutE_zero, e3, Nat.pow_add, Nat.mul_assoc]
        · have e2 : (p - c - L).toNat = 0 := by omega
          rw [e2, Nat.pow_zero, Nat.mul_one, cutE_exact _ _ _ (by omega)]
          congr 2
          omega
      · have e1 : (p - L).toNat = 0 := by omega
        have e2 : (p - c - L).toNat = 0 := by omega
        have e3 : (L - (p - c)).toNat = (L - p).toNat + c := by omega
        rw [e1, e2, e3, Nat.pow_zero, Nat.mul_one, Nat.mul_one, cutE_shift]
    rw [hk]

theorem log2_53 {m : Nat} (h1 : 4503599627370496 ≤ m) (h2 : m < 9007199254740992) : m.log2 = 52 := (Nat.log2_eq_iff (by omega)).2 ⟨by simpa using h1, by simpa using h2⟩
/-- a number of 53 digits -/
theorem nearF_53 {s : Bool} {m : Nat} {e : Int} (h1 : 4503599627370496 ≤ m) (h2 : m < 9007199254740992) : nearF s m (e - 1075) = Ieee.double.word s (if 2047 ≤ e then 9218868437227405312 else if 1 ≤ e then (e - 1).toNat * 4503599627370496 + m else cutE m (1 - e).toNat) := by
  rw [nearF_eq (by omega)]
  unfold lastP
  rw [log2_53 h1 h2]
  by_cases he : 1 ≤ e
  · have hl : max (e - 1075 + ((52 : Nat) : Int) - 52) (-1074) = e - 1075 := by omega
    rw [hl]
    have e1 : (e - 1075 - (e - 1075)).toNat = 0 := by omega
    have e2 : (e - 1075 + 1074).toNat = (e - 1).toNat := by omega
    rw [e1, e2, cutE_zero, Nat.pow_zero, Nat.mul_one]
    by_cases h3 : 2047 ≤ e
    · rw [if_pos h3, Nat.min_eq_right (by omega)]
    · rw [if_neg h3, if_pos he, Nat.min_eq_left (by omega)]
  · have hl : max (e - 1075 + ((52 : Nat) : Int) - 52) (-1074) = -1074 := by omega
    rw [hl, if_neg (by omega), if_neg he]
    have e1 : (e - 1075 - -1074).toNat = 0 := by omega
    have e2 : (-1074 - (e - 1075)).toNat = (1 - e).toNat := by omega
    have e3 : ((-1074 : Int) + 1074).toNat = 0 := by decide
    rw [e1, e2, e3, Nat.pow_zero, Nat.mul_one, Nat.zero_mul, Nat.zero_add]
    congr 1
    refine Nat.min_eq_left ?_
    have : cutE m (1 - e).toNat ≤ m / 2 ^ (1 - e).toNat + 1 := by
      unfold cutE
      exact Nat.add_le_add_left (Bool.toNat_le _) _
    have h3 := Nat.div_le_self m (2 ^ (1 - e).toNat)
    omega

/-! ### values at the least place -/
def valF (s : Bool) (m : Nat) (i : Int) : Int := if s then -((m * 2 ^ (i + 1074).toNat : Nat) : Int) else ((m * 2 ^ (i + 1074).toNat : Nat) : Int)
theorem cmp_mul {a b : Int} {k : Nat} : compare (a * ((2 ^ k : Nat) : Int)) (b * ((2 ^ k : Nat) : Int)) = compare a b := by
  have hk : (0 : Int) < ((2 ^ k : Nat) : Int) := by have := Nat.two_pow_pos k; omega
  simp only [compare, compareOfLessAndEq]
  have h1 : (a * ((2 ^ k : Nat) : Int) < b * ((2 ^ k : Nat) : Int)) ↔ a < b := Int.mul_lt_mul_right hk
  have h2 : (a * ((2 ^ k : Nat) : Int) = b * ((2 ^ k : Nat) : Int)) ↔ a = b := Int.mul_eq_mul_right_iff (by omega)
  simp only [h1, h2]
theorem order_val {s t : Bool} {m n : Nat} {i j : Int} (hi : -1074 ≤ i) (hj : -1074 ≤ j) : (Ieee.Datum.number s m i).order (.number t n j) = some (compare (valF s m i) (valF t n j)) := by
  simp only [Ieee.Datum.order, signed_eq]
  obtain ⟨k, hk⟩ : ∃ k : Nat, min i j + 1074 = k := ⟨(min i j + 1074).toNat, by omega⟩
  have e1 : (i + 1074).toNat = (i - min i j).toNat + k := by omega
  have e2 : (j + 1074).toNat = (j - min i j).toNat + k := by omega
  unfold valF
  rw [e1, e2, Nat.pow_add, Nat.pow_add, ← Nat.mul_assoc, ← Nat.mul_assoc]
  have key : ∀ (s : Bool) (x : Nat), (if s then -((x * 2 ^ k : Nat) : Int) else ((x * 2 ^ k : Nat) : Int)) = (if s then -(x : Int) else (x : Int)) * ((2 ^ k : Nat) : Int) := by
    intro s x
    cases s
    · simp
    · simp only [if_true, Int.neg_mul, Int.natCast_mul]
  rw [key, key, cmp_mul]
/-- what a word of these parts reads as -/
theorem read_word {s : Bool} {r : Nat} (h : r < 9223372036854775808) : Ieee.double.read (Ieee.double.word s r) = if r < 4503599627370496 then .number s r (-1074) else if r < 9218868437227405312 then .number s (4503599627370496 + r % 4503599627370496) (-1074 + (r / 4503599627370496 - 1 : Nat)) else if r = 9218868437227405312 then .infinity s else .nan s (r - 9218868437227405312) := by
  rw [read_eq, word_eq]
  have h1 : (if s then 9223372036854775808 + r else r) % 9223372036854775808 = r := by cases s <;> simp <;> omega
  have h2 : negB (if s then 9223372036854775808 + r else r) = s := by
    unfold negB
    cases s
    · simp only [Bool.false_eq_true, if_false]
      rw [Nat.div_eq_of_lt h]; rfl
    · simp only [if_true]
      have : (9223372036854775808 + r) / 9223372036854775808 = 1 := by omega
      rw [this]; rfl
  rw [h1, h2]
/-- a whole number that has a float of its own -/
theorem read_whole {s : Bool} {k : Nat} (h0 : 0 < k) (h : k ≤ 9007199254740992) : ∃ M i, Ieee.double.read (nearF s k 0) = .number s M i ∧ -52 ≤ i ∧ i ≤ 1 ∧ M * 2 ^ (i + 52).toNat = k * 2 ^ 52 := by
  have hlog : k.log2 ≤ 53 := by
    have := Nat.log2_self_le (n := k) (by omega)
    rcases Nat.lt_or_ge 53 k.log2 with h' | h'
    · have h2 : 2 ^ 54 ≤ 2 ^ k.log2 := Nat.pow_le_pow_right (by decide) h'
      omega
    · exact h'
  have h1 := Nat.log2_self_le (n := k) (by omega)
  have h2 : k < 2 ^ (k.log2 + 1) := Nat.lt_log2_self
  by_cases h53 : k.log2 = 53
  · rw [h53] at h1
    have hk : k = 9007199254740992 := by omega
    subst hk
    cases s
    · exact ⟨4503599627370496, 1, by decide +kernel, by decide, by decide, by decide⟩
    · exact ⟨4503599627370496, 1, by decide +kernel, by decide, by decide, by decide⟩
  obtain ⟨c, hc⟩ : ∃ c, c + k.log2 = 52 := ⟨52 - k.log2, by omega⟩
  have e : nearF s k 0 = nearF s (k * 2 ^ c) (0 - c) := (nearF_shift s k 0 c).symm
  have hm1 : 4503599627370496 ≤ k * 2 ^ c := by
    have := Nat.mul_le_mul_right (2 ^ c) h1
    rw [← Nat.pow_add, show k.log2 + c = 52 from by omega] at this
    omega
  have hm2 : k * 2 ^ c < 9007199254740992 := by
    have := Nat.mul_lt_mul_of_pos_right h2 (Nat.two_pow_pos c)
    rw [← Nat.pow_add, show k.log2 + 1 + c = 53 from by omega] at this
    omega
  rw [e, show (0 - (c : Int)) = (1075 - (c : Int)) - 1075 from by omega, nearF_53 hm1 hm2, if_neg (by omega), if_pos (by omega)]
  have ht : (1075 - (c : Int) - 1).toNat = 1074 - c := by omega
  rw [ht, read_word (by omega), if_neg (by omega), if_pos (by omega)]
  refine ⟨_, _, rfl, ?_, ?_, ?_⟩
  · omega
  · omega
  · have e1 : ((1074 - c) * 4503599627370496 + k * 2 ^ c) % 4503599627370496 = k * 2 ^ c - 4503599627370496 := by omega
    have e2 : ((1074 - c) * 4503599627370496 + k * 2 ^ c) / 4503599627370496 - 1 = 1074 - c := by omega
    rw [e1, e2]
    have e3 : (-1074 + ((1074 - c : Nat) : Int) + 52).toNat = 52 - c := by omega
    rw [e3, show 4503599627370496 + (k * 2 ^ c - 4503599627370496) = k * 2 ^ c from by omega, Nat.mul_assoc, ← Nat.pow_add, show c + (52 - c) = 52 from by omega]
end Go.Sx
/- Whole parts, floors and scalings by a float's bits. Conditions: none. -/
namespace Go.Sx
set_option linter.unusedSimpArgs false
set_option linter.unusedVariables false

def expN (x : Nat) : Nat := x / 4503599627370496 % 2048
def fracN (x : Nat) : Nat := x % 4503599627370496
theorem rung_eq (x : Nat) : x % 9223372036854775808 = expN x * 4503599627370496 + fracN x := by unfold expN fracN; omega
theorem expN_lt (x : Nat) : expN x < 2048 := by unfold expN; omega
theorem fracN_lt (x : Nat) : fracN x < 4503599627370496 := by unfold fracN; omega
theorem nan_iff (x : Nat) : nanB x = decide (expN x = 2047 ∧ fracN x ≠ 0) := by
  have h1 := expN_lt x; have h2 := fracN_lt x
  unfold nanB; rw [decide_eq_decide, rung_eq]; omega
theorem inf_iff (x : Nat) : infB x = decide (expN x = 2047 ∧ fracN x = 0) := by
  have h1 := expN_lt x; have h2 := fracN_lt x
  unfold infB; rw [decide_eq_decide, rung_eq]; omega
theorem read_norm {x : Nat} (h0 : 1 ≤ expN x) (h1 : expN x < 2047) : Ieee.double.read x = .number (negB x) (4503599627370496 + fracN x) ((expN x : Int) - 1075) := by
  have h2 := fracN_lt x
  rw [read_eq, rung_eq, if_neg (by omega), if_pos (by omega)]
  have e1 : (expN x * 4503599627370496 + fracN x) % 4503599627370496 = fracN x := by omega
  have e2 : (expN x * 4503599627370496 + fracN x) / 4503599627370496 = expN x := by omega
  rw [e1, e2]
  congr 1
  omega
theorem read_sub {x : Nat} (h0 : expN x = 0) : Ieee.double.read x = .number (negB x) (fracN x) (-1074) := by
  have h2 := fracN_lt x
  rw [read_eq, rung_eq, h0, if_pos (by omega)]
  congr 1; omega

/-- the number that is read: its digits, its place -/
def magN (x : Nat) : Nat := if expN x = 0 then fracN x else 4503599627370496 + fracN x
def plN (x : Nat) : Int := if expN x = 0 then -1074 else (expN x : Int) - 1075
theorem read_mag {x : Nat} (h : expN x < 2047) : Ieee.double.read x = .number (negB x) (magN x) (plN x) := by
  unfold magN plN
  by_cases h0 : expN x = 0
  · rw [if_pos h0, if_pos h0]; exact read_sub h0
  · rw [if_neg h0, if_neg h0]; exact read_norm (by omega) h
theorem magN_lt (x : Nat) : magN x < 9007199254740992 := by unfold magN; have := fracN_lt x; split <;> omega
theorem plN_ge (x : Nat) : -1074 ≤ plN x := by unfold plN; split <;> omega

def x85 : Nat := 1085
def big63 : Nat := 4503599627370496 * 2 ^ x85
theorem big63_pos : 0 < big63 := Nat.mul_pos (by decide) (Nat.two_pow_pos _)
theorem val_c63 : valF false 4503599627370496 11 = (big63 : Int) := by
  unfold valF
  rw [show ((11 : Int) + 1074).toNat = x85 from rfl, if_neg (by simp)]; rfl
theorem val_m63 : valF true 4503599627370496 11 = -(big63 : Int) := by
  unfold valF
  rw [show ((11 : Int) + 1074).toNat = x85 from rfl, if_pos rfl]; rfl
theorem val_lt {M : Nat} {e : Nat} (h2 : M < 9007199254740992) (he : e < 1086) : M * 2 ^ (e - 1) < big63 := by
  unfold big63
  rcases Nat.eq_zero_or_pos e with rfl | hp
  · have h3 : M * 2 ^ (0 - 1) = M := by simp
    rw [h3]
    have h4 : 2 ≤ 2 ^ x85 := Nat.pow_le_pow_right (show 0 < 2 by decide) (show 1 ≤ x85 by decide)
    calc M < 4503599627370496 * 2 := by omega
      _ ≤ _ := Nat.mul_le_mul_left _ h4
  · have h3 : M * 2 ^ (e - 1) < 9007199254740992 * 2 ^ (e - 1) := Nat.mul_lt_mul_of_pos_right h2 (Nat.two_pow_pos _)
    have h4 : 9007199254740992 * 2 ^ (e - 1) = 4503599627370496 * 2 ^ e := by
      obtain ⟨k, rfl⟩ : ∃ k, e = k + 1 := ⟨e - 1, by omega⟩
      rw [Nat.add_sub_cancel, Nat.pow_succ]; omega
    have h5 : 4503599627370496 * 2 ^ e ≤ 4503599627370496 * 2 ^ x85 := Nat.mul_le_mul_left _ (Nat.pow_le_pow_right (by decide) (show e ≤ 1085 by omega))
    omega
theorem val_ge {M : Nat} {e : Nat} (h1 : 4503599627370496 ≤ M) (he : 1086 ≤ e) : big63 ≤ M * 2 ^ (e - 1) :=
  Nat.mul_le_mul h1 (Nat.pow_le_pow_right (by decide) (show 1085 ≤ e - 1 by omega))

theorem valN {x : Nat} (h : expN x < 2047) : valF (negB x) (magN x) (plN x) = if negB x then -((magN x * 2 ^ (expN x - 1) : Nat) : Int) else ((magN x * 2 ^ (expN x - 1) : Nat) : Int) := by
  unfold valF
  have : (plN x + 1074).toNat = expN x - 1 := by unfold plN; split <;> omega
  rw [this]

/-- the whole part's size -/
def wholeN (x : Nat) : Nat := if 1075 ≤ expN x then magN x * 2 ^ (expN x - 1075) else magN x / 2 ^ (-plN x).toNat
theorem wholeF_bits (x : Nat) : wholeF x = if expN x = 2047 ∧ fracN x ≠ 0 then 0 else if 1086 ≤ expN x then (if negB x then -9223372036854775808 else 9223372036854775807) else if negB x then -(wholeN x : Int) else (wholeN x : Int) := by
  unfold wholeF
  rw [nan_iff]
  by_cases hn : expN x = 2047 ∧ fracN x ≠ 0
  · rw [if_pos (by simpa using hn), if_pos hn]
  · rw [if_neg (by simpa using hn), if_neg hn]
    by_cases hi : expN x = 2047
    · have hinf : infB x = true := by rw [inf_iff]; simp only [decide_eq_true_eq]; exact ⟨hi, Decidable.byContradiction fun h => hn ⟨hi, h⟩⟩
      rw [if_pos (show 1086 ≤ expN x by omega)]
      unfold ordB Ieee.Format.order
      rw [read_inf hinf, read_c63, read_m63]
      cases negB x <;> simp [Ieee.Datum.order]
    · have he := expN_lt x
      have hr := read_mag (x := x) (by omega)
      have hv := valN (x := x) (by omega)
      have ho1 : ordB x c63 = some (compare (valF (negB x) (magN x) (plN x)) (big63 : Int)) := by
        unfold ordB Ieee.Format.order
        rw [hr, read_c63, order_val (plN_ge x) (by decide), val_c63]
      have ho2 : ordB x m63 = some (compare (valF (negB x) (magN x) (plN x)) (-(big63 : Int))) := by
        unfold ordB Ieee.Format.order
        rw [hr, read_m63, order_val (plN_ge x) (by decide), val_m63]
      rw [ho1, ho2]
      simp only [Option.some_beq_some, cmp_int.1, cmp_int.2.1, cmp_int.2.2]
      have hm := magN_lt x
      by_cases hbig : 1086 ≤ expN x
      · rw [if_pos hbig]
        have hM : 4503599627370496 ≤ magN x := by unfold magN; rw [if_neg (by omega)]; omega
        have hge := val_ge hM hbig
        rw [hv]
        generalize magN x * 2 ^ (expN x - 1) = A at hge
        have hC := big63_pos
        generalize big63 = C at hge hC
        cases negB x
        · simp only [Bool.false_eq_true, if_false]
          rw [if_pos (by simp only [Bool.or_eq_true, decide_eq_true_eq]; omega)]
        · simp only [if_true]
          rw [if_neg (by simp only [Bool.or_eq_true, decide_eq_true_eq]; omega), if_pos (by simp only [Bool.or_eq_true, decide_eq_true_eq]; omega)]
      · rw [if_neg hbig]
        have hlt := val_lt (M := magN x) hm (show expN x < 1086 by omega)
        have ht : truncF x = if negB x then -(wholeN x : Int) else (wholeN x : Int) := by
          unfold truncF
          rw [hr, toInt_num]
          have : (magN x * 2 ^ (plN x).toNat) / 2 ^ (-plN x).toNat = wholeN x := by
            unfold wholeN
            by_cases h75 : 1075 ≤ expN x
            · rw [if_pos h75]
              have e1 : (plN x).toNat = expN x - 1075 := by unfold plN; rw [if_neg (by omega)]; omega
              have e2 : (-plN x).toNat = 0 := by unfold plN; rw [if_neg (by omega)]; omega
              rw [e1, e2, Nat.pow_zero, Nat.div_one]
            · rw [if_neg h75]
              have e1 : (plN x).toNat = 0 := by unfold plN; split <;> omega
              rw [e1, Nat.pow_zero, Nat.mul_one]
          rw [this]
        rw [hv]
        generalize magN x * 2 ^ (expN x - 1) = A at hlt
        generalize big63 = C at hlt
        rw [if_neg, if_neg, ht]
        · simp only [Bool.or_eq_true, decide_eq_true_eq]; split <;> omega
        · simp only [Bool.or_eq_true, decide_eq_true_eq]; split <;> omega
end Go.Sx
/- Floors and scalings. Conditions: none. -/
namespace Go.Sx
set_option linter.unusedSimpArgs false
set_option linter.unusedVariables false

theorem near_nan (s : Bool) (m : Nat) (p : Int) : nanB (nearF s m p) = false := by
  have key : ∀ r, r ≤ 9218868437227405312 → nanB (Ieee.double.word s r) = false := by
    intro r hr
    rw [word_eq]
    unfold nanB
    rw [decide_eq_false_iff_not]
    split <;> omega
  by_cases h : m = 0
  · subst h; rw [nearF_zero]; exact key 0 (by omega)
  · rw [nearF_eq h]; exact key _ (Nat.min_le_right _ _)
theorem numOf_eq (n : Int) : numOf n = nearF (decide (n < 0)) n.natAbs 0 := rfl
theorem word_self {x : Nat} (hx : x < 18446744073709551616) : Ieee.double.word (negB x) (x % 9223372036854775808) = x := by
  rw [word_eq]
  unfold negB
  have : x / 9223372036854775808 < 2 := by omega
  rcases (show x / 9223372036854775808 = 0 ∨ x / 9223372036854775808 = 1 by omega) with h | h
  · rw [h]; simp; omega
  · rw [h]; simp; omega
theorem negB_iff {x : Nat} (hx : x < 18446744073709551616) : negB x = decide (9223372036854775808 ≤ x) := by
  unfold negB
  rw [Bool.eq_iff_iff, beq_iff_eq, decide_eq_true_eq]
  omega
theorem cut_down (s : Bool) (n d : Nat) : Ieee.Toward.down.cut s n d = n / 2 ^ d + (s && n % 2 ^ d != 0).toNat := by
  unfold Ieee.Toward.cut
  simp only [Nat.shiftLeft_eq, Nat.one_mul]
  by_cases h : d ≤ n.log2 + 2
  · rw [Nat.min_eq_left h]
  · rw [Nat.min_eq_right (by omega)]
    have h1 : n < 2 ^ (n.log2 + 1) := Nat.lt_log2_self
    have h2 : n < 2 ^ (n.log2 + 2) := Nat.lt_of_lt_of_le h1 (Nat.pow_le_pow_right (by decide) (by omega))
    have h3 : n < 2 ^ d := Nat.lt_of_lt_of_le h2 (Nat.pow_le_pow_right (by decide) (by omega))
    rw [Nat.div_eq_of_lt h2, Nat.div_eq_of_lt h3, Nat.mod_eq_of_lt h2, Nat.mod_eq_of_lt h3]

/-- a float of its own digits -/
theorem near_self {x : Nat} (hx : x < 18446744073709551616) (h0 : expN x ≠ 0) (h : expN x < 2047) : nearF (negB x) (magN x) (plN x) = x := by
  have hf := fracN_lt x
  have hm : magN x = 4503599627370496 + fracN x := by unfold magN; rw [if_neg h0]
  have hp : plN x = (expN x : Int) - 1075 := by unfold plN; rw [if_neg h0]
  rw [hm, hp, nearF_53 (by omega) (by omega), if_neg (by omega), if_pos (by omega)]
  have : ((expN x : Int) - 1).toNat * 4503599627370496 + (4503599627370496 + fracN x) = x % 9223372036854775808 := by rw [rung_eq]; omega
  rw [this]; exact word_self hx

theorem floor_whole {x : Nat} (hx : x < 18446744073709551616) (h : (expN x = 0 ∧ fracN x = 0) ∨ 1075 ≤ expN x) : floorF x = canonF x := by
  unfold floorF
  cases hn : nanB x
  · simp only [Bool.false_eq_true, if_false]
    rw [canonF_num hn]
    rw [nan_iff] at hn
    simp only [decide_eq_false_iff_not] at hn
    by_cases hi : expN x = 2047
    · have hinf : infB x = true := by rw [inf_iff]; simp only [decide_eq_true_eq]; exact ⟨hi, Decidable.byContradiction fun h => hn ⟨hi, h⟩⟩
      rw [read_inf hinf]
      show canonF (Ieee.double.word (negB x) Ieee.double.infRung) = x
      have hr : x % 9223372036854775808 = 9218868437227405312 := by simp only [infB, decide_eq_true_eq] at hinf; exact hinf
      rw [inf_eq, ← hr, word_self hx, canonF_num]
      simp only [nanB, decide_eq_false_iff_not]; omega
    · have he := expN_lt x
      rw [read_mag (by omega)]
      simp only [Ieee.Datum.integral, Nat.shiftLeft_eq, cut_down]
      show canonF (nearF (negB x) _ 0) = x
      rw [canonF_num (near_nan _ _ _)]
      rcases h with ⟨h0, h1⟩ | h75
      · have hm : magN x = 0 := by unfold magN; rw [if_pos h0, h1]
        rw [hm]
        simp only [Nat.zero_mul, Nat.zero_div, Nat.zero_mod, Nat.zero_add]
        have : (negB x && (0 : Nat) != 0).toNat = 0 := by cases negB x <;> rfl
        rw [this, nearF_zero]
        have hr : x % 9223372036854775808 = 0 := by rw [rung_eq, h0, h1]
        rw [← hr, word_self hx]
      · have hp : plN x = ((expN x - 1075 : Nat) : Int) := by unfold plN; rw [if_neg (by omega)]; omega
        have e2 : (-plN x).toNat = 0 := by omega
        have e1 : (plN x).toNat = expN x - 1075 := by omega
        rw [e1, e2, Nat.pow_zero, Nat.div_one, Nat.mod_one]
        have : (negB x && (0 : Nat) != 0).toNat = 0 := by cases negB x <;> rfl
        rw [this, Nat.add_zero]
        have := nearF_shift (negB x) (magN x) (plN x) (expN x - 1075)
        rw [hp, show (((expN x - 1075 : Nat) : Int) - ((expN x - 1075 : Nat) : Int)) = 0 from by omega] at this
        rw [this, ← hp]
        exact near_self hx (by omega) (by omega)
  · simp only [if_true]; rw [canonF_nan hn]

theorem pow_split (k d : Nat) (h : d ≤ 1074) : ∀ r, (k * 2 ^ d + r) * 2 ^ (1074 - d) = k * 2 ^ (1074 - d + d) + r * 2 ^ (1074 - d) := by
  intro r
  rw [Nat.add_mul, Nat.mul_assoc, ← Nat.pow_add, Nat.add_comm d]

/-- the whole part as a float, and what is less by one where it lies above -/
theorem floor_part {x : Nat} (hx : x < 18446744073709551616) (h0 : ¬ (expN x = 0 ∧ fracN x = 0)) (h : expN x < 1075) :
    (ordB (numOf (wholeF x)) x == some .gt) = (negB x && magN x % 2 ^ (-plN x).toNat != 0) ∧
    ((negB x && magN x % 2 ^ (-plN x).toNat != 0) = false → floorF x = numOf (wholeF x)) ∧
    ((negB x && magN x % 2 ^ (-plN x).toNat != 0) = true → Ieee.double.sub (numOf (wholeF x)) 4607182418800017408 = some (floorF x)) := by
  have hnn : nanB x = false := by rw [nan_iff]; simp only [decide_eq_false_iff_not]; omega
  have hr := read_mag (x := x) (by omega)
  have hm := magN_lt x
  have hm0 : 0 < magN x := by unfold magN; split <;> omega
  obtain ⟨d, hd⟩ : ∃ d, d = (-plN x).toNat := ⟨_, rfl⟩
  have hpl : plN x = -(d : Int) ∧ d ≤ 1074 ∧ 1 ≤ d := by
    rw [hd]; unfold plN; split <;> omega
  rw [← hd]
  have hw : wholeF x = if negB x then -((magN x / 2 ^ d : Nat) : Int) else ((magN x / 2 ^ d : Nat) : Int) := by
    rw [wholeF_bits, if_neg (show ¬ (expN x = 2047 ∧ fracN x ≠ 0) by omega), if_neg (show ¬ 1086 ≤ expN x by omega)]
    unfold wholeN
    rw [if_neg (show ¬ 1075 ≤ expN x by omega), ← hd]
  obtain ⟨k, hk⟩ : ∃ k, k = magN x / 2 ^ d := ⟨_, rfl⟩
  obtain ⟨r, hrr⟩ : ∃ r, r = magN x % 2 ^ d := ⟨_, rfl⟩
  rw [← hk] at hw
  rw [← hrr]
  have hsplit : magN x = k * 2 ^ d + r := by rw [hk, hrr, Nat.mul_comm]; exact (Nat.div_add_mod _ _).symm
  have hk53 : k < 9007199254740992 := by rw [hk]; exact Nat.lt_of_le_of_lt (Nat.div_le_self _ _) hm
  have hfl : floorF x = nearF (negB x) (k + (negB x && r != 0).toNat) 0 := by
    unfold floorF
    rw [hnn, hr]
    simp only [Bool.false_eq_true, if_false, Ieee.Datum.integral, Nat.shiftLeft_eq, cut_down]
    have e1 : (plN x).toNat = 0 := by omega
    have e2 : (-plN x).toNat = d := hd.symm
    rw [e1, e2, Nat.pow_zero, Nat.mul_one, ← hk, ← hrr]
    exact canonF_num (near_nan _ _ _)
  have hnum : numOf (wholeF x) = nearF (negB x && decide (0 < k)) k 0 := by
    rw [numOf_eq, hw]
    cases negB x
    · simp only [Bool.false_eq_true, if_false, Bool.false_and]
      rw [show decide ((k : Int) < 0) = false from by rw [decide_eq_false_iff_not]; omega]
      congr 1
    · simp only [if_true, Bool.true_and]
      rw [show decide (-(k : Int) < 0) = decide (0 < k) from by rw [decide_eq_decide]; omega]
      congr 1
      omega
  -- the values
  have hvx : valF (negB x) (magN x) (plN x) = if negB x then -((k * 2 ^ (1074 - d + d) + r * 2 ^ (1074 - d) : Nat) : Int) else ((k * 2 ^ (1074 - d + d) + r * 2 ^ (1074 - d) : Nat) : Int) := by
    unfold valF
    have : (plN x + 1074).toNat = 1074 - d := by omega
    rw [this, hsplit, pow_split k d hpl.2.1 r]
  have hord : ∃ M i, Ieee.double.read (numOf (wholeF x)) = .number (negB x && decide (0 < k)) M i ∧ -1074 ≤ i ∧ i ≤ 1 ∧ valF (negB x && decide (0 < k)) M i = (if (negB x && decide (0 < k)) then -((k * 2 ^ (1074 - d + d) : Nat) : Int) else ((k * 2 ^ (1074 - d + d) : Nat) : Int)) ∧ (0 < k → -52 ≤ i ∧ M * 2 ^ (i + 52).toNat = k * 2 ^ 52) ∧ (k = 0 → M = 0 ∧ i = -1074) := by
    rw [hnum]
    by_cases hk0 : 0 < k
    · obtain ⟨M, i, h1, h2, h3, h4⟩ := read_whole (s := negB x && decide (0 < k)) hk0 (by omega)
      refine ⟨M, i, h1, by omega, h3, ?_, fun _ => ⟨h2, h4⟩, fun h => by omega⟩
      unfold valF
      obtain ⟨z, hz⟩ : ∃ z : Nat, z = 1022 := ⟨_, rfl⟩
      have e1 : (i + 1074).toNat = (i + 52).toNat + z := by omega
      have e2 : 1074 - d + d = 52 + z := by omega
      rw [e1, e2, Nat.pow_add, ← Nat.mul_assoc, h4, Nat.pow_add, Nat.mul_assoc]
    · obtain rfl : k = 0 := by omega
      refine ⟨0, -1074, ?_, by omega, by omega, ?_, fun h => by omega, fun _ => ⟨rfl, rfl⟩⟩
      · rw [nearF_zero, read_word (by omega)]; rfl
      · unfold valF; rw [Nat.zero_mul, Nat.zero_mul]
  obtain ⟨M, i, hr2, hi1, hi2, hv2, hM, hM0⟩ := hord
  have hgt : (ordB (numOf (wholeF x)) x == some .gt) = (negB x && r != 0) := by
    unfold ordB Ieee.Format.order
    rw [hr2, hr, order_val hi1 (plN_ge x), hv2, hvx]
    simp only [Option.some_beq_some, cmp_int.1]
    have hp1 := Nat.two_pow_pos (1074 - d)
    have hrp : r = 0 ↔ r * 2 ^ (1074 - d) = 0 := by
      constructor
      · intro h; rw [h, Nat.zero_mul]
      · intro h; exact (Nat.mul_eq_zero.1 h).resolve_right (by omega)
    have hkp : k = 0 ↔ k * 2 ^ (1074 - d + d) = 0 := by
      have := Nat.two_pow_pos (1074 - d + d)
      constructor
      · intro h; rw [h, Nat.zero_mul]
      · intro h; exact (Nat.mul_eq_zero.1 h).resolve_right (by omega)
    have hkr : k = 0 → r ≠ 0 := fun h1 h2 => by rw [h1, h2] at hsplit; omega
    generalize k * 2 ^ (1074 - d + d) = A at hkp ⊢
    generalize r * 2 ^ (1074 - d) = C at hrp ⊢
    rw [Bool.eq_iff_iff, decide_eq_true_eq]
    cases negB x
    · simp only [Bool.false_eq_true, if_false, Bool.false_and]
      constructor
      · intro h; omega
      · intro h; cases h
    · simp only [if_true, Bool.true_and, bne_iff_ne, ne_eq]
      by_cases hk0 : 0 < k
      · simp only [hk0, decide_true, if_true]; omega
      · simp only [hk0, decide_false, Bool.false_eq_true, if_false]; omega
  refine ⟨hgt, fun hb => ?_, fun hb => ?_⟩
  · rw [hfl, hnum, hb]
    have : negB x = (negB x && decide (0 < k)) := by
      cases hs : negB x
      · rfl
      · rw [hs] at hb
        have hr0 : r = 0 := by simpa using hb
        have : 0 < k := by
          rcases Nat.eq_zero_or_pos k with h | h
          · rw [h, hr0] at hsplit; omega
          · exact h
        simp [this]
    rw [← this]; rfl
  · have hs : negB x = true := by
      cases hs : negB x
      · rw [hs] at hb; cases hb
      · rfl
    rw [hfl, hb, hs]
    have hone : Ieee.double.read 4607182418800017408 = .number false 4503599627370496 (-52) := by decide +kernel
    unfold Ieee.Format.sub
    rw [hr2, hone, hs]
    simp only [Ieee.Datum.opposite, Ieee.Datum.sum, Option.map_some, signed_eq, Bool.not_false, if_true, Bool.true_and]
    congr 1
    -- both at one place
    obtain ⟨c, hc⟩ : ∃ c : Nat, min i (-52) = -(c : Int) := ⟨(-(min i (-52))).toNat, by omega⟩
    rw [hc]
    have e1 : (-52 - -(c : Int)).toNat = c - 52 := by omega
    have hc52 : 52 ≤ c := by omega
    have e2 : M * 2 ^ (i - -(c : Int)).toNat = k * 2 ^ c := by
      by_cases hk0 : 0 < k
      · obtain ⟨h1, h2⟩ := hM hk0
        have hcc : c = 52 := by omega
        subst hcc
        rw [show (i - -((52 : Nat) : Int)).toNat = (i + 52).toNat from by omega]; exact h2
      · obtain ⟨rfl, -⟩ := hM0 (by omega)
        obtain rfl : k = 0 := by omega
        simp
    have e3 : 4503599627370496 * 2 ^ (c - 52) = 2 ^ c := by
      rw [show (4503599627370496 : Nat) = 2 ^ 52 from by decide, ← Nat.pow_add, show 52 + (c - 52) = c from by omega]
    rw [e1, e2, e3]
    have hcp := Nat.two_pow_pos c
    have e4 : ((if decide (0 < k) = true then -((k * 2 ^ c : Nat) : Int) else ((k * 2 ^ c : Nat) : Int)) + -((2 ^ c : Nat) : Int)) = -(((k + 1) * 2 ^ c : Nat) : Int) := by
      rw [Nat.add_mul, Nat.one_mul]
      by_cases hk0 : 0 < k
      · simp only [hk0, decide_true, if_true]; omega
      · obtain rfl : k = 0 := by omega
        simp
    rw [e4]
    have hpos : 0 < (k + 1) * 2 ^ c := Nat.mul_pos (by omega) hcp
    have := nearF_shift true (k + 1) 0 c
    rw [show (0 - (c : Int)) = -(c : Int) from by omega] at this
    show nearF (if -(((k + 1) * 2 ^ c : Nat) : Int) = 0 then (decide (0 < k) && true) else decide (-(((k + 1) * 2 ^ c : Nat) : Int) < 0)) (-(((k + 1) * 2 ^ c : Nat) : Int)).natAbs (-(c : Int)) = nearF true (k + true.toNat) 0
    generalize (k + 1) * 2 ^ c = Q at hpos this ⊢
    rw [if_neg (by omega), show decide (-(Q : Int) < 0) = true from by rw [decide_eq_true_eq]; omega, show (-(Q : Int)).natAbs = Q from by omega, this]
    rfl
end Go.Sx
namespace Go.Sx
set_option linter.unusedSimpArgs false
set_option linter.unusedVariables false
/-! ### scalings -/
/-- x times 2 to the n, to the nearest -/
def scaleS (x : Nat) (n : Int) : Nat := if nanB x || infB x || decide (x % 9223372036854775808 = 0) then canonF x else nearF (negB x) (magN x) (plN x + n)

theorem mul_read {c y : Nat} {q i : Int} {s : Bool} {M : Nat} (hc : Ieee.double.read c = .number false 4503599627370496 q) (hy : Ieee.double.read y = .number s M i) : mulF c y = nearF s M (q + 52 + i) := by
  unfold mulF Ieee.Format.mul
  rw [hc, hy]
  simp only [Ieee.Datum.product, Option.map_some, Bool.false_xor]
  show nearF s (4503599627370496 * M) (q + i) = _
  have := nearF_shift s M (q + 52 + i) 52
  rw [show q + 52 + i - ((52 : Nat) : Int) = q + i from by omega, show M * 2 ^ 52 = 4503599627370496 * M from by omega] at this
  exact this
theorem mul_read' {c y : Nat} {q i : Int} {s : Bool} {M : Nat} (hc : Ieee.double.read c = .number false 4503599627370496 q) (hy : Ieee.double.read y = .number s M i) : mulF y c = nearF s M (q + 52 + i) := by
  unfold mulF Ieee.Format.mul
  rw [hc, hy]
  simp only [Ieee.Datum.product, Option.map_some, Bool.xor_false]
  show nearF s (M * 4503599627370496) (i + q) = _
  have := nearF_shift s M (q + 52 + i) 52
  rw [show q + 52 + i - ((52 : Nat) : Int) = i + q from by omega, show M * 2 ^ 52 = M * 4503599627370496 from by omega] at this
  exact this

theorem read_one : Ieee.double.read 4607182418800017408 = .number false 4503599627370496 (-52) := by decide +kernel
theorem read_m53 : Ieee.double.read 4368491638549381120 = .number false 4503599627370496 (-105) := by decide +kernel
theorem read_p52 : Ieee.double.read 4841369599423283200 = .number false 4503599627370496 0 := by decide +kernel
theorem read_min : Ieee.double.read 4503599627370496 = .number false 4503599627370496 (-1074) := by decide +kernel
theorem read_max : Ieee.double.read 9218868437227405311 = .number false 9007199254740991 971 := by decide +kernel
theorem read_zero : Ieee.double.read 0 = .number false 0 (-1074) := by decide +kernel

/-- a normal float's word -/
theorem norm_word {s : Bool} {E M : Nat} (h1 : 1 ≤ E) (h2 : E ≤ 2046) (h3 : 4503599627370496 ≤ M) (h4 : M < 9007199254740992) :
    ∃ y, y = Ieee.double.word s ((E - 1) * 4503599627370496 + M) ∧ y < 18446744073709551616 ∧ negB y = s ∧ expN y = E ∧ fracN y = M - 4503599627370496 ∧ Ieee.double.read y = .number s M ((E : Int) - 1075) ∧ (y : Int) = (if s then 9223372036854775808 else 0) + (E : Int) * 4503599627370496 + ((M : Int) - 4503599627370496) := by
  refine ⟨_, rfl, ?_, ?_, ?_, ?_, ?_, ?_⟩
  · rw [word_eq]; split <;> omega
  · rw [word_eq, negB_iff (by split <;> omega)]; cases s <;> simp <;> omega
  · rw [word_eq]; unfold expN; split <;> omega
  · rw [word_eq]; unfold fracN; split <;> omega
  · rw [read_word (by omega), if_neg (by omega), if_pos (by omega)]
    have e1 : ((E - 1) * 4503599627370496 + M) % 4503599627370496 = M - 4503599627370496 := by omega
    have e2 : ((E - 1) * 4503599627370496 + M) / 4503599627370496 - 1 = E - 1 := by omega
    rw [e1, e2, show 4503599627370496 + (M - 4503599627370496) = M from by omega, show (-1074 : Int) + ((E - 1 : Nat) : Int) = (E : Int) - 1075 from by omega]
  · rw [word_eq]; cases s <;> simp <;> omega

theorem and2047 {a : Nat} (ha : a < 4096) : Go.bits .and .i64 (IntKind.i64.wrap (a : Int)) 2047 = ((a % 2048 : Nat) : Int) := by
  have hw : IntKind.i64.wrap (a : Int) = (a : Int) := by rw [IntKind.wrap_i64]; omega
  rw [hw]
  have h := (bits_nat .i64 63 (by decide) (fun n h0 h1 => by rw [IntKind.wrap_i64]; omega) a 2047 (by omega) (by decide)).1
  rw [show (2047 : Int) = ((2047 : Nat) : Int) from rfl, h, show (2047 : Nat) = 2 ^ 11 - 1 from by decide, Nat.and_two_pow_sub_one_eq_mod]
theorem keepM {y : Nat} (hy : y < 18446744073709551616) : Go.bits .andNot .u64 (y : Int) 9218868437227405312 = ((y / 9223372036854775808 * 9223372036854775808 + y % 4503599627370496 : Nat) : Int) := by
  rw [u64_andNot _ _ (by omega) (by omega) (by decide) (by decide)]
  have e1 : (18446744073709551615 : Nat) - (9218868437227405312 : Int).toNat = 9223372036854775808 ||| 4503599627370495 := by decide
  rw [e1, Int.toNat_natCast, Nat.and_or_distrib_left, andSign hy, show (4503599627370495 : Nat) = 2 ^ 52 - 1 from by decide, Nat.and_two_pow_sub_one_eq_mod]
  rw [nat_join 63 _ _ (by omega) (by omega)]
theorem orE {y a : Nat} {t : Nat} (hy : y < 18446744073709551616) (ht : t ≤ 2046) (ha : (a : Int) = (y / 9223372036854775808 * 9223372036854775808 + y % 4503599627370496 : Nat)) : Go.bits .or .u64 (a : Int) ((t : Int) * 4503599627370496) = ((y / 9223372036854775808 * 9223372036854775808 + t * 4503599627370496 + y % 4503599627370496 : Nat) : Int) := by
  have ha' : a = y / 9223372036854775808 * 9223372036854775808 + y % 4503599627370496 := by exact_mod_cast ha
  have e : ((t : Int) * 4503599627370496) = ((t * 4503599627370496 : Nat) : Int) := by omega
  rw [e, u64_or_nat _ _ (by omega) (by omega), ha']
  congr 1
  have h1 : y / 9223372036854775808 * 9223372036854775808 + y % 4503599627370496 = (y / 9223372036854775808 * 9223372036854775808) ||| (y % 4503599627370496) := (nat_join 63 _ _ (by omega) (by omega)).symm
  rw [h1, Nat.or_assoc, Nat.or_comm (y % 4503599627370496), nat_join 52 (t * 4503599627370496) _ (by omega) (by omega), nat_join 63 _ _ (by omega) (by omega)]
  omega
end Go.Sx
/- The scaling of the program is the scaling to the nearest. Conditions: none. -/
namespace Go.Sx
set_option linter.unusedSimpArgs false
set_option linter.unusedVariables false

theorem cutE_deep {m d : Nat} (h : m < 9007199254740992) (hd : 54 ≤ d) : cutE m d = 0 := by
  have h1 : (2 : Nat) ^ 54 ≤ 2 ^ d := Nat.pow_le_pow_right (by decide) hd
  have h2 : (2 : Nat) ^ 54 = 18014398509481984 := by decide
  unfold cutE
  generalize (2 : Nat) ^ d = q at h1
  rw [h2] at h1
  rw [Nat.div_eq_of_lt (by omega), Nat.mod_eq_of_lt (by omega), decide_eq_false (by omega), show (q == 2 * m) = false from by rw [beq_eq_false_iff_ne]; omega]
  rfl

/-- the order of a number and nought -/
theorem ord_zero {y M : Nat} {s : Bool} {p : Int} (hy : Ieee.double.read y = .number s M p) (hp : -1074 ≤ p) : (ordB y 0 == some .eq) = decide (M = 0) ∧ (ordB y 0 == some .lt) = (decide (M ≠ 0) && s) ∧ (ordB y 0 == some .gt) = (decide (M ≠ 0) && !s) := by
  have h : ordB y 0 = some (compare (valF s M p) 0) := by
    show (Ieee.double.read y).order (Ieee.double.read 0) = _
    rw [hy, read_zero, order_val hp (by decide)]
    simp only [valF, Nat.zero_mul]; rfl
  rw [h]
  have hv : valF s M p = if s then -((M * 2 ^ (p + 1074).toNat : Nat) : Int) else ((M * 2 ^ (p + 1074).toNat : Nat) : Int) := rfl
  rw [hv]
  have hz : (M * 2 ^ (p + 1074).toNat = 0) ↔ M = 0 := by
    rw [Nat.mul_eq_zero]
    constructor
    · rintro (h | h)
      · exact h
      · exact absurd h (Nat.ne_of_gt (Nat.two_pow_pos _))
    · exact fun h => .inl h
  generalize M * 2 ^ (p + 1074).toNat = V at hz
  obtain ⟨c1, c2, c3⟩ := cmp_int (a := if s then -(V : Int) else (V : Int)) (b := 0)
  have e : ∀ (a b : Ordering), (some a == some b) = (a == b) := fun a b => by cases a <;> cases b <;> rfl
  rw [e, e, e, c1, c2, c3]
  by_cases hm : M = 0
  · have hV : V = 0 := hz.2 hm
    rw [hV]; cases s <;> simp [hm]
  · have hV : V ≠ 0 := fun h => hm (hz.1 h)
    have hp : 0 < V := Nat.pos_of_ne_zero hV
    cases s
    · simp [hm, hV]; omega
    · simp [hm, hV]; omega

theorem exp_mod (x : Nat) : expN (x % 9223372036854775808) = expN x ∧ fracN (x % 9223372036854775808) = fracN x ∧ negB (x % 9223372036854775808) = false := by
  refine ⟨?_, ?_, ?_⟩
  · unfold expN; omega
  · unfold fracN; omega
  · unfold negB
    have : x % 9223372036854775808 / 9223372036854775808 = 0 := by omega
    rw [this]; rfl
theorem mag_mod (x : Nat) : magN (x % 9223372036854775808) = magN x ∧ plN (x % 9223372036854775808) = plN x := by
  obtain ⟨h1, h2, _⟩ := exp_mod x
  unfold magN plN; rw [h1, h2]; exact ⟨rfl, rfl⟩

def x2045 : Nat := 2045
def maxV : Nat := 9007199254740991 * 2 ^ x2045
theorem ord_max {x : Nat} (h : expN x < 2047) : (ordB (x % 9223372036854775808) 9218868437227405311 == some .gt) = false := by
  obtain ⟨h1, h2, h3⟩ := exp_mod x
  obtain ⟨h4, h5⟩ := mag_mod x
  have hr := read_mag (x := x % 9223372036854775808) (by omega)
  rw [h3, h4, h5] at hr
  have ho : ordB (x % 9223372036854775808) 9218868437227405311 = some (compare (valF false (magN x) (plN x)) (valF false 9007199254740991 971)) := by
    show (Ieee.double.read (x % 9223372036854775808)).order (Ieee.double.read 9218868437227405311) = _
    rw [hr, read_max, order_val (plN_ge x) (by decide)]
  rw [ho]
  have hm := magN_lt x
  have hp : (plN x + 1074).toNat ≤ x2045 := by unfold plN x2045; split <;> omega
  have hle : magN x * 2 ^ (plN x + 1074).toNat ≤ maxV := Nat.mul_le_mul (by omega) (Nat.pow_le_pow_right (by decide) hp)
  have hv : valF false 9007199254740991 971 = (maxV : Int) := by
    unfold valF maxV; rw [if_neg (by decide), show ((971 : Int) + 1074).toNat = x2045 from by decide]
  have hv2 : valF false (magN x) (plN x) = ((magN x * 2 ^ (plN x + 1074).toNat : Nat) : Int) := rfl
  rw [hv, hv2]
  obtain ⟨c1, c2, c3⟩ := cmp_int (a := ((magN x * 2 ^ (plN x + 1074).toNat : Nat) : Int)) (b := (maxV : Int))
  have e : ∀ (a b : Ordering), (some a == some b) = (a == b) := fun a b => by cases a <;> cases b <;> rfl
  rw [e, c1, decide_eq_false]
  omega
theorem ord_min {x : Nat} (h : expN x < 2047) : (ordB (x % 9223372036854775808) 4503599627370496 == some .lt) = decide (expN x = 0) := by
  obtain ⟨h1, h2, h3⟩ := exp_mod x
  obtain ⟨h4, h5⟩ := mag_mod x
  have hr := read_mag (x := x % 9223372036854775808) (by omega)
  rw [h3, h4, h5] at hr
  have ho : ordB (x % 9223372036854775808) 4503599627370496 = some (compare (valF false (magN x) (plN x)) (valF false 4503599627370496 (-1074))) := by
    show (Ieee.double.read (x % 9223372036854775808)).order (Ieee.double.read 4503599627370496) = _
    rw [hr, read_min, order_val (plN_ge x) (by decide)]
  rw [ho]
  have hv : valF false 4503599627370496 (-1074) = (4503599627370496 : Int) := by decide
  have hv2 : valF false (magN x) (plN x) = ((magN x * 2 ^ (plN x + 1074).toNat : Nat) : Int) := rfl
  rw [hv, hv2]
  obtain ⟨c1, c2, c3⟩ := cmp_int (a := ((magN x * 2 ^ (plN x + 1074).toNat : Nat) : Int)) (b := (4503599627370496 : Int))
  have e : ∀ (a b : Ordering), (some a == some b) = (a == b) := fun a b => by cases a <;> cases b <;> rfl
  rw [e, c3]
  by_cases hE : expN x = 0
  · have hp : plN x = -1074 := by unfold plN; rw [if_pos hE]
    have hm : magN x = fracN x := by unfold magN; rw [if_pos hE]
    have := fracN_lt x
    rw [hp, hm, decide_eq_true hE, decide_eq_true]
    show ((fracN x * 1 : Nat) : Int) < _
    omega
  · have hm : 4503599627370496 ≤ magN x := by unfold magN; rw [if_neg hE]; omega
    have hq : 1 ≤ 2 ^ (plN x + 1074).toNat := Nat.two_pow_pos _
    have := Nat.mul_le_mul hm hq
    rw [decide_eq_false hE, decide_eq_false]
    omega

/-- the last steps of a scaling -/
def tailF (fr : Nat) (n15 : Int) : Nat :=
  let n21 := Go.bits .and .i64 (IntKind.i64.wrap (Int.fdiv (fr : Int) (2 ^ (min (52 : Int).toNat (IntKind.bits .u64))))) 2047
  let n23 := IntKind.i64.wrap (n15 + IntKind.i64.wrap (n21 - 1023))
  if n23 < -1075 then copyF 0 fr
  else if n23 > 1023 then (if ordB fr 0 == some .lt then 18442240474082181120 else 9218868437227405312)
  else if n23 < -1022 then mulF 4368491638549381120 (Go.bits .or .u64 (Go.bits .andNot .u64 (fr : Int) 9218868437227405312) (IntKind.u64.wrap ((IntKind.u64.wrap (IntKind.i64.wrap (IntKind.i64.wrap (n23 + 53) + 1023))) * 2 ^ (min (52 : Int).toNat (IntKind.bits .u64))))).toNat
  else mulF 4607182418800017408 (Go.bits .or .u64 (Go.bits .andNot .u64 (fr : Int) 9218868437227405312) (IntKind.u64.wrap ((IntKind.u64.wrap (IntKind.i64.wrap (n23 + 1023))) * 2 ^ (min (52 : Int).toNat (IntKind.bits .u64))))).toNat
theorem ldexp_tail (x : Nat) (exp : Int) : ldexpF x exp = if ordB x 0 == some .eq then x else if ordB (x % 9223372036854775808) 9218868437227405311 == some .gt then x else if nanB x then x else tailF (normF x).1 (IntKind.i64.wrap (exp + (normF x).2)) := rfl

/-- the exponent put in -/
theorem put_exp {s : Bool} {E M t y : Nat} (h1 : 1 ≤ E) (h2 : E ≤ 2046) (h3 : 4503599627370496 ≤ M) (h4 : M < 9007199254740992) (ht : 1 ≤ t) (ht2 : t ≤ 2046) (hy : y = Ieee.double.word s ((E - 1) * 4503599627370496 + M)) {c : Int} (hc : c = t) :
    Ieee.double.read (Go.bits .or .u64 (Go.bits .andNot .u64 (y : Int) 9218868437227405312) (IntKind.u64.wrap (IntKind.u64.wrap c * 2 ^ (min (52 : Int).toNat (IntKind.bits .u64))))).toNat = .number s M ((t : Int) - 1075) := by
  have hyl : y < 18446744073709551616 := by rw [hy, word_eq]; split <;> omega
  rw [keepM hyl]
  have e1 : IntKind.u64.wrap (IntKind.u64.wrap c * 2 ^ (min (52 : Int).toNat (IntKind.bits .u64))) = (t : Int) * 4503599627370496 := by
    rw [hc, show (2 : Int) ^ (min (52 : Int).toNat (IntKind.bits .u64)) = 4503599627370496 from by decide, IntKind.wrap_u64, IntKind.wrap_u64]; omega
  rw [e1, orE hyl ht2 rfl, Int.toNat_natCast]
  have e2 : y / 9223372036854775808 * 9223372036854775808 + t * 4503599627370496 + y % 4503599627370496 = Ieee.double.word s ((t - 1) * 4503599627370496 + M) := by
    rw [hy, word_eq, word_eq]; cases s <;> simp <;> omega
  rw [e2]
  obtain ⟨y', hy', _, _, _, _, hr, _⟩ := norm_word (s := s) (E := t) (M := M) ht ht2 h3 h4
  rw [← hy']; exact hr

theorem tail_eq {s : Bool} {E M fr : Nat} {n : Int} (h1 : 1 ≤ E) (h2 : E ≤ 2046) (h3 : 4503599627370496 ≤ M) (h4 : M < 9007199254740992) (hfr : fr = Ieee.double.word s ((E - 1) * 4503599627370496 + M)) (hn : -6000 ≤ n ∧ n ≤ 6000) :
    tailF fr n = nearF s M (n + E - 1075) := by
  obtain ⟨y, hy, hyl, hs, hE, hf, hr, hyi⟩ := norm_word (s := s) (E := E) (M := M) h1 h2 h3 h4
  have hyf : fr = y := by rw [hfr, hy]
  have hdiv : Int.fdiv (fr : Int) (2 ^ (min (52 : Int).toNat (IntKind.bits .u64))) = ((fr / 4503599627370496 : Nat) : Int) := by
    rw [show (2 : Int) ^ (min (52 : Int).toNat (IntKind.bits .u64)) = ((4503599627370496 : Nat) : Int) from by decide]
    rw [Int.fdiv_eq_ediv_of_nonneg _ (by omega)]; rfl
  have h21 : Go.bits .and .i64 (IntKind.i64.wrap (Int.fdiv (fr : Int) (2 ^ (min (52 : Int).toNat (IntKind.bits .u64))))) 2047 = (E : Int) := by
    rw [hdiv, and2047 (by omega)]
    rw [hyf, ← hE]; rfl
  have h23 : IntKind.i64.wrap (n + IntKind.i64.wrap (Go.bits .and .i64 (IntKind.i64.wrap (Int.fdiv (fr : Int) (2 ^ (min (52 : Int).toNat (IntKind.bits .u64))))) 2047 - 1023)) = n + E - 1023 := by
    rw [h21, IntKind.wrap_i64, IntKind.wrap_i64]; omega
  unfold tailF
  simp only [h23]
  rw [nearF_53 h3 h4]
  by_cases c1 : n + E - 1023 < -1075
  · rw [if_pos c1, if_neg (by omega), if_neg (by omega), cutE_deep h4 (by omega)]
    unfold copyF
    rw [hfr, word_eq, word_eq]; cases s <;> simp <;> omega
  rw [if_neg c1]
  by_cases c2 : n + E - 1023 > 1023
  · rw [if_pos c2, if_pos (show 2047 ≤ n + (E : Int) by omega)]
    have := (ord_zero (y := fr) (by rw [hyf]; exact hr) (by omega)).2.1
    rw [this, decide_eq_true (show M ≠ 0 by omega), Bool.true_and, word_eq]
  rw [if_neg c2, if_neg (show ¬2047 ≤ n + (E : Int) by omega)]
  have last : ∀ t : Nat, 1 ≤ t → t ≤ 2046 → ∀ (c : Int), c = t → Ieee.double.read (Go.bits .or .u64 (Go.bits .andNot .u64 (fr : Int) 9218868437227405312) (IntKind.u64.wrap (IntKind.u64.wrap c * 2 ^ (min (52 : Int).toNat (IntKind.bits .u64))))).toNat = .number s M ((t : Int) - 1075) := fun t ht ht2 c hc => put_exp h1 h2 h3 h4 ht ht2 hfr hc
  by_cases c3 : n + E - 1023 < -1022
  · rw [if_pos c3]
    have hr2 := last (n + E + 53).toNat (by omega) (by omega) (IntKind.i64.wrap (IntKind.i64.wrap (n + E - 1023 + 53) + 1023)) (by rw [IntKind.wrap_i64, IntKind.wrap_i64]; omega)
    rw [mul_read read_m53 hr2]
    rw [show (-105 : Int) + 52 + (((n + E + 53).toNat : Int) - 1075) = (n + E) - 1075 from by omega, nearF_53 h3 h4, if_neg (show ¬2047 ≤ n + (E : Int) by omega)]
  · rw [if_neg c3]
    have hr2 := last (n + E).toNat (by omega) (by omega) (IntKind.i64.wrap (n + E - 1023 + 1023)) (by rw [IntKind.wrap_i64]; omega)
    rw [mul_read read_one hr2]
    rw [show (-52 : Int) + 52 + (((n + E).toNat : Int) - 1075) = (n + E) - 1075 from by omega, nearF_53 h3 h4, if_neg (show ¬2047 ≤ n + (E : Int) by omega)]

/-- a small number drawn up to its full length -/
theorem draw_up {m : Nat} (h0 : 0 < m) (h : m < 4503599627370496) : ∃ j, 1 ≤ j ∧ j ≤ 52 ∧ 4503599627370496 ≤ m * 2 ^ j ∧ m * 2 ^ j < 9007199254740992 := by
  have h1 := Nat.lt_log2_self (n := m)
  have h2 := Nat.log2_self_le (n := m) (by omega)
  have h3 : m.log2 < 52 := (Nat.log2_lt (by omega)).2 (by simpa using h)
  refine ⟨52 - m.log2, by omega, by omega, ?_, ?_⟩
  · have := Nat.mul_le_mul_right (2 ^ (52 - m.log2)) h2
    rw [← Nat.pow_add, show m.log2 + (52 - m.log2) = 52 from by omega] at this
    simpa using this
  · have := Nat.mul_lt_mul_of_pos_right h1 (Nat.two_pow_pos (52 - m.log2))
    rw [← Nat.pow_add, show m.log2 + 1 + (52 - m.log2) = 53 from by omega] at this
    simpa using this

theorem clampN_in (n : Int) : -5000 ≤ clampN n ∧ clampN n ≤ 5000 := by unfold clampN; repeat' split <;> try omega
theorem scaleS_zero {x : Nat} {n : Int} (h : (nanB x || infB x || decide (x % 9223372036854775808 = 0)) = true) : scaleS x n = canonF x := by unfold scaleS; rw [if_pos h]
theorem scaleS_num {x : Nat} {n : Int} (h : (nanB x || infB x || decide (x % 9223372036854775808 = 0)) = false) : scaleS x n = nearF (negB x) (magN x) (plN x + n) := by
  unfold scaleS; rw [if_neg (by rw [h]; decide)]

theorem scaleF_eq {x : Nat} (hx : x < 18446744073709551616) (n : Int) : scaleF x n = scaleS x (clampN n) := by
  have hk := clampN_in n
  unfold scaleF
  generalize clampN n = k at hk
  rw [ldexp_tail]
  by_cases hE : expN x < 2047
  · have hnan : nanB x = false := by rw [nan_iff, decide_eq_false_iff_not]; omega
    have hinf : infB x = false := by rw [inf_iff, decide_eq_false_iff_not]; omega
    have hr := read_mag hE
    obtain ⟨z1, z2, z3⟩ := ord_zero hr (plN_ge x)
    rw [z1]
    have hrung := rung_eq x
    by_cases hz : magN x = 0
    · rw [decide_eq_true hz, if_pos rfl]
      have h0 : x % 9223372036854775808 = 0 := by
        unfold magN at hz
        split at hz
        · omega
        · omega
      rw [scaleS_zero (by rw [decide_eq_true h0, Bool.or_true])]
    · rw [decide_eq_false hz, if_neg (by decide), ord_max hE, if_neg (by decide), hnan, if_neg (by decide)]
      have h0 : x % 9223372036854775808 ≠ 0 := by
        intro h0
        apply hz
        unfold magN
        rw [if_pos (by omega)]; omega
      rw [scaleS_num (by rw [hnan, hinf, decide_eq_false h0]; rfl)]
      have done : tailF (normF x).1 (IntKind.i64.wrap (k + (normF x).2)) = nearF (negB x) (magN x) (plN x + k) := by
        unfold normF
        rw [ord_min hE]
        by_cases he : expN x = 0
        · rw [decide_eq_true he, if_pos rfl]
          have hm : magN x = fracN x := by unfold magN; rw [if_pos he]
          have hp : plN x = -1074 := by unfold plN; rw [if_pos he]
          obtain ⟨j, hj1, hj2, hj3, hj4⟩ := draw_up (m := magN x) (by omega) (by rw [hm]; exact fracN_lt x)
          have e1 : mulF x 4841369599423283200 = Ieee.double.word (negB x) ((53 - j - 1) * 4503599627370496 + magN x * 2 ^ j) := by
            rw [mul_read' read_p52 hr, hp]
            have := nearF_shift (negB x) (magN x) (0 + 52 + -1074) j
            rw [← this, show (0 : Int) + 52 + -1074 - (j : Int) = ((53 - j : Nat) : Int) - 1075 from by omega, nearF_53 hj3 hj4, if_neg (by omega), if_pos (by omega), show (((53 - j : Nat) : Int) - 1).toNat = 53 - j - 1 from by omega]
          show tailF (mulF x 4841369599423283200) (IntKind.i64.wrap (k + -52)) = _
          rw [tail_eq (E := 53 - j) (by omega) (by omega) hj3 hj4 e1 (by rw [IntKind.wrap_i64]; omega)]
          have := nearF_shift (negB x) (magN x) (plN x + k) j
          rw [← this, hp]
          rw [show IntKind.i64.wrap (k + -52) + ((53 - j : Nat) : Int) - 1075 = -1074 + k - (j : Int) from by rw [IntKind.wrap_i64]; omega]
        · rw [decide_eq_false he, if_neg (by decide)]
          have hm : magN x = 4503599627370496 + fracN x := by unfold magN; rw [if_neg he]
          have hp : plN x = (expN x : Int) - 1075 := by unfold plN; rw [if_neg he]
          have hf := fracN_lt x
          show tailF x (IntKind.i64.wrap (k + 0)) = _
          rw [tail_eq (s := negB x) (E := expN x) (M := magN x) (by omega) (by omega) (by omega) (by omega) ?_ (by rw [IntKind.wrap_i64]; omega)]
          · rw [hp, show IntKind.i64.wrap (k + 0) + (expN x : Int) - 1075 = (expN x : Int) - 1075 + k from by rw [IntKind.wrap_i64]; omega]
          · rw [hm, show (expN x - 1) * 4503599627370496 + (4503599627370496 + fracN x) = x % 9223372036854775808 from by omega]
            exact (word_self hx).symm
      rw [done]
      exact canonF_num (near_nan _ _ _)
  · have hE' : expN x = 2047 := by have := expN_lt x; omega
    have hrung := rung_eq x
    have hf := fracN_lt x
    have hsp : (nanB x || infB x || decide (x % 9223372036854775808 = 0)) = true := by
      rw [nan_iff, inf_iff]
      by_cases hf0 : fracN x = 0
      · rw [decide_eq_true (show expN x = 2047 ∧ fracN x = 0 from ⟨hE', hf0⟩)]; simp
      · rw [decide_eq_true (show expN x = 2047 ∧ fracN x ≠ 0 from ⟨hE', hf0⟩)]; simp
    rw [scaleS_zero hsp]
    by_cases hn : nanB x = true
    · have e1 := (ord_nan (y := 0) hn).1
      rw [e1, if_neg (by decide), hn]
      simp
    · have hn' : nanB x = false := by simpa using hn
      have hinf : infB x = true := by
        rw [inf_iff, decide_eq_true_eq]
        rw [nan_iff, decide_eq_false_iff_not] at hn'
        exact ⟨hE', Decidable.byContradiction fun h => hn' ⟨hE', h⟩⟩
      rw [inf_gt hinf]
      split
      · rfl
      · rw [if_pos (by rfl)]
end Go.Sx
/- The order of floats is that of their bits. Conditions: none. -/
namespace Go.Sx
set_option linter.unusedSimpArgs false
set_option linter.unusedVariables false

def rungN (x : Nat) : Nat := x % 9223372036854775808
/-- a float's place among those of its sign, with its sign -/
def sideR (x : Nat) : Int := if negB x then -(rungN x : Int) else (rungN x : Int)
def weightN (x : Nat) : Nat := magN x * 2 ^ (expN x - 1)

theorem weight_lt {x y : Nat} (h : rungN x < rungN y) : weightN x < weightN y := by
  have h' : expN x * 4503599627370496 + fracN x < expN y * 4503599627370496 + fracN y := by
    have hx : rungN x = _ := rung_eq x
    have hy : rungN y = _ := rung_eq y
    rw [hx, hy] at h; exact h
  have fx := fracN_lt x; have fy := fracN_lt y
  unfold weightN
  by_cases he : expN x = expN y
  · rw [he]
    apply Nat.mul_lt_mul_of_pos_right _ (Nat.two_pow_pos _)
    unfold magN
    rw [he] at h' ⊢
    split <;> omega
  · have hlt : expN x < expN y := by omega
    have hy : 4503599627370496 ≤ magN y := by unfold magN; rw [if_neg (by omega)]; omega
    have h2 : 4503599627370496 * 2 ^ (expN y - 1) ≤ magN y * 2 ^ (expN y - 1) := Nat.mul_le_mul_right _ hy
    by_cases h0 : expN x = 0
    · rw [h0]
      have hx : magN x = fracN x := by unfold magN; rw [if_pos h0]
      have hp : 1 ≤ 2 ^ (expN y - 1) := Nat.two_pow_pos _
      have h3 : 4503599627370496 * 1 ≤ 4503599627370496 * 2 ^ (expN y - 1) := Nat.mul_le_mul_left _ hp
      show magN x * 1 < _
      omega
    · have h3 : 2 ^ (expN x - 1) * 2 ≤ 2 ^ (expN y - 1) := by
        rw [← Nat.pow_succ]; exact Nat.pow_le_pow_right (by decide) (by omega)
      have hm := magN_lt x
      have hp := Nat.two_pow_pos (expN x - 1)
      have h4 : magN x * 2 ^ (expN x - 1) < 9007199254740992 * 2 ^ (expN x - 1) := Nat.mul_lt_mul_of_pos_right hm hp
      have h5 : 4503599627370496 * (2 ^ (expN x - 1) * 2) ≤ 4503599627370496 * 2 ^ (expN y - 1) := Nat.mul_le_mul_left _ h3
      generalize 2 ^ (expN x - 1) = A at h4 h5 ⊢
      omega
theorem weight_iff {x y : Nat} : (weightN x < weightN y ↔ rungN x < rungN y) ∧ (weightN x = weightN y ↔ rungN x = rungN y) := by
  have eq_of : rungN x = rungN y → weightN x = weightN y := by
    intro h
    have hx : rungN x = _ := rung_eq x
    have hy : rungN y = _ := rung_eq y
    have fx := fracN_lt x; have fy := fracN_lt y
    have e1 : expN x = expN y := by omega
    have e2 : fracN x = fracN y := by omega
    unfold weightN magN; rw [e1, e2]
  rcases Nat.lt_trichotomy (rungN x) (rungN y) with h | h | h
  · have := weight_lt h
    exact ⟨⟨fun _ => h, fun _ => this⟩, ⟨fun _ => by omega, fun _ => by omega⟩⟩
  · have := eq_of h
    exact ⟨⟨fun _ => by omega, fun _ => by omega⟩, ⟨fun _ => h, fun _ => this⟩⟩
  · have := weight_lt h
    exact ⟨⟨fun _ => by omega, fun _ => by omega⟩, ⟨fun _ => by omega, fun _ => by omega⟩⟩
theorem weight_zero {x : Nat} : weightN x = 0 ↔ rungN x = 0 := by
  have h0 : weightN 0 = 0 := by decide
  have h1 : rungN 0 = 0 := by decide
  have := (weight_iff (x := x) (y := 0)).2
  rw [h0, h1] at this; exact this
theorem cmp_sign {s t : Bool} {a b c d : Nat} (h1 : a < b ↔ c < d) (h2 : a = b ↔ c = d) (h3 : a = 0 ↔ c = 0) (h4 : b = 0 ↔ d = 0) :
    compare (if s then -(a : Int) else (a : Int)) (if t then -(b : Int) else (b : Int)) = compare (if s then -(c : Int) else (c : Int)) (if t then -(d : Int) else (d : Int)) := by
  simp only [compare, compareOfLessAndEq]
  cases s <;> cases t <;> simp only [if_true, Bool.false_eq_true, if_false]
  · have e1 : ((a : Int) < b) ↔ ((c : Int) < d) := by omega
    have e2 : ((a : Int) = b) ↔ ((c : Int) = d) := by omega
    simp only [e1, e2]
  · have e1 : ((a : Int) < -(b : Int)) ↔ ((c : Int) < -(d : Int)) := by omega
    have e2 : ((a : Int) = -(b : Int)) ↔ ((c : Int) = -(d : Int)) := by omega
    simp only [e1, e2]
  · have e1 : (-(a : Int) < (b : Int)) ↔ (-(c : Int) < (d : Int)) := by omega
    have e2 : (-(a : Int) = (b : Int)) ↔ (-(c : Int) = (d : Int)) := by omega
    simp only [e1, e2]
  · have e1 : (-(a : Int) < -(b : Int)) ↔ (-(c : Int) < -(d : Int)) := by omega
    have e2 : (-(a : Int) = -(b : Int)) ↔ (-(c : Int) = -(d : Int)) := by omega
    simp only [e1, e2]
theorem sideR_lt {x : Nat} (h : rungN x ≤ 9218868437227405312) : -9218868437227405312 ≤ sideR x ∧ sideR x ≤ 9218868437227405312 := by unfold sideR; split <;> omega
theorem ord_rung {x y : Nat} (hx : nanB x = false) (hy : nanB y = false) : ordB x y = some (compare (sideR x) (sideR y)) := by
  have num : ∀ z, nanB z = false → infB z = false → expN z < 2047 ∧ rungN z < 9218868437227405312 := by
    intro z h1 h2
    have := expN_lt z; have hf := fracN_lt z
    have hz : rungN z = _ := rung_eq z
    rw [nan_iff, decide_eq_false_iff_not] at h1
    rw [inf_iff, decide_eq_false_iff_not] at h2
    have : expN z ≠ 2047 := fun e => by
      by_cases hf0 : fracN z = 0
      · exact h2 ⟨e, hf0⟩
      · exact h1 ⟨e, hf0⟩
    omega
  have inf : ∀ z, infB z = true → rungN z = 9218868437227405312 := by
    intro z h
    simp only [infB, decide_eq_true_eq] at h; exact h
  show (Ieee.double.read x).order (Ieee.double.read y) = _
  cases ix : infB x
  · obtain ⟨ex, rx⟩ := num x hx ix
    rw [read_mag ex]
    cases iy : infB y
    · obtain ⟨ey, ry⟩ := num y hy iy
      rw [read_mag ey, order_val (plN_ge x) (plN_ge y), valN ex, valN ey]
      congr 1
      exact cmp_sign weight_iff.1 weight_iff.2 weight_zero weight_zero
    · rw [read_inf iy]
      have e := inf y iy
      show some (if negB y then Ordering.gt else Ordering.lt) = _
      congr 1
      unfold sideR
      rw [e]
      cases negB y
      · simp only [Bool.false_eq_true, if_false]
        simp only [compare, compareOfLessAndEq]
        rw [if_pos (by split <;> omega)]
      · simp only [if_true]
        simp only [compare, compareOfLessAndEq]
        rw [if_neg (by split <;> omega), if_neg (by split <;> omega)]
  · rw [read_inf ix]
    have e := inf x ix
    cases iy : infB y
    · obtain ⟨ey, ry⟩ := num y hy iy
      rw [read_mag ey]
      show some (if negB x then Ordering.lt else Ordering.gt) = _
      congr 1
      unfold sideR
      rw [e]
      cases negB x
      · simp only [Bool.false_eq_true, if_false]
        simp only [compare, compareOfLessAndEq]
        rw [if_neg (by split <;> omega), if_neg (by split <;> omega)]
      · simp only [if_true]
        simp only [compare, compareOfLessAndEq]
        rw [if_pos (by split <;> omega)]
    · rw [read_inf iy]
      have e2 := inf y iy
      show some (compare (negB y).toNat (negB x).toNat) = _
      congr 1
      unfold sideR
      rw [e, e2]
      cases negB x <;> cases negB y <;> decide

/-- the place in the row of all floats -/
def rankN (x : Nat) : Int := if nanB x then 9223372036854775807 else if 9223372036854775808 ≤ x then -1 - ((x : Int) - 9223372036854775808) else x
def ordN (a b : Nat) : Int := if rankN a < rankN b then -1 else if rankN b < rankN a then 1 else 0
theorem rank_num {x : Nat} (hx : x < 18446744073709551616) (h : nanB x = false) : rankN x = sideR x - (if negB x then 1 else 0) ∧ rungN x ≤ 9218868437227405312 := by
  have hn := negB_iff hx
  simp only [nanB, decide_eq_false_iff_not] at h
  unfold rankN sideR rungN
  rw [show nanB x = false from by simp only [nanB, decide_eq_false_iff_not]; exact h, if_neg (by decide), hn]
  by_cases hs : 9223372036854775808 ≤ x
  · rw [if_pos hs, decide_eq_true hs, if_pos rfl, if_pos rfl]; omega
  · rw [if_neg hs, decide_eq_false hs, if_neg (by decide), if_neg (by decide)]; omega
theorem rank_lt_nan {x : Nat} (hx : x < 18446744073709551616) (h : nanB x = false) : rankN x < 9223372036854775807 := by
  obtain ⟨h1, h2⟩ := rank_num hx h
  have := sideR_lt h2
  rw [h1]; split <;> omega
theorem rank_nan {x : Nat} (h : nanB x = true) : rankN x = 9223372036854775807 := by unfold rankN; rw [if_pos h]
/-- the order in Go's words: by value, and of two noughts by sign -/
theorem ordN_go {a b : Nat} (ha : a < 18446744073709551616) (hb : b < 18446744073709551616) (na : nanB a = false) (nb : nanB b = false) :
    ordN a b = if ordB a b == some .lt then -1 else if ordB a b == some .gt then 1 else if (if negB a then (0 : Int) else 1) < (if negB b then 0 else 1) then -1 else if (if negB a then (0 : Int) else 1) > (if negB b then 0 else 1) then 1 else 0 := by
  obtain ⟨h1, r1⟩ := rank_num ha na
  obtain ⟨h2, r2⟩ := rank_num hb nb
  obtain ⟨c1, c2, c3⟩ := cmp_int (a := sideR a) (b := sideR b)
  have e : ∀ (a b : Ordering), (some a == some b) = (a == b) := fun a b => by cases a <;> cases b <;> rfl
  rw [ord_rung na nb, e, e, c1, c3]
  have s1 : negB a = true → sideR a ≤ 0 := fun h => by unfold sideR; rw [if_pos h]; omega
  have s1' : negB a = false → 0 ≤ sideR a := fun h => by unfold sideR; rw [if_neg (by rw [h]; decide)]; omega
  have s2 : negB b = true → sideR b ≤ 0 := fun h => by unfold sideR; rw [if_pos h]; omega
  have s2' : negB b = false → 0 ≤ sideR b := fun h => by unfold sideR; rw [if_neg (by rw [h]; decide)]; omega
  unfold ordN
  rw [h1, h2]
  simp only [decide_eq_true_eq]
  cases hna : negB a <;> cases hnb : negB b <;> simp only [hna, hnb, if_true, Bool.false_eq_true, if_false, forall_const] at * <;> repeat' split
  all_goals omega
end Go.Sx
